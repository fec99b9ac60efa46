/- Plain laws, part J: the document's reading of a cycle, and a node's time, are the program's. By an AI agent of this work. -/
import Derived.Test.YtflnkchpfbcgiaaGreatDoorPH
import Derived.Test.YtflnkchpfbcgiaaGreatDoorQx11
import Derived.Test.YtflnkchpfbcgiaaGreatDoorQx9
namespace Go.Proofs.YtflnkchpfbcgiaaGreatDoor.Q
open Go.RowKit Go.Proofs.YtflnkchpfbcgiaaGreatDoorW.PrintWords Go.Proofs.YtflnkchpfbcgiaaGreatDoorW.PrintLast Go.Proofs.YtflnkchpfbcgiaaGreatDoorW.PrintMore
set_option linter.unusedVariables false
set_option linter.unusedSimpArgs false
theorem dcl_take : ∀ (l : List UInt8) (p : Nat), dcl (l.take p) = min (dcl l) p
  | [], p => by simp [dcl]
  | b :: r, 0 => by simp [dcl]
  | b :: r, p + 1 => by
    rw [List.take_succ_cons]
    unfold dcl
    split
    · rw [dcl_take r p]; omega
    · omega
theorem idx_spec : ∀ (l : List UInt8) (c : UInt8), (Lib.indexByte l c = -1 ∧ c ∉ l) ∨ ∃ p : Nat, Lib.indexByte l c = (p : Int) ∧ l[p]? = some c ∧ ∀ q, q < p → l[q]? ≠ some c
  | [], c => .inl ⟨rfl, by simp⟩
  | b :: r, c => by
    unfold Lib.indexByte
    by_cases h : b = c
    · subst h
      exact .inr ⟨0, by simp, rfl, fun q hq => absurd hq (by omega)⟩
    · have hb : (b == c) = false := by rw [beq_eq_false_iff_ne]; exact h
      rw [hb]
      rcases idx_spec r c with ⟨h1, h2⟩ | ⟨p, h1, h2, h3⟩
      · refine .inl ⟨by rw [h1]; rfl, ?_⟩
        rw [List.mem_cons]
        rintro (e | e)
        · exact h e.symm
        · exact h2 e
      · refine .inr ⟨p + 1, ?_, by simpa using h2, fun q hq => ?_⟩
        · rw [h1, if_neg (by decide), if_neg (by first | (simp; done) | (simp; omega))]
          omega
        · cases q with
          | zero => rw [List.getElem?_cons_zero]; intro e; exact h (Option.some.inj e)
          | succ q => rw [List.getElem?_cons_succ]; exact h3 q (by omega)
/-- The document's cycle. -/
def cycR (l : List UInt8) : Int × Int × Int :=
  if l.head? ≠ some 82 then (0, 0, 2)
  else if l.tail.head? = some 47 then (0, 0, 5)
  else if dcl l.tail = 0 ∨ 7 < dcl l.tail ∨ l.tail.head? = some 48 ∨ (l.tail.drop (dcl l.tail)).head? ≠ some 47 then (0, 0, 2)
  else if 1000000 < dval 0 (l.tail.take (dcl l.tail)) then (0, 0, 3)
  else if (spanR (l.tail.drop (dcl l.tail + 1))).2 = 0 then (if (spanR (l.tail.drop (dcl l.tail + 1))).1 = 0 then (0, 0, 6) else ((dval 0 (l.tail.take (dcl l.tail)) : Nat), (spanR (l.tail.drop (dcl l.tail + 1))).1, 0))
  else (0, 0, (spanR (l.tail.drop (dcl l.tail + 1))).2)
theorem head_get (l : List UInt8) (d : Nat) : (l.drop d).head? = l[d]? := by
  rw [List.head?_drop]
theorem allDg_ofL (l : List UInt8) : allDg (ofL l) ↔ dcl l = l.length := by unfold allDg; rw [dc_ofL, ofL_size]
theorem cyc_same (l : List UInt8) : cycV (ofL l) = cycR l := by
  unfold cycV cycR
  rw [cutV_ofL]
  by_cases h0 : l.head? = some 82
  · rw [if_pos h0, if_neg (show ¬ (l.head? ≠ some 82) from fun e => e h0), if_pos (show (ofL l.tail, true).2 = true from rfl)]
    show (if (splitV (ofL l.tail) 47).2.2 = true ∧ (splitV (ofL l.tail) 47).1.size = 0 then _ else _) = _
    obtain ⟨t, ht⟩ : ∃ t, l.tail = t := ⟨_, rfl⟩
    rw [ht]
    have hle := dcl_le t
    rcases idx_spec t 47 with ⟨h1, h2⟩ | ⟨p, h1, h2, h3⟩
    · have hs : splitV (ofL t) 47 = (ofL t, nothing, false) := by
        unfold splitV ixV
        rw [ofL_list, h1, if_neg (by decide)]
      rw [hs, if_neg (show ¬ (false = true ∧ (ofL t).size = 0) by simp)]
      have hn : ∀ d : Nat, t[d]? ≠ some 47 := fun d e => h2 (List.mem_of_getElem? e)
      rw [if_neg (show ¬ (t.head? = some 47) by have := hn 0; intro e; apply this; rw [← e]; cases t <;> rfl)]
      rw [if_pos (show dcl t = 0 ∨ 7 < dcl t ∨ t.head? = some 48 ∨ (t.drop (dcl t)).head? ≠ some 47 from .inr (.inr (.inr (by rw [head_get]; exact hn _))))]
      show digitsV nothing (ofL t) false = _
      unfold digitsV
      split
      · exact if_neg (by simp)
      · rfl
    · have hp : p < t.length := by
        rcases Nat.lt_or_ge p t.length with h | h
        · exact h
        · rw [List.getElem?_eq_none h] at h2; cases h2
      have hs : splitV (ofL t) 47 = (ofL (t.take p), ofL (t.drop (p + 1)), true) := by
        unfold splitV ixV
        rw [ofL_list, h1, if_pos (by omega), Int.toNat_natCast, ext_ofL, ext_drop, List.drop_zero]
      have htl : (t.take p).length = p := by rw [List.length_take]; omega
      have hdp : dcl t ≤ p := by
        rcases Nat.lt_or_ge p (dcl t) with h | h
        · obtain ⟨b, hb, hd⟩ := dcl_dig t p h
          rw [h2] at hb
          cases hb
          exact absurd hd (by decide)
        · exact h
      rw [hs]
      by_cases hp0 : p = 0
      · subst hp0
        rw [if_pos (show true = true ∧ (ofL (t.take 0)).size = 0 from ⟨rfl, rfl⟩), if_pos (show t.head? = some 47 by rw [← h2]; cases t <;> rfl)]
      · have hh47 : ¬ t.head? = some 47 := by
          intro e
          exact h3 0 (by omega) (by rw [← e]; cases t <;> rfl)
        rw [if_neg (show ¬ (true = true ∧ (ofL (t.take p)).size = 0) by rw [ofL_size, htl]; exact fun e => hp0 e.2), if_neg hh47]
        show digitsV (ofL (t.drop (p + 1))) (ofL (t.take p)) true = _
        unfold digitsV
        simp only [allDg_ofL]
        rw [dcl_take, htl, ofL_size, htl]
        by_cases hd : dcl t = p
        · rw [if_pos (show min (dcl t) p = p by omega)]
          have hh := head_bt (l := t.take p) (by omega)
          have hht : (t.take p).head? = t.head? := by
            cases t with
            | nil => simp at hp
            | cons a r => cases p with
              | zero => exact absurd rfl hp0
              | succ p => rfl
          rw [hht] at hh
          by_cases h7 : p ≤ 7 ∧ ¬ t.head? = some 48
          · rw [if_pos (show True ∧ p ≤ 7 ∧ bt (ofL (t.take p)) 0 ≠ 48 from ⟨trivial, h7.1, fun e => h7.2 (hh.1 e)⟩)]
            rw [if_neg (show ¬ (dcl t = 0 ∨ 7 < dcl t ∨ t.head? = some 48 ∨ (t.drop (dcl t)).head? ≠ some 47) by
              rintro (e | e | e | e)
              · omega
              · omega
              · exact h7.2 e
              · rw [head_get, hd] at e; exact e h2)]
            unfold roundsV
            rw [ofL_list, span_ofL, span_same, hd]
          · rw [if_neg (show ¬ (True ∧ p ≤ 7 ∧ bt (ofL (t.take p)) 0 ≠ 48) from fun e => h7 ⟨e.2.1, fun e2 => e.2.2 (hh.2 e2)⟩)]
            rw [if_pos (show dcl t = 0 ∨ 7 < dcl t ∨ t.head? = some 48 ∨ (t.drop (dcl t)).head? ≠ some 47 by
              by_cases k1 : p ≤ 7
              · by_cases k2 : t.head? = some 48
                · exact .inr (.inr (.inl k2))
                · exact absurd ⟨k1, k2⟩ h7
              · exact .inr (.inl (by omega)))]
        · rw [if_neg (show ¬ (min (dcl t) p = p) by omega)]
          rw [if_pos (show dcl t = 0 ∨ 7 < dcl t ∨ t.head? = some 48 ∨ (t.drop (dcl t)).head? ≠ some 47 from .inr (.inr (.inr (by rw [head_get]; exact h3 _ (by omega)))))]
  · rw [if_neg h0, if_pos (show l.head? ≠ some 82 from h0)]
    exact if_neg (by simp)
end Go.Proofs.YtflnkchpfbcgiaaGreatDoor.Q
