/- Plain laws, part K: the document's cycle comes to its value over lists; a node's time is the program's. By an AI agent of this work. -/
import Derived.Test.YtflnkchpfbcgiaaGreatDoorPJ
namespace Go.Proofs.YtflnkchpfbcgiaaGreatDoor.Q
open Go.RowKit Go.Proofs.YtflnkchpfbcgiaaGreatDoorW.PrintWords Go.Proofs.YtflnkchpfbcgiaaGreatDoorW.PrintLast Go.Proofs.YtflnkchpfbcgiaaGreatDoorW.PrintMore
set_option linter.unusedVariables false
set_option linter.unusedSimpArgs false
def cyEnd (t : List UInt8) : Int × Int × Int :=
  if dcl t = 0 ∨ 7 < dcl t ∨ t.head? = some 48 ∨ (t.drop (dcl t)).head? ≠ some 47 then (0, 0, 2)
  else if 1000000 < dval 0 (t.take (dcl t)) then (0, 0, 3)
  else if (spanR (t.drop (dcl t + 1))).2 = 0 then (if (spanR (t.drop (dcl t + 1))).1 = 0 then (0, 0, 6) else ((dval 0 (t.take (dcl t)) : Nat), (spanR (t.drop (dcl t + 1))).1, 0))
  else (0, 0, (spanR (t.drop (dcl t + 1))).2)
theorem cyc_j4t (s : ByteArray) (x y : Int) (b : Bool) (hb : b = true) : Ev (fun k => remontoirref03_Parse.j4 k s x y b 0 0) (0, 0, 2) := Ev.step (fun k => remontoirref03_Parse.j4.eq_2 _ _ _ _ _ _ _) (Ev.pos hb (Ev.const rfl))
theorem bt_cons {c : UInt8} {t : List UInt8} {j : Nat} {b : UInt8} (h : t[j]? = some b) : bt (ofL (c :: t)) ((1 + j : Nat) : Int) = (b.toNat : Int) := bt_ofL _ _ b (by rw [Nat.add_comm 1, List.getElem?_cons_succ]; exact h)
theorem dval_take_lt {t : List UInt8} {j : Nat} (h : j ≤ dcl t) (h8 : j ≤ 8) : dval 0 (t.take j) < 100000000 := by
  have hle := dcl_le t
  have h3 := dval_lt (t.take j) 0 (fun c hc => by
    obtain ⟨q, hq, rfl⟩ := List.getElem_of_mem hc
    rw [List.length_take] at hq
    obtain ⟨e, he, hde⟩ := dcl_dig t q (by omega)
    rw [List.getElem_take]
    rw [List.getElem?_eq_getElem (by omega)] at he
    rw [Option.some.inj he]
    exact hde)
  rw [List.length_take] at h3
  have h4 : 10 ^ (min j t.length) ≤ 10 ^ 8 := Nat.pow_le_pow_right (by decide) (by omega)
  omega
theorem cyc_j4f (c0 : UInt8) (t : List UInt8) (hl : t.length < 1000000) (h0 : dcl t ≠ 0) (h7 : dcl t ≤ 7) (h48 : t.head? ≠ some 48) (h47 : (t.drop (dcl t)).head? = some 47) (b : Bool) (hb : b = false) :
    Ev (fun k => remontoirref03_Parse.j4 k (ofL (c0 :: t)) ((1 + dcl t : Nat) : Int) (dval 0 (t.take (dcl t)) : Nat) b 0 0) (cyEnd t) := by
  have hlt : dcl t < t.length := by
    rcases Nat.lt_or_ge (dcl t) t.length with h | h
    · exact h
    · rw [List.drop_of_length_le h] at h47; cases h47
  have hw : wrap64 (((1 + dcl t : Nat) : Int) + 1) = ((dcl t + 2 : Nat) : Int) := by rw [wrap_in (by omega) (by omega)]; omega
  have hx : (ofL (c0 :: t)).extract (((dcl t + 2 : Nat) : Int)).toNat (ofL (c0 :: t)).size = ofL (t.drop (dcl t + 1)) := by
    rw [Int.toNat_natCast, ext_drop]; rfl
  have hpar := par_ev (t.drop (dcl t + 1)) (by rw [List.length_drop]; omega)
  refine Ev.step (fun k => remontoirref03_Parse.j4.eq_2 _ _ _ _ _ _ _) (Ev.neg (by rw [hb]; decide) ?_)
  unfold cyEnd
  rw [if_neg (show ¬ (dcl t = 0 ∨ 7 < dcl t ∨ t.head? = some 48 ∨ (t.drop (dcl t)).head? ≠ some 47) by
    rintro (e | e | e | e)
    · exact h0 e
    · omega
    · exact h48 e
    · exact e h47)]
  refine Ev.ite (fun h => ?_) (fun h => ?_)
  · rw [if_pos (by omega)]; exact Ev.const rfl
  rw [if_neg (show ¬ (1000000 < dval 0 (t.take (dcl t))) by omega), hw]
  refine Ev.pos (by omega) (Ev.pos (by rw [ofL_size, List.length_cons]; omega) ?_)
  rw [hx]
  refine Ev.bind hpar (Ev.ite (fun h => Ev.ite (fun h2 => ?_) (fun h2 => ?_)) (fun h => ?_))
  · rw [if_pos h, if_pos h2]; exact Ev.const rfl
  · rw [if_pos h, if_neg h2]; exact Ev.const rfl
  · rw [if_neg h]; exact Ev.const rfl
theorem cyc_l0r (c0 : UInt8) (t : List UInt8) (hl : t.length < 1000000) : ∀ n j : Nat, dcl t - j = n → j ≤ dcl t → Ev (fun k => remontoirref03_Parse.l0 k (ofL (c0 :: t)) ((1 + j : Nat) : Int) (dval 0 (t.take (min j 8)) : Nat) 0 0) (cyEnd t) := by
  intro n
  have hle := dcl_le t
  induction n with
  | zero =>
    intro j h1 h2
    obtain rfl : j = dcl t := by omega
    have bad : ∀ x y, (dcl t = 0 ∨ 7 < dcl t ∨ t.head? = some 48 ∨ (t.drop (dcl t)).head? ≠ some 47) → ∀ b, b = true → Ev (fun k => remontoirref03_Parse.j4 k (ofL (c0 :: t)) x y b 0 0) (cyEnd t) := by
      intro x y h b hb
      unfold cyEnd
      rw [if_pos h]
      exact cyc_j4t _ _ _ _ hb
    have tail : Ev (fun k => remontoirref03_Parse.j3 k (ofL (c0 :: t)) ((1 + dcl t : Nat) : Int) (dval 0 (t.take (min (dcl t) 8)) : Nat) false 0 0) (cyEnd t) := by
      refine Ev.step (fun k => remontoirref03_Parse.j3.eq_2 _ _ _ _ _ _ _) (Ev.neg (by decide) (Ev.ite (fun h => ?_) (fun h3 => Ev.ite (fun h => ?_) (fun h4 => ?_))))
      · exact bad _ _ (.inl (by omega)) _ rfl
      · exact bad _ _ (.inr (.inl (by omega))) _ rfl
      have hd1 : 1 ≤ dcl t := by omega
      have hd7 : dcl t ≤ 7 := by omega
      obtain ⟨b0, hb0, _⟩ := dcl_dig t 0 (by omega)
      have hbt0 := bt_cons (c := c0) hb0
      have hh : t.head? = some b0 := by rw [← hb0]; cases t <;> rfl
      have h48 : bt (ofL (c0 :: t)) 1 = 48 ↔ t.head? = some 48 := by
        rw [show (1 : Int) = ((1 + 0 : Nat) : Int) from rfl, hbt0, hh]
        simp only [Option.some.injEq]
        exact toNat_eq (d := 48)
      refine Ev.pos (by rw [ofL_size, List.length_cons]; omega) (Ev.ite (fun h => ?_) (fun h5 => Ev.ite (fun h => ?_) (fun h6 => ?_)))
      · exact bad _ _ (.inr (.inr (.inl (h48.1 h)))) _ rfl
      · rw [ofL_size, List.length_cons] at h
        exact bad _ _ (.inr (.inr (.inr (by rw [(drop_nil hle).2 (by omega)]; simp)))) _ rfl
      · rw [ofL_size, List.length_cons] at h6
        have hlt : dcl t < t.length := by omega
        have hgd := List.getElem?_eq_getElem hlt
        have hbt := bt_cons (c := c0) hgd
        have hhd : (t.drop (dcl t)).head? = some t[dcl t] := by rw [head_get]; exact hgd
        refine Ev.pos (by omega) (Ev.pos (by rw [ofL_size, List.length_cons]; omega) ?_)
        rw [hbt, show min (dcl t) 8 = dcl t by omega]
        by_cases h47 : t[dcl t] = 47
        · exact cyc_j4f c0 t hl (by omega) hd7 (fun e => h5 (h48.2 e)) (by rw [hhd, h47]) _ (by rw [h47]; rfl)
        · refine bad _ _ (.inr (.inr (.inr (by rw [hhd]; intro e; exact h47 (Option.some.inj e))))) _ ?_
          rw [bne_iff_ne]
          intro e
          exact h47 ((toNat_eq (d := 47)).1 e)
    refine Ev.step (fun k => remontoirref03_Parse.l0.eq_2 _ _ _ _ _ _) (Ev.ite (fun h => Ev.pos (by omega) (Ev.ite (fun h2 => ?_) (fun _ => tail))) (fun _ => tail))
    rw [ofL_size, List.length_cons] at h
    have hlt : dcl t < t.length := by omega
    have hgd := List.getElem?_eq_getElem hlt
    have hbt := bt_cons (c := c0) hgd
    have hnd := dcl_end t _ hgd
    unfold isDg at hnd
    have : (decide (bt (ofL (c0 :: t)) ((1 + dcl t : Nat) : Int) ≤ 57)) = false := by
      rw [decide_eq_false_iff_not]; omega
    rw [this]
    exact tail
  | succ n ih =>
    intro j h1 h2
    obtain ⟨b, hb, hd⟩ := dcl_dig t j (by omega)
    have hj : j < t.length := by omega
    have hgb : t[j] = b := by
      rw [List.getElem?_eq_getElem hj] at hb
      exact Option.some.inj hb
    have hbt := bt_cons (c := c0) hb
    unfold isDg at hd
    have hdec : (decide (bt (ofL (c0 :: t)) ((1 + j : Nat) : Int) ≤ 57)) = true := by rw [decide_eq_true_iff]; omega
    have hnext := ih (j + 1) (by omega) (by omega)
    have g1 : ((1 + j : Nat) : Int) < ((ofL (c0 :: t)).size : Int) := by rw [ofL_size, List.length_cons]; omega
    have g2 : (0 : Int) ≤ ((1 + j : Nat) : Int) := by omega
    have g3 : bt (ofL (c0 :: t)) ((1 + j : Nat) : Int) ≥ 48 := by omega
    have HW : Aside0 (wrap64 (((1 + j : Nat) : Int) + 1) = ((1 + (j + 1) : Nat) : Int)) := ⟨by rw [wrap_in (by omega) (by omega)]; omega⟩
    refine Ev.step (fun k => remontoirref03_Parse.l0.eq_2 _ _ _ _ _ _) (Ev.pos g1 (Ev.pos g2 (Ev.pos g3 ?_)))
    rw [hdec]
    by_cases h8 : j < 8
    · have hv := dval_take_lt (t := t) (j := j) (by omega) (by omega)
      have HV : Aside0 (wrap64 (wrap64 (10 * ((dval 0 (t.take (min j 8)) : Nat) : Int)) + (bt (ofL (c0 :: t)) ((1 + j : Nat) : Int) - 48) % 256) = ((dval 0 (t.take (min (j + 1) 8)) : Nat) : Int)) := ⟨by
        rw [hbt, show min j 8 = j by omega, show min (j + 1) 8 = j + 1 by omega, List.take_succ_eq_append_getElem hj, hgb, dval_snoc]
        rw [wrap_in (x := 10 * ((dval 0 (t.take j) : Nat) : Int)) (by omega) (by omega), wrap_in (by omega) (by omega)]
        omega⟩
      have g4 : ((1 + j : Nat) : Int) < 9 := by omega
      refine Ev.step (fun k => ?_) hnext
      rw [remontoirref03_Parse.j3.eq_2, if_pos rfl, if_pos g4, if_pos g2, if_pos g1, HV.out, HW.out]
    · have g4 : ¬ ((1 + j : Nat) : Int) < 9 := by omega
      rw [show min (j + 1) 8 = min j 8 by omega] at hnext
      refine Ev.step (fun k => ?_) hnext
      rw [remontoirref03_Parse.j3.eq_2, if_pos rfl, if_neg g4, HW.out]
theorem cycR_ev (l : List UInt8) (hl : l.length < 1000000) : Ev (fun k => remontoirref03_Parse.f k (ofL l)) (cycR l) := by
  refine Ev.congr (fun k => by unfold remontoirref03_Parse.f; rfl) ?_
  cases l with
  | nil =>
    exact Ev.pos (by rw [ofL_size]; decide) (Ev.step (fun k => remontoirref03_Parse.j0.eq_2 _ _ _ _ _) (Ev.pos rfl (Ev.const (by decide))))
  | cons c t =>
    have hb0 := bt_ofL (c :: t) 0 c rfl
    rw [show ((0 : Nat) : Int) = 0 from rfl] at hb0
    have htl : t.length < 1000000 := by simp at hl; omega
    have hend := cyc_l0r c t htl (dcl t) 0 (by omega) (Nat.zero_le _)
    have e1 : ((dval 0 (t.take (min 0 8)) : Nat) : Int) = 0 := by rw [show min 0 8 = 0 from rfl, List.take_zero]; rfl
    have e2 : ((1 + 0 : Nat) : Int) = 1 := rfl
    rw [e1, e2] at hend
    refine Ev.neg (by rw [ofL_size, List.length_cons]; omega) (Ev.pos (by rw [ofL_size, List.length_cons]; omega) (Ev.step (fun k => remontoirref03_Parse.j0.eq_2 _ _ _ _ _) (Ev.ite (fun h => ?_) (fun h => ?_))))
    · rw [hb0, bne_iff_ne] at h
      unfold cycR
      rw [if_pos (show (c :: t).head? ≠ some 82 by rw [List.head?_cons]; intro e; cases e; exact h rfl)]
      exact Ev.const rfl
    · have hc : c = 82 := by
        rw [hb0, bne_iff_ne] at h
        exact (toNat_eq (d := 82)).1 (Classical.byContradiction h)
      subst hc
      have j1f : ∀ b, b = false → t.head? ≠ some 47 → Ev (fun k => remontoirref03_Parse.j1 k (ofL (82 :: t)) b 0 0) (cycR (82 :: t)) := by
        intro b hb h47
        have : cycR (82 :: t) = cyEnd t := by
          unfold cycR cyEnd
          rw [if_neg (show ¬ ((82 :: t).head? ≠ some 82) by simp), List.tail_cons, if_neg h47]
        rw [this]
        exact Ev.step (fun k => remontoirref03_Parse.j1.eq_2 _ _ _ _ _) (Ev.neg (by rw [hb]; decide) hend)
      refine Ev.ite (fun h1 => Ev.pos h1 ?_) (fun h1 => ?_)
      · rw [ofL_size, List.length_cons] at h1
        obtain ⟨b, r, rfl⟩ : ∃ b r, t = b :: r := by
          cases t with
          | nil => simp at h1
          | cons b r => exact ⟨b, r, rfl⟩
        have hb1 := bt_cons (c := 82) (t := b :: r) (j := 0) (b := b) rfl
        rw [e2] at hb1
        rw [hb1]
        by_cases h47 : b = 47
        · subst h47
          refine Ev.step (fun k => remontoirref03_Parse.j1.eq_2 _ _ _ _ _) (Ev.pos rfl (Ev.const ?_))
          unfold cycR
          rw [if_neg (show ¬ ((82 :: 47 :: r : List UInt8).head? ≠ some 82) by simp), List.tail_cons, if_pos (show (47 :: r : List UInt8).head? = some 47 from rfl)]
        · exact j1f _ (by rw [beq_eq_false_iff_ne]; intro e; exact h47 ((toNat_eq (d := 47)).1 e)) (by rw [List.head?_cons]; intro e; exact h47 (Option.some.inj e))
      · rw [ofL_size, List.length_cons] at h1
        have ht : t = [] := List.eq_nil_of_length_eq_zero (by omega)
        exact j1f _ rfl (by rw [ht]; simp)
end Go.Proofs.YtflnkchpfbcgiaaGreatDoor.Q
