/- Plain laws, part L: the document's time of a node and its orders are the program's. By an AI agent of this work. -/
import Derived.Test.YtflnkchpfbcgiaaGreatDoorPK
import Derived.Test.YtflnkchpfbcgiaaGreatDoorPC
import Derived.Test.YtflnkchpfbcgiaaGreatDoorQx11
import Derived.Test.YtflnkchpfbcgiaaGreatDoorQx7
namespace Go.Proofs.YtflnkchpfbcgiaaGreatDoor.Q
open Go.RowKit Go.Proofs.YtflnkchpfbcgiaaGreatDoorW.PrintWords Go.Proofs.YtflnkchpfbcgiaaGreatDoorW.PrintLast Go.Proofs.YtflnkchpfbcgiaaGreatDoorW.PrintMore
set_option linter.unusedVariables false
set_option linter.unusedSimpArgs false
theorem finL_nonneg {t : Int} (r : List UInt8) (h : 0 ≤ t) : 0 ≤ (finL t r).1 := by
  unfold finL
  repeat' split
  all_goals first | decide | exact h
theorem nextL_nonneg (r : List UInt8) : 0 ≤ (nextL r).1 := by
  unfold nextL
  split
  · exact Int.natCast_nonneg _
  · decide
theorem partL_nonneg : ∀ (m : Nat) (r : List UInt8) (t last : Int), 0 ≤ t → 0 ≤ (partL m r t last).1
  | 0, _, _, _, _ => by show (0 : Int) ≤ 0; decide
  | m + 1, r, t, last, h => by
    have hm := (moreV_range (n := (nextL r).1) (u := span_Parse.unit (placeV (nextL r).2.1)) h (nextL_nonneg r) (unit_range _).1).1
    unfold partL
    split
    · decide
    · split
      · exact finL_nonneg _ hm
      · exact partL_nonneg m _ _ _ hm
theorem spanL_nonneg (l : List UInt8) : 0 ≤ (spanL l).1 := by
  have h1 := (moreV_range (t := 0) (u := 604800) (by decide) (nextL_nonneg l.tail) (by decide)).1
  have h2 := (moreV_range (t := 0) (u := 86400) (by decide) (nextL_nonneg l.tail) (by decide)).1
  unfold spanL timeL
  repeat' split
  all_goals first | decide | exact finL_nonneg _ h1 | exact finL_nonneg _ h2 | exact partL_nonneg _ _ _ _ (by decide) | exact partL_nonneg _ _ _ _ h2
theorem spanR_head (l : List UInt8) (h : (spanR l).2 = 0) : l.head? = some 80 := by
  rw [← span_same] at h
  unfold spanL at h
  split at h
  · assumption
  · cases h
theorem once_ev (l : List UInt8) (hl : l.length < 1000000) : Ev (fun k => remontoirref18_once.f k (ofL l)) (if (spanR l).2 = 0 ∧ (spanR l).1 ≠ 0 then (1, (spanR l).1, true) else (0, 0, false)) := by
  refine Ev.congr (fun k => by unfold remontoirref18_once.f; rfl) (Ev.bind (par_ev l hl) (Ev.ite (fun h => Ev.ite (fun h2 => ?_) (fun h2 => ?_)) (fun h => ?_)))
  · rw [if_neg (fun e => e.2 h2)]; exact Ev.const rfl
  · rw [if_pos ⟨h, h2⟩]; exact Ev.const rfl
  · rw [if_neg (fun e => h e.1)]; exact Ev.const rfl
theorem is_f (s0 : ByteArray) (ns : List S41) (es : List S43) (n : Int) : remontoirref18_Is.f s0 ns es n = some (decide (isV ns n)) := by
  unfold remontoirref18_Is.f
  by_cases h : n ≥ 1
  · rw [if_pos h]
    congr 1
    rw [decide_eq_decide]
    exact ⟨fun h2 => ⟨h, h2⟩, fun h2 => h2.2⟩
  · rw [if_neg h]
    congr 1
    exact (decide_eq_false (fun e => h e.1)).symm
theorem kind_f (s0 : ByteArray) (ns : List S41) (es : List S43) (n : Int) (hl : ns.length < 1000000) : remontoirref18_Kind.f s0 ns es n = some (if isV ns n then (nodeV ns n).f0 else 0) := by
  unfold remontoirref18_Kind.f
  rw [is_f]
  show (if decide (isV ns n) = true then _ else _) = _
  by_cases h : isV ns n
  · have h1 := h.1
    have h2 := h.2
    have hw : wrap64 (n - 1) = n - 1 := wrap_in (by omega) (by omega)
    rw [if_pos (decide_eq_true h), if_pos h, hw, if_pos (by omega), if_pos (by omega)]
    rfl
  · rw [if_neg (by rw [decide_eq_true_iff]; exact h), if_neg h]
theorem timeR_j1 (l : List UInt8) (hl : l.length < 1000000) (kind : Int) (b : Bool) (hb : b = (kind != 9)) :
    Ev (fun k => remontoirref18_Time.j1 k (ofL l) false b 0 0) (if kind = 9 ∧ (cycR l).2.2 = 0 ∧ ¬ (cycR l).1 > 9 then ((cycR l).1, (cycR l).2.1, true) else (0, 0, false)) := by
  refine Ev.step (fun k => remontoirref18_Time.j1.eq_2 _ _ _ _ _ _) (Ev.ite (fun h => ?_) (fun h => Ev.bind (cycR_ev l hl) (Ev.ite (fun h2 => Ev.ite (fun h3 => ?_) (fun h3 => ?_)) (fun h2 => ?_))))
  · rw [hb, bne_iff_ne] at h
    rw [if_neg (fun e => h e.1)]; exact Ev.const rfl
  · rw [if_neg (fun e => e.2.2 h3)]; exact Ev.const rfl
  · have h9 : kind = 9 := by
      rw [hb, bne_iff_ne] at h
      exact Classical.byContradiction h
    rw [if_pos ⟨h9, h2, h3⟩]; exact Ev.const rfl
  · rw [if_neg (fun e => h2 e.2.1)]; exact Ev.const rfl
theorem timeR_ev (s0 : ByteArray) (ns : List S41) (es : List S43) (n : Int) (hl : ns.length < 1000000) (hs : ∀ x ∈ ns, x.f4.size < 1000000) : Ev (fun k => remontoirref18_Time.f k s0 ns es n) (ticksV ns n) := by
  refine Ev.congr (fun k => by unfold remontoirref18_Time.f; rfl) (Ev.bind' (kind_f s0 ns es n hl) ?_)
  have j0t : ∀ kd b, b = true → ¬ (isV ns n ∧ (kd = 4 ∨ kd = 8 ∨ kd = 9)) → kd = (if isV ns n then (nodeV ns n).f0 else 0) → Ev (fun k => remontoirref18_Time.j0 k n kd b s0 ns es) (ticksV ns n) := by
    intro kd b hb hn hk
    have : ticksV ns n = (0, 0, false) := by
      unfold ticksV
      by_cases hi : isV ns n
      · rw [if_pos hi] at hk
        have : waitsV (nodeV ns n).f0 (nodeV ns n).f4 = (0, 0, false) := by
          unfold waitsV
          rw [← hk, if_neg (fun e => hn ⟨hi, e⟩)]
        rw [this]
        exact if_neg (by simp)
      · exact if_neg (fun e => hi e.1)
    rw [this]
    exact Ev.step (fun k => remontoirref18_Time.j0.eq_2 _ _ _ _ _ _ _) (Ev.pos hb (Ev.const rfl))
  have j0f : ∀ kd b, b = false → isV ns n → (kd = 4 ∨ kd = 8 ∨ kd = 9) → kd = (nodeV ns n).f0 → Ev (fun k => remontoirref18_Time.j0 k n kd b s0 ns es) (ticksV ns n) := by
    intro kd b hb hi hkd hk
    have h1 := hi.1
    have h2 := hi.2
    have hw : wrap64 (n - 1) = n - 1 := wrap_in (by omega) (by omega)
    have hrd : rd_T41 ns (n - 1) = nodeV ns n := rfl
    have hz : (nodeV ns n).f4.size < 1000000 := by
      unfold nodeV
      have hlt : (n - 1).toNat < ns.length := by omega
      rw [List.getD_eq_getElem?_getD, List.getElem?_eq_getElem hlt]
      exact hs _ (List.getElem_mem hlt)
    obtain ⟨L, hL⟩ : ∃ L, (nodeV ns n).f4 = ofL L := ⟨_, (ofL_of _).symm⟩
    have hLl : L.length < 1000000 := by rw [hL, ofL_size] at hz; exact hz
    have hpos := spanL_nonneg L
    rw [span_same] at hpos
    have hval : ticksV ns n = if (spanR L).2 = 0 ∧ (spanR L).1 ≠ 0 then (1, (spanR L).1, true) else (if kd = 9 ∧ (cycR L).2.2 = 0 ∧ ¬ (cycR L).1 > 9 then ((cycR L).1, (cycR L).2.1, true) else (0, 0, false)) := by
      unfold ticksV waitsV
      rw [← hk, hL, span_ofL, span_same, cyc_same, if_pos hkd]
      by_cases k1 : (spanR L).2 = 0
      · rw [if_pos k1]
        by_cases k2 : (spanR L).1 = 0
        · have hc : ¬ (kd = 9 ∧ (cycR L).2.2 = 0 ∧ ¬ (cycR L).1 > 9) := by
            rintro ⟨_, e, _⟩
            have hh := spanR_head L k1
            unfold cycR at e
            rw [if_pos (show L.head? ≠ some 82 by rw [hh]; intro e2; cases e2)] at e
            cases e
          rw [if_neg (show ¬ ((spanR L).2 = 0 ∧ (spanR L).1 ≠ 0) from fun e => e.2 k2), if_neg hc]
          exact if_neg (by simp [k2])
        · rw [if_pos (show (spanR L).2 = 0 ∧ (spanR L).1 ≠ 0 from ⟨k1, k2⟩)]
          exact if_pos ⟨hi, by simp; omega⟩
      · rw [if_neg k1, if_neg (show ¬ ((spanR L).2 = 0 ∧ (spanR L).1 ≠ 0) from fun e => k1 e.1)]
        by_cases k3 : kd = 9 ∧ (cycR L).2.2 = 0 ∧ ¬ (cycR L).1 > 9
        · rw [if_pos k3]
          exact if_pos ⟨hi, rfl⟩
        · rw [if_neg k3]
          exact if_neg (by simp)
    rw [hval]
    refine Ev.step (fun k => remontoirref18_Time.j0.eq_2 _ _ _ _ _ _ _) (Ev.neg (by rw [hb]; decide) ?_)
    rw [hw, hrd, hL]
    refine Ev.pos (by omega) (Ev.pos (by omega) (Ev.bind (once_ev L hLl) ?_))
    by_cases k1 : (spanR L).2 = 0 ∧ (spanR L).1 ≠ 0
    · rw [if_pos k1, if_pos k1]
      exact Ev.pos rfl (Ev.step (fun k => remontoirref18_Time.j1.eq_2 _ _ _ _ _ _) (Ev.pos rfl (Ev.const rfl)))
    · rw [if_neg k1, if_neg k1]
      exact Ev.neg (show ¬ (false = true) by decide) (timeR_j1 L hLl kd _ rfl)
  by_cases hi : isV ns n
  · rw [if_pos hi]
    refine Ev.ite (fun h => ?_) (fun h => Ev.ite (fun h2 => ?_) (fun h2 => ?_))
    · exact j0f _ _ rfl hi (.inl h) rfl
    · exact j0f _ _ rfl hi (.inr (.inl h2)) rfl
    · by_cases h3 : (nodeV ns n).f0 = 9
      · exact j0f _ _ (by rw [bne_eq_false_iff_eq]; exact h3) hi (.inr (.inr h3)) rfl
      · exact j0t _ _ (by rw [bne_iff_ne]; exact h3) (by rintro ⟨_, e | e | e⟩; exact h e; exact h2 e; exact h3 e) (by rw [if_pos hi])
  · rw [if_neg hi]
    exact Ev.neg (by decide) (Ev.neg (by decide) (j0t _ _ rfl (fun e => hi e.1) (by rw [if_neg hi])))
theorem ofR_l0 (s0 : ByteArray) (ns : List S41) (es : List S43) (l : List S45) (hl : ns.length < 1000000) (hs : ∀ x ∈ ns, x.f4.size < 1000000) (hll : l.length < 1000000) :
    ∀ n j : Nat, l.length - j = n → j ≤ l.length → Ev (fun k => remontoirref27_Of.l0 k l (ofV ns (l.take j)) (j : Int) s0 ns es) (ofV ns l) := by
  intro n
  induction n with
  | zero =>
    intro j hn hj
    obtain rfl : j = l.length := by omega
    refine Ev.step (fun k => remontoirref27_Of.l0.eq_2 _ _ _ _ _ _ _) (Ev.neg (by omega) (Ev.const ?_))
    rw [List.take_length]
  | succ n ih =>
    intro j hn hj
    have hw : wrap64 ((j : Int) + 1) = ((j + 1 : Nat) : Int) := by rw [wrap_in (by omega) (by omega)]; omega
    have hlen : (ofV ns (l.take j)).length < 3518437208883 := by
      have := ofV_len ns (l.take j)
      rw [List.length_take] at this; omega
    have hnext := ih (j + 1) (by omega) (by omega)
    rw [ofV_take ns l j (by omega)] at hnext
    have hrd : rd_T45 l (j : Int) = l.getD j z45 := by unfold rd_T45; rw [Int.toNat_natCast]
    refine Ev.step (fun k => remontoirref27_Of.l0.eq_2 _ _ _ _ _ _ _) (Ev.pos (by omega) (Ev.pos (by omega) ?_))
    rw [hw, hrd]
    unfold oneV at hnext
    refine Ev.ite (fun h => ?_) (fun h => Ev.ite (fun h2 => ?_) (fun h2 => Ev.ite (fun h3 => ?_) (fun h3 => ?_)))
    · rw [if_pos h] at hnext
      unfold classV at hnext
      refine Ev.bind' (is_f _ _ _ _) (Ev.ite (fun hi => ?_) (fun hi => ?_))
      · rw [decide_eq_true_iff] at hi
        have h1 := hi.1
        have h2 := hi.2
        have hw2 : wrap64 ((l.getD j z45).f2 - 1) = (l.getD j z45).f2 - 1 := wrap_in (by omega) (by omega)
        rw [if_pos hi] at hnext
        rw [hw2]
        exact Ev.pos (by omega) (Ev.pos (by omega) (Ev.pos hlen hnext))
      · rw [decide_eq_true_iff] at hi
        rw [if_neg hi] at hnext
        exact Ev.pos hlen hnext
    · rw [if_neg h, if_pos h2] at hnext
      exact Ev.bind (timeR_ev _ _ _ _ hl hs) (Ev.pos hlen hnext)
    · rw [if_neg h, if_neg h2, if_pos h3] at hnext
      exact Ev.pos hlen hnext
    · rw [if_neg h, if_neg h2, if_neg h3, List.append_nil] at hnext
      exact hnext
theorem ofR_ev (s0 : ByteArray) (ns : List S41) (es : List S43) (l : List S45) (hl : ns.length < 1000000) (hs : ∀ x ∈ ns, x.f4.size < 1000000) (hll : l.length < 1000000) : Ev (fun k => remontoirref27_Of.f k s0 ns es l) (ofV ns l) :=
  Ev.congr (fun k => by unfold remontoirref27_Of.f; rfl) (ofR_l0 s0 ns es l hl hs hll l.length 0 (by omega) (Nat.zero_le _))
end Go.Proofs.YtflnkchpfbcgiaaGreatDoor.Q
