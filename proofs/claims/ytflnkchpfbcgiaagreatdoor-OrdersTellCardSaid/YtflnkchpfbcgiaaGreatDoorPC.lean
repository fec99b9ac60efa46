/- Plain laws, part C: orders.Of, LightDef, the comparisons, Jobs and Timers come to values. By an AI agent of this work. -/
import Derived.Test.YtflnkchpfbcgiaaGreatDoorPB
import Derived.Test.YtflnkchpfbcgiaaGreatDoorHKept
import Derived.Test.YtflnkchpfbcgiaaGreatDoorHSort
import Derived.Test.YtflnkchpfbcgiaaGreatDoorQx6
import Derived.Test.YtflnkchpfbcgiaaGreatDoorQx3
namespace Go.Proofs.YtflnkchpfbcgiaaGreatDoor.Q
open Go.RowKit Go.Proofs.YtflnkchpfbcgiaaGreatDoorW.PrintWords Go.Proofs.YtflnkchpfbcgiaaGreatDoorW.PrintLast Go.Proofs.YtflnkchpfbcgiaaGreatDoorW.PrintMore
set_option linter.unusedVariables false
set_option linter.unusedSimpArgs false

/-! ### LightDef -/
def lightN (ns : List S41) : Prop := ∀ j, j < ns.length → (ns.getD j z41).f4.size ≤ 80
def lightE (es : List S43) : Prop := ∀ j, j < es.length → (es.getD j z43).f4.size ≤ 80
instance (ns : List S41) : Decidable (lightN ns) := inferInstanceAs (Decidable (∀ j, j < ns.length → _))
instance (es : List S43) : Decidable (lightE es) := inferInstanceAs (Decidable (∀ j, j < es.length → _))
def lightV (s0 : ByteArray) (ns : List S41) (es : List S43) : Bool := decide (ns.length ≤ 70 ∧ es.length ≤ 110 ∧ s0.size ≤ 60 ∧ lightN ns ∧ lightE es)
theorem light_no {s0 : ByteArray} {ns : List S41} {es : List S43} (h : ¬ (ns.length ≤ 70 ∧ es.length ≤ 110 ∧ s0.size ≤ 60 ∧ lightN ns ∧ lightE es)) : lightV s0 ns es = false := by
  unfold lightV; rw [decide_eq_false_iff_not]; exact h
theorem light_l1 (s0 : ByteArray) (ns : List S41) (es : List S43) (h1 : ns.length ≤ 70) (h2 : es.length ≤ 110) (h3 : s0.size ≤ 60) (h4 : lightN ns) :
    ∀ n j : Nat, es.length - j = n → (∀ i, i < j → i < es.length → (es.getD i z43).f4.size ≤ 80) → Ev (fun k => remontoirkeep_LightDef.l1 k (j : Int) s0 ns es) (lightV s0 ns es) := by
  intro n
  induction n with
  | zero =>
    intro j hn hj
    refine Ev.step (fun k => remontoirkeep_LightDef.l1.eq_2 _ _ _ _ _) (Ev.neg (by omega) (Ev.const ?_))
    unfold lightV
    rw [decide_eq_true (show ns.length ≤ 70 ∧ es.length ≤ 110 ∧ s0.size ≤ 60 ∧ lightN ns ∧ lightE es from ⟨h1, h2, h3, h4, fun i hi => hj i (by omega) hi⟩)]
  | succ n ih =>
    intro j hn hj
    have hw : wrap64 ((j : Int) + 1) = ((j + 1 : Nat) : Int) := by rw [wrap_in (by omega) (by omega)]; omega
    refine Ev.step (fun k => remontoirkeep_LightDef.l1.eq_2 _ _ _ _ _) (Ev.pos (by omega) (Ev.pos (by omega) (Ev.ite (fun h => ?_) (fun h => ?_))))
    · have h' : ¬ (es.getD j z43).f4.size ≤ 80 := by
        have h2 : ((es.getD (j : Int).toNat z43).f4.size : Int) > 80 := h
        rw [Int.toNat_natCast] at h2; omega
      rw [light_no (fun e => h' (e.2.2.2.2 j (by omega)))]
      exact Ev.const rfl
    · have h' : (es.getD j z43).f4.size ≤ 80 := by
        have h2 : ¬ ((es.getD (j : Int).toNat z43).f4.size : Int) > 80 := h
        rw [Int.toNat_natCast] at h2; omega
      rw [hw]
      refine ih (j + 1) (by omega) (fun i hi hil => ?_)
      rcases Nat.lt_or_ge i j with h3 | h3
      · exact hj i h3 hil
      · obtain rfl : i = j := by omega
        exact h'
theorem light_l0 (s0 : ByteArray) (ns : List S41) (es : List S43) (h1 : ns.length ≤ 70) (h2 : es.length ≤ 110) (h3 : s0.size ≤ 60) :
    ∀ n j : Nat, ns.length - j = n → (∀ i, i < j → i < ns.length → (ns.getD i z41).f4.size ≤ 80) → Ev (fun k => remontoirkeep_LightDef.l0 k (j : Int) s0 ns es) (lightV s0 ns es) := by
  intro n
  induction n with
  | zero =>
    intro j hn hj
    refine Ev.step (fun k => remontoirkeep_LightDef.l0.eq_2 _ _ _ _ _) (Ev.neg (by omega) ?_)
    exact light_l1 s0 ns es h1 h2 h3 (fun i hi => hj i (by omega) hi) _ 0 rfl (fun i hi => absurd hi (by omega))
  | succ n ih =>
    intro j hn hj
    have hw : wrap64 ((j : Int) + 1) = ((j + 1 : Nat) : Int) := by rw [wrap_in (by omega) (by omega)]; omega
    refine Ev.step (fun k => remontoirkeep_LightDef.l0.eq_2 _ _ _ _ _) (Ev.pos (by omega) (Ev.pos (by omega) (Ev.ite (fun h => ?_) (fun h => ?_))))
    · have h' : ¬ (ns.getD j z41).f4.size ≤ 80 := by
        have h2 : ((ns.getD (j : Int).toNat z41).f4.size : Int) > 80 := h
        rw [Int.toNat_natCast] at h2; omega
      rw [light_no (fun e => h' (e.2.2.2.1 j (by omega)))]
      exact Ev.const rfl
    · have h' : (ns.getD j z41).f4.size ≤ 80 := by
        have h2 : ¬ ((ns.getD (j : Int).toNat z41).f4.size : Int) > 80 := h
        rw [Int.toNat_natCast] at h2; omega
      rw [hw]
      refine ih (j + 1) (by omega) (fun i hi hil => ?_)
      rcases Nat.lt_or_ge i j with h3 | h3
      · exact hj i h3 hil
      · obtain rfl : i = j := by omega
        exact h'
theorem light_j0t (b : Bool) (s0 : ByteArray) (ns : List S41) (es : List S43) (hb : b = true) (h : lightV s0 ns es = false) : Ev (fun k => remontoirkeep_LightDef.j0 k b s0 ns es) (lightV s0 ns es) := by
  rw [h]
  exact Ev.step (fun k => remontoirkeep_LightDef.j0.eq_2 _ _ _ _ _) (Ev.pos hb (Ev.const rfl))
theorem light_ev (s0 : ByteArray) (ns : List S41) (es : List S43) : Ev (fun k => remontoirkeep_LightDef.f k s0 ns es) (lightV s0 ns es) := by
  refine Ev.congr (fun k => by unfold remontoirkeep_LightDef.f; rfl) (Ev.ite (fun h => ?_) (fun h => Ev.ite (fun h2 => ?_) (fun h2 => ?_)))
  · exact light_j0t _ _ _ _ rfl (light_no (fun e => by omega))
  · exact light_j0t _ _ _ _ rfl (light_no (fun e => by omega))
  · by_cases h3 : (s0.size : Int) > 60
    · exact light_j0t _ _ _ _ (by rw [decide_eq_true_iff]; exact h3) (light_no (fun e => by omega))
    · refine Ev.step (fun k => remontoirkeep_LightDef.j0.eq_2 _ _ _ _ _) (Ev.neg (by rw [decide_eq_true_iff]; exact h3) ?_)
      exact light_l0 s0 ns es (by omega) (by omega) (by omega) _ 0 rfl (fun i hi => absurd hi (by omega))
theorem light_open {s0 : ByteArray} {ns : List S41} {es : List S43} (h : lightV s0 ns es = true) : ns.length ≤ 70 ∧ (∀ x ∈ ns, x.f4.size < 1000000) := by
  unfold lightV at h
  rw [decide_eq_true_iff] at h
  refine ⟨h.1, fun x hx => ?_⟩
  obtain ⟨j, hj, rfl⟩ := List.getElem_of_mem hx
  have := h.2.2.2.1 j hj
  rw [List.getD_eq_getElem?_getD, List.getElem?_eq_getElem hj] at this
  have h2 : ns[j].f4.size ≤ 80 := this
  omega

/-! ### orders.Of -/
def oneV (ns : List S41) (e : S45) : List S48 :=
  if e.f0 = 2 then [⟨1, e.f3, e.f2, classV ns e.f2, 0⟩]
  else if e.f0 = 3 then [⟨2, e.f3, e.f2, 0, (ticksV ns e.f2).2.1⟩]
  else if e.f0 = 4 then [⟨3, e.f3, 0, 0, 0⟩] else []
def ofV (ns : List S41) (l : List S45) : List S48 := (l.map (oneV ns)).flatten
theorem oneV_len (ns : List S41) (e : S45) : (oneV ns e).length ≤ 1 := by
  unfold oneV
  repeat' split
  all_goals simp
theorem ofV_append (ns : List S41) (a b : List S45) : ofV ns (a ++ b) = ofV ns a ++ ofV ns b := by simp [ofV]
theorem ofV_one (ns : List S41) (e : S45) : ofV ns [e] = oneV ns e := by simp [ofV]
theorem ofV_len (ns : List S41) : ∀ l : List S45, (ofV ns l).length ≤ l.length
  | [] => Nat.le_refl _
  | e :: r => by
    have h1 := ofV_len ns r
    have h2 := oneV_len ns e
    have : ofV ns (e :: r) = oneV ns e ++ ofV ns r := rfl
    rw [this, List.length_append, List.length_cons]; omega
theorem ofV_take (ns : List S41) (l : List S45) (j : Nat) (h : j < l.length) : ofV ns (l.take (j + 1)) = ofV ns (l.take j) ++ oneV ns (l.getD j z45) := by
  rw [List.take_succ_eq_append_getElem h, ofV_append, ofV_one, List.getD_eq_getElem?_getD, List.getElem?_eq_getElem h]
  rfl
theorem of_l0 (s0 : ByteArray) (ns : List S41) (es : List S43) (l : List S45) (hl : ns.length < 1000000) (hs : ∀ x ∈ ns, x.f4.size < 1000000) (hll : l.length < 1000000) :
    ∀ n j : Nat, l.length - j = n → j ≤ l.length → Ev (fun k => orders_Of.l0 k (ofV ns (l.take j)) l (l.length : Int) (j : Int) s0 ns es) (ofV ns l) := by
  intro n
  induction n with
  | zero =>
    intro j hn hj
    obtain rfl : j = l.length := by omega
    refine Ev.step (fun k => orders_Of.l0.eq_2 _ _ _ _ _ _ _ _) (Ev.neg (by omega) (Ev.const ?_))
    rw [List.take_length]
  | succ n ih =>
    intro j hn hj
    have hw : wrap64 ((j : Int) + 1) = ((j + 1 : Nat) : Int) := by rw [wrap_in (by omega) (by omega)]; omega
    have hlen : (ofV ns (l.take j)).length < 3518437208883 := by
      have := ofV_len ns (l.take j)
      rw [List.length_take] at this; omega
    have hnext := ih (j + 1) (by omega) (by omega)
    rw [ofV_take ns l j (by omega)] at hnext
    have hrd : rd_T45 l (j : Int) = l.getD j z45 := by unfold rd_T45; rw [Int.toNat_natCast]
    refine Ev.step (fun k => orders_Of.l0.eq_2 _ _ _ _ _ _ _ _) (Ev.pos (by omega) (Ev.pos (by omega) (Ev.pos (by omega) ?_)))
    rw [hw, hrd]
    unfold oneV at hnext
    refine Ev.ite (fun h => ?_) (fun h => Ev.ite (fun h2 => ?_) (fun h2 => Ev.ite (fun h3 => ?_) (fun h3 => ?_)))
    · rw [if_pos h] at hnext
      exact Ev.bind' (class_f _ _ _ _ hl) (Ev.pos hlen hnext)
    · rw [if_neg h, if_pos h2] at hnext
      exact Ev.bind (time_of_ev _ _ _ _ hl hs) (Ev.pos hlen hnext)
    · rw [if_neg h, if_neg h2, if_pos h3] at hnext
      exact Ev.pos hlen hnext
    · rw [if_neg h, if_neg h2, if_neg h3, List.append_nil] at hnext
      exact hnext
theorem of_ev (s0 : ByteArray) (ns : List S41) (es : List S43) (l : List S45) (hl : ns.length < 1000000) (hs : ∀ x ∈ ns, x.f4.size < 1000000) (hll : l.length < 1000000) : Ev (fun k => orders_Of.f k s0 ns es l) (ofV ns l) :=
  Ev.congr (fun k => by unfold orders_Of.f; rfl) (of_l0 s0 ns es l hl hs hll l.length 0 (by omega) (Nat.zero_le _))

/-! ### Equal lists compare equal -/
theorem orders_same (l : List S48) (hl : l.length < 1000000) : ∀ n j : Nat, l.length - j = n → Ev (fun k => remontoirkeep_Orders.l0 k l l (j : Int)) true := by
  intro n
  induction n with
  | zero => intro j hn; exact Ev.step (fun k => remontoirkeep_Orders.l0.eq_2 _ _ _ _) (Ev.neg (by omega) (Ev.const rfl))
  | succ n ih =>
    intro j hn
    have hw : wrap64 ((j : Int) + 1) = ((j + 1 : Nat) : Int) := by rw [wrap_in (by omega) (by omega)]; omega
    refine Ev.step (fun k => remontoirkeep_Orders.l0.eq_2 _ _ _ _) (Ev.pos (by omega) (Ev.pos (by omega) (Ev.pos (by omega) (Ev.neg (by simp) ?_))))
    rw [hw]
    exact ih (j + 1) (by omega)
theorem orders_eq (l l' : List S48) (h : l = l') (hl : l.length < 1000000) : Ev (fun k => remontoirkeep_Orders.f k l l') true := by
  subst h
  exact Ev.congr (fun k => by unfold remontoirkeep_Orders.f; rfl) (Ev.pos rfl (orders_same l hl l.length 0 (by omega)))

/-! ### Jobs -/
def jobsV (l : List S48) : List Int := Lib.compact (((keptL 1 l).map (·.f1)).mergeSort fun x y => decide (x ≤ y))
theorem kept_f (l : List S48) (kind : Int) (h : l.length < 1000000) : orders_kept.f l kind = some (keptL kind l) := by
  unfold orders_kept.f
  rw [if_pos (by omega)]
theorem timers_f (l : List S48) (h : l.length < 1000000) : orders_Timers.f l = some (keptL 2 l) := by
  unfold orders_Timers.f
  rw [kept_f l 2 h]; rfl
theorem jobs_l0 (l : List S48) (hl : l.length < 1000000) : ∀ n j : Nat, l.length - j = n → j ≤ l.length →
    Ev (fun k => orders_Jobs.l0 k ((l.take j).map (·.f1)) l (l.length : Int) (j : Int)) (Lib.compact ((l.map (·.f1)).mergeSort fun x y => decide (x ≤ y))) := by
  intro n
  induction n with
  | zero =>
    intro j hn hj
    obtain rfl : j = l.length := by omega
    rw [List.take_length]
    have e1 : slices_Sort_int_int.f (l.map (·.f1)) = some ((l.map (·.f1)).mergeSort fun x y => decide (x ≤ y)) := by
      unfold slices_Sort_int_int.f
      rw [if_pos (by simp; omega)]
    have e2 : slices_Compact_int_int.f ((l.map (·.f1)).mergeSort fun x y => decide (x ≤ y)) = some (Lib.compact ((l.map (·.f1)).mergeSort fun x y => decide (x ≤ y))) := by
      unfold slices_Compact_int_int.f
      rw [if_pos (by rw [List.length_mergeSort]; simp; omega)]
    exact Ev.step (fun k => orders_Jobs.l0.eq_2 _ _ _ _ _) (Ev.neg (by omega) (Ev.bind' e1 (Ev.bind' e2 (Ev.const rfl))))
  | succ n ih =>
    intro j hn hj
    have hw : wrap64 ((j : Int) + 1) = ((j + 1 : Nat) : Int) := by rw [wrap_in (by omega) (by omega)]; omega
    refine Ev.step (fun k => orders_Jobs.l0.eq_2 _ _ _ _ _) (Ev.pos (by omega) (Ev.pos (by omega) (Ev.pos (by omega) (Ev.pos (by simp; omega) ?_))))
    have hnext := ih (j + 1) (by omega) (by omega)
    rw [List.take_succ_eq_append_getElem (by omega), List.map_append] at hnext
    have hrd : rd_T48 l (j : Int) = l[j]'(by omega) := by unfold rd_T48; rw [Int.toNat_natCast, List.getD_eq_getElem?_getD, List.getElem?_eq_getElem (by omega)]; rfl
    rw [hw, hrd]
    exact hnext
theorem jobs_ev (l : List S48) (h : l.length < 1000000) : Ev (fun k => orders_Jobs.f k l) (jobsV l) := by
  have hk := keptL_length 1 l
  exact Ev.congr (fun k => by unfold orders_Jobs.f; rfl) (Ev.bind' (kept_f l 1 h) (jobs_l0 (keptL 1 l) (by omega) (keptL 1 l).length 0 (by omega) (Nat.zero_le _)))

/-! ### The chapter's example -/
theorem wakes_of : ofV [(⟨3, 0, 3, 0, (⟨#[]⟩ : ByteArray)⟩ : S41), (⟨8, 0, 0, 1, (⟨#[80, 84, 57, 83]⟩ : ByteArray)⟩ : S41)] [(⟨2, 0, 1, 5⟩ : S45), (⟨1, 0, 0, 0⟩ : S45), (⟨3, 0, 2, 5⟩ : S45), (⟨4, 0, 0, 5⟩ : S45)] =
    [(⟨1, 5, 1, 3, 0⟩ : S48), (⟨2, 5, 2, 0, 9⟩ : S48), (⟨3, 5, 0, 0, 0⟩ : S48)] := by kernel_rfl
theorem wakes_ev : Ev (fun k => remontoirlaw27_wakes.f k) true := by
  have hof := of_ev (⟨#[]⟩ : ByteArray) [(⟨3, 0, 3, 0, (⟨#[]⟩ : ByteArray)⟩ : S41), (⟨8, 0, 0, 1, (⟨#[80, 84, 57, 83]⟩ : ByteArray)⟩ : S41)] [] [(⟨2, 0, 1, 5⟩ : S45), (⟨1, 0, 0, 0⟩ : S45), (⟨3, 0, 2, 5⟩ : S45), (⟨4, 0, 0, 5⟩ : S45)] (by decide) (by decide) (by decide)
  rw [wakes_of] at hof
  have j1 := jobs_ev [(⟨1, 5, 1, 3, 0⟩ : S48), (⟨2, 5, 2, 0, 9⟩ : S48), (⟨3, 5, 0, 0, 0⟩ : S48)] (by decide)
  have j2 := jobs_ev [(⟨1, 5, 1, 3, 0⟩ : S48), (⟨2, 5, 2, 0, 9⟩ : S48)] (by decide)
  have v1 : jobsV [(⟨1, 5, 1, 3, 0⟩ : S48), (⟨2, 5, 2, 0, 9⟩ : S48), (⟨3, 5, 0, 0, 0⟩ : S48)] = [] := by
    unfold jobsV
    rw [show (keptL 1 [(⟨1, 5, 1, 3, 0⟩ : S48), (⟨2, 5, 2, 0, 9⟩ : S48), (⟨3, 5, 0, 0, 0⟩ : S48)]).map (·.f1) = [] from by decide, List.mergeSort_nil]
    rfl
  have v2 : jobsV [(⟨1, 5, 1, 3, 0⟩ : S48), (⟨2, 5, 2, 0, 9⟩ : S48)] = [5] := by
    unfold jobsV
    rw [show (keptL 1 [(⟨1, 5, 1, 3, 0⟩ : S48), (⟨2, 5, 2, 0, 9⟩ : S48)]).map (·.f1) = [5] from by decide, List.mergeSort_singleton]
    rfl
  rw [v1] at j1
  rw [v2] at j2
  have t1 := timers_f [(⟨1, 5, 1, 3, 0⟩ : S48), (⟨2, 5, 2, 0, 9⟩ : S48)] (by decide)
  refine Ev.congr (fun k => by unfold remontoirlaw27_wakes.f; rfl) (Ev.bind hof (Ev.pos ?_ (Ev.pos ?_ (Ev.pos ?_ (Ev.pos ?_ (Ev.pos ?_ (Ev.pos ?_ (Ev.pos ?_ (Ev.bind j1 (Ev.pos ?_ (Ev.pos ?_ (Ev.bind j2 (Ev.pos ?_ (Ev.bind' t1 (Ev.const ?_)))))))))))))))
  all_goals decide
end Go.Proofs.YtflnkchpfbcgiaaGreatDoor.Q
