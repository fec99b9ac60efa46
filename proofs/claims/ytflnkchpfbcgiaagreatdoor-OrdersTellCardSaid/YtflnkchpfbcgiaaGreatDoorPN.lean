/- Plain laws, part N: the document's Jobs; OrdersTell comes to true. By an AI agent of this work. -/
import Derived.Test.YtflnkchpfbcgiaaGreatDoorPM
namespace Go.Proofs.YtflnkchpfbcgiaaGreatDoor.Q
open Go.RowKit Go.Proofs.YtflnkchpfbcgiaaGreatDoorW.PrintWords Go.Proofs.YtflnkchpfbcgiaaGreatDoorW.PrintLast Go.Proofs.YtflnkchpfbcgiaaGreatDoorW.PrintMore
set_option linter.unusedVariables false
set_option linter.unusedSimpArgs false
def insR (t : Int) : List Int → List Int
  | [] => [t]
  | x :: r => if x < t then x :: insR t r else if x = t then x :: r else t :: x :: r
def lw (t : Int) : List Int → Nat
  | [] => 0
  | x :: r => if x < t then lw t r + 1 else 0
theorem lw_le (t : Int) : ∀ L : List Int, lw t L ≤ L.length
  | [] => Nat.le_refl _
  | x :: r => by
    unfold lw
    split
    · have := lw_le t r; simp only [List.length_cons]; omega
    · exact Nat.zero_le _
theorem lw_lt (t : Int) : ∀ (L : List Int) (i : Nat), i < lw t L → rd L (i : Int) < t
  | [], i, h => absurd h (by simp [lw])
  | x :: r, i, h => by
    unfold lw at h
    split at h
    · cases i with
      | zero => assumption
      | succ i =>
        have := lw_lt t r i (by omega)
        unfold rd at this ⊢
        rw [Int.toNat_natCast] at this ⊢
        simpa using this
    · omega
theorem lw_end (t : Int) : ∀ L : List Int, lw t L < L.length → ¬ rd L (lw t L : Int) < t
  | [], h => absurd h (by simp [lw])
  | x :: r, h => by
    by_cases hx : x < t
    · have e : lw t (x :: r) = lw t r + 1 := if_pos hx
      rw [e] at h ⊢
      have := lw_end t r (by simp only [List.length_cons] at h; omega)
      unfold rd at this ⊢
      rw [Int.toNat_natCast] at this ⊢
      simpa using this
    · have e : lw t (x :: r) = 0 := if_neg hx
      rw [e]
      exact hx
theorem ins_split (t : Int) : ∀ L : List Int, insR t L = if lw t L < L.length ∧ rd L (lw t L : Int) = t then L else L.take (lw t L) ++ ([t] ++ L.drop (lw t L))
  | [] => by simp [insR, lw]
  | x :: r => by
    by_cases hx : x < t
    · have e : lw t (x :: r) = lw t r + 1 := if_pos hx
      have e2 : insR t (x :: r) = x :: insR t r := if_pos hx
      have e3 : rd (x :: r) ((lw t r + 1 : Nat) : Int) = rd r (lw t r : Int) := by
        unfold rd
        rw [Int.toNat_natCast, Int.toNat_natCast]
        simp
      rw [e, e2, e3, ins_split t r]
      by_cases hc : lw t r < r.length ∧ rd r (lw t r : Int) = t
      · rw [if_pos hc, if_pos ⟨by simp only [List.length_cons]; omega, hc.2⟩]
      · rw [if_neg hc, if_neg (fun e => hc ⟨by have := e.1; simp only [List.length_cons] at this; omega, e.2⟩)]
        simp
    · have e : lw t (x :: r) = 0 := if_neg hx
      rw [e]
      unfold insR
      rw [if_neg hx]
      have e3 : rd (x :: r) ((0 : Nat) : Int) = x := rfl
      rw [e3]
      by_cases hc : x = t
      · rw [if_pos hc, if_pos ⟨by simp, hc⟩]
      · rw [if_neg hc, if_neg (fun e => hc e.2)]
        rfl
theorem ins_mem (t : Int) : ∀ (L : List Int) (x : Int), x ∈ insR t L ↔ x ∈ L ∨ x = t
  | [], x => by simp [insR]
  | y :: r, x => by
    unfold insR
    split
    · rw [List.mem_cons, ins_mem t r x, List.mem_cons]
      constructor
      · rintro (h | h | h)
        · exact .inl (.inl h)
        · exact .inl (.inr h)
        · exact .inr h
      · rintro ((h | h) | h)
        · exact .inl h
        · exact .inr (.inl h)
        · exact .inr (.inr h)
    · split
      · rename_i h1 h2
        subst h2
        constructor
        · exact fun h => .inl h
        · rintro (h | h)
          · exact h
          · rw [h]; exact List.mem_cons_self
      · rw [List.mem_cons]
        exact Or.comm
theorem ins_strict (t : Int) : ∀ L : List Int, L.Pairwise (· < ·) → (insR t L).Pairwise (· < ·)
  | [], _ => by simp [insR]
  | y :: r, h => by
    rw [List.pairwise_cons] at h
    unfold insR
    split
    · rename_i h1
      rw [List.pairwise_cons]
      refine ⟨fun z hz => ?_, ins_strict t r h.2⟩
      rcases (ins_mem t r z).1 hz with h2 | h2
      · exact h.1 z h2
      · rw [h2]; exact h1
    · split
      · rw [List.pairwise_cons]; exact h
      · rename_i h1 h2
        rw [List.pairwise_cons, List.pairwise_cons]
        refine ⟨fun z hz => ?_, h⟩
        rcases List.mem_cons.1 hz with h3 | h3
        · rw [h3]; omega
        · have := h.1 z h3; omega
theorem ins_len (t : Int) (L : List Int) : (insR t L).length ≤ L.length + 1 := by
  have hle := lw_le t L
  rw [ins_split]
  split
  · omega
  · rw [List.length_append, List.length_append, List.length_take, List.length_drop, List.length_singleton]; omega
def jobsJ (l : List S48) : Nat → List Int
  | 0 => []
  | j + 1 => if keeps1 1 l j = true then insR (at_ l j).f1 (jobsJ l j) else jobsJ l j
theorem jobsJ_len (l : List S48) : ∀ j, (jobsJ l j).length ≤ j
  | 0 => Nat.le_refl _
  | j + 1 => by
    have ih := jobsJ_len l j
    unfold jobsJ
    split
    · have := ins_len (at_ l j).f1 (jobsJ l j); omega
    · omega
theorem jobsJ_strict (l : List S48) : ∀ j, (jobsJ l j).Pairwise (· < ·)
  | 0 => List.Pairwise.nil
  | j + 1 => by
    unfold jobsJ
    split
    · exact ins_strict _ _ (jobsJ_strict l j)
    · exact jobsJ_strict l j
theorem jobsJ_mem (l : List S48) : ∀ j x, x ∈ jobsJ l j ↔ x ∈ (((List.range j).filter (keeps1 1 l)).map (at_ l)).map (·.f1)
  | 0, x => by simp [jobsJ]
  | j + 1, x => by
    have ih := jobsJ_mem l j x
    rw [List.range_succ, List.filter_append, List.map_append, List.map_append, List.mem_append, ← ih]
    rw [show jobsJ l (j + 1) = if keeps1 1 l j = true then insR (at_ l j).f1 (jobsJ l j) else jobsJ l j from rfl]
    by_cases h : keeps1 1 l j = true
    · rw [if_pos h, ins_mem, show [j].filter (keeps1 1 l) = [j] by rw [List.filter_cons, h]; rfl]
      simp
    · rw [if_neg h, show [j].filter (keeps1 1 l) = [] by rw [List.filter_cons, (Bool.not_eq_true _).mp h]; rfl]
      simp
theorem jobsJ_all (l : List S48) : jobsJ l l.length = jobsV l :=
  strict_ext (jobsJ_strict l _) (jobsV_strict l) (fun x => by rw [jobsJ_mem, jobsV_mem, kept_all 1 (by decide)])
theorem jobsR_j3 (l : List S48) (j : Nat) (hj : j < l.length) (hl : l.length < 1000000) (v : List Int) (hnext : Ev (fun k => remontoirref27_Jobs.l0 k l (insR (at_ l j).f1 (jobsJ l j)) ((j + 1 : Nat) : Int)) v) :
    Ev (fun k => remontoirref27_Jobs.j3 k l (jobsJ l j) (j : Int) (lw (at_ l j).f1 (jobsJ l j) : Int)) v := by
  have hw : wrap64 ((j : Int) + 1) = ((j + 1 : Nat) : Int) := by rw [wrap_in (by omega) (by omega)]; omega
  have hlen := jobsJ_len l j
  obtain ⟨X, hX⟩ : ∃ X, jobsJ l j = X := ⟨_, rfl⟩
  obtain ⟨t, ht⟩ : ∃ t, (at_ l j).f1 = t := ⟨_, rfl⟩
  rw [hX, ht] at hnext ⊢
  rw [hX] at hlen
  have hle := lw_le t X
  obtain ⟨q, hq⟩ : ∃ q, lw t X = q := ⟨_, rfl⟩
  rw [ins_split, hq] at hnext
  rw [hq] at hle ⊢
  refine Ev.step (fun k => remontoirref27_Jobs.j3.eq_2 _ _ _ _ _) ?_
  rw [rd_at, ht, hw, Int.toNat_natCast]
  refine Ev.ite (fun h => ?_) (fun h => Ev.pos (by omega) (Ev.pos (by omega) (Ev.pos (by omega) (Ev.pos (by omega) (Ev.ite (fun h2 => ?_) (fun h2 => ?_))))))
  · rw [if_neg (fun e => by have := e.1; omega)] at hnext
    exact Ev.pos (by omega) (Ev.pos (by omega) (Ev.bind' rfl (Ev.pos (by omega) (Ev.pos (by omega) (Ev.bind' rfl (Ev.bind' rfl (Ev.pos (by simp only [List.length_singleton, List.length_drop]; omega) (Ev.bind' rfl (Ev.pos (by simp only [List.length_append, List.length_singleton, List.length_drop]; omega) (Ev.pos (by simp only [List.length_append, List.length_singleton, List.length_drop, List.length_take]; omega) hnext))))))))))
  · rw [if_pos ⟨by omega, h2⟩] at hnext
    exact hnext
  · rw [if_neg (fun e => h2 e.2)] at hnext
    exact Ev.pos (by omega) (Ev.bind' rfl (Ev.bind' rfl (Ev.bind' rfl (Ev.pos (by simp only [List.length_singleton, List.length_drop]; omega) (Ev.bind' rfl (Ev.pos (by simp only [List.length_append, List.length_singleton, List.length_drop]; omega) (Ev.pos (by simp only [List.length_append, List.length_singleton, List.length_drop, List.length_take]; omega) hnext)))))))
theorem jobsR_l1 (l : List S48) (j : Nat) (hj : j < l.length) (hl : l.length < 1000000) (v : List Int) (h3 : Ev (fun k => remontoirref27_Jobs.j3 k l (jobsJ l j) (j : Int) (lw (at_ l j).f1 (jobsJ l j) : Int)) v) :
    ∀ n i : Nat, lw (at_ l j).f1 (jobsJ l j) - i = n → i ≤ lw (at_ l j).f1 (jobsJ l j) → Ev (fun k => remontoirref27_Jobs.l1 k l (jobsJ l j) (j : Int) (i : Int)) v := by
  intro n
  have hle := lw_le (at_ l j).f1 (jobsJ l j)
  have hlen := jobsJ_len l j
  induction n with
  | zero =>
    intro i hn hi
    obtain rfl : i = lw (at_ l j).f1 (jobsJ l j) := by omega
    refine Ev.step (fun k => remontoirref27_Jobs.l1.eq_2 _ _ _ _ _) (Ev.ite (fun h => Ev.pos (by omega) (Ev.pos (by omega) (Ev.pos (by omega) (Ev.neg ?_ h3)))) (fun h => h3))
    rw [rd_at]
    exact lw_end _ _ (by omega)
  | succ n ih =>
    intro i hn hi
    have hw : wrap64 ((i : Int) + 1) = ((i + 1 : Nat) : Int) := by rw [wrap_in (by omega) (by omega)]; omega
    refine Ev.step (fun k => remontoirref27_Jobs.l1.eq_2 _ _ _ _ _) (Ev.pos (by omega) (Ev.pos (by omega) (Ev.pos (by omega) (Ev.pos (by omega) (Ev.pos ?_ ?_)))))
    · rw [rd_at]
      exact lw_lt _ _ i (by omega)
    · rw [hw]
      exact ih (i + 1) (by omega) (by omega)
theorem jobsR_l0 (l : List S48) (hl : l.length < 1000000) : ∀ n j : Nat, l.length - j = n → j ≤ l.length → Ev (fun k => remontoirref27_Jobs.l0 k l (jobsJ l j) (j : Int)) (jobsV l) := by
  intro n
  induction n with
  | zero =>
    intro j hn hj
    obtain rfl : j = l.length := by omega
    rw [jobsJ_all]
    exact Ev.step (fun k => remontoirref27_Jobs.l0.eq_2 _ _ _ _) (Ev.neg (by omega) (Ev.const rfl))
  | succ n ih =>
    intro j hn hj
    have hjl : j < l.length := by omega
    have hw : wrap64 ((j : Int) + 1) = ((j + 1 : Nat) : Int) := by rw [wrap_in (by omega) (by omega)]; omega
    have hnext := ih (j + 1) (by omega) (by omega)
    have j1t : ∀ b, b = true → keeps1 1 l j = false → Ev (fun k => remontoirref27_Jobs.j1 k l (jobsJ l j) (j : Int) b) (jobsV l) := by
      intro b hb hk
      refine Ev.step (fun k => remontoirref27_Jobs.j1.eq_2 _ _ _ _ _) (Ev.pos hb ?_)
      rw [hw]
      unfold jobsJ at hnext
      rw [if_neg (by rw [hk]; decide)] at hnext
      exact hnext
    have j1f : ∀ b, b = false → keeps1 1 l j = true → Ev (fun k => remontoirref27_Jobs.j1 k l (jobsJ l j) (j : Int) b) (jobsV l) := by
      intro b hb hk
      refine Ev.step (fun k => remontoirref27_Jobs.j1.eq_2 _ _ _ _ _) (Ev.neg (by rw [hb]; decide) ?_)
      have e : jobsJ l (j + 1) = insR (at_ l j).f1 (jobsJ l j) := if_pos hk
      rw [e] at hnext
      exact jobsR_l1 l j hjl hl _ (jobsR_j3 l j hjl hl _ hnext) _ 0 rfl (Nat.zero_le _)
    refine Ev.step (fun k => remontoirref27_Jobs.l0.eq_2 _ _ _ _) (Ev.pos (by omega) (Ev.pos (by omega) ?_))
    rw [rd_at]
    refine Ev.ite (fun h => Ev.bind (taken_ev l j hjl hl) ?_) (fun h => ?_)
    · cases ht : tk l l.length j with
      | true => exact j1t _ rfl (by unfold keeps1 keeps_; rw [ht]; simp)
      | false => exact j1f _ rfl (by unfold keeps1 keeps_; rw [ht, h]; rfl)
    · exact j1t _ rfl (by
        unfold keeps1 keeps_
        have : ((at_ l j).f0 == 1) = false := by rw [beq_eq_false_iff_ne]; exact h
        rw [this, Bool.false_and])
theorem jobsR_ev (l : List S48) (hl : l.length < 1000000) : Ev (fun k => remontoirref27_Jobs.f k l) (jobsV l) :=
  Ev.congr (fun k => by unfold remontoirref27_Jobs.f; rfl) (jobsR_l0 l hl l.length 0 (by omega) (Nat.zero_le _))
theorem tell_true (s0 : ByteArray) (ns : List S41) (es : List S43) (l : List S45) (o : List S48) : ∃ k, remontoirlaw27_OrdersTell.f k s0 ns es l o = some true := by
  refine Ev.get (f := fun k => remontoirlaw27_OrdersTell.f k s0 ns es l o) ?_
  have jt : ∀ b, b = true → Ev (fun k => remontoirlaw27_OrdersTell.j0 k l o b s0 ns es) true := fun b hb => Ev.step (fun k => remontoirlaw27_OrdersTell.j0.eq_2 _ _ _ _ _ _ _) (Ev.pos hb wakes_tail2)
  refine Ev.congr (fun k => by unfold remontoirlaw27_OrdersTell.f; rfl) (Ev.bind (light_ev s0 ns es) (Ev.ite (fun h => Ev.ite (fun h1 => jt _ rfl) (fun h1 => ?_)) (fun h => jt _ rfl)))
  obtain ⟨hl, hs⟩ := light_open h
  by_cases h2 : (o.length : Int) > 80
  · exact jt _ (by rw [decide_eq_true_iff]; exact h2)
  · have hkl := keptL_length 2 o
    have hjl := jobsV_len o
    have hol := ofV_len ns l
    exact Ev.step (fun k => remontoirlaw27_OrdersTell.j0.eq_2 _ _ _ _ _ _ _) (Ev.neg (by rw [decide_eq_true_iff]; exact h2)
      (Ev.bind (of_ev s0 ns es l (by omega) hs (by omega)) (Ev.bind (ofR_ev s0 ns es l (by omega) hs (by omega)) (Ev.bind (orders_eq _ _ rfl (by omega)) (Ev.pos rfl
        (Ev.bind (jobs_ev o (by omega)) (Ev.bind (jobsR_ev o (by omega)) (Ev.bind (ints_eq _ _ rfl (by omega)) (Ev.pos rfl
          (Ev.bind' (timers_f o (by omega)) (Ev.bind (timersR_ev o (by omega)) (Ev.bind (orders_eq _ _ rfl (by omega)) (Ev.pos rfl wakes_tail2)))))))))))))
end Go.Proofs.YtflnkchpfbcgiaaGreatDoor.Q
