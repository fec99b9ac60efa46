-- Written by this session's program xprint.py (which runs the kit's print with some functions given by hand). Lean checks it.
import Derived.Test.YtjhgdlgdejcmjaaQx0
import Derived.Test.YtjhgdlgdejcmjaaQx1
namespace Go.Proofs.Ytjhgdlgdejcmjaa.Q
open Go.RowKit Go.Proofs.YtjhgdlgdejcmjaaW.PrintWords Go.Proofs.YtjhgdlgdejcmjaaW.PrintLast Go.Proofs.YtjhgdlgdejcmjaaW.PrintMore
attribute [local go_sem] max2_int min2_int max_two min_two max_three min_three max_four min_four   -- for this text's walks alone
set_option linter.unusedVariables false
set_option linter.unusedSimpArgs false
theorem bb2_0 {p : Prop} (h : p := by first | (with_reducible assumption) | assumption) : p := h


attribute [local go_sem high] eqA38
/-! ### remontoirkeep_Grants: function 17 -/
def remontoirkeep_Grants.l0 : Nat → List (S38) → List (S38) → Int → Option (Bool)
  | 0, _, _, _ => none
  | k + 1, x0, x1, x5 => if x5 < (x0.length : Int) then (if 0 ≤ x5 then (if x5 < (x1.length : Int) then (if (!(((rd_T38 x0 x5).f0) == ((rd_T38 x1 x5).f0)) || (!(((rd_T38 x0 x5).f1) == ((rd_T38 x1 x5).f1)) || (!(((rd_T38 x0 x5).f2) == ((rd_T38 x1 x5).f2))))) = true then (some false) else (remontoirkeep_Grants.l0 k x0 x1 (wrap64 (x5 + 1)))) else (none)) else (none)) else (some true)
def remontoirkeep_Grants.f (k : Nat) (l0 : List (S38)) (l1 : List (S38)) : Option (Bool) := if (l0.length : Int) = (l1.length : Int) then (remontoirkeep_Grants.l0 k l0 l1 0) else (some false)
theorem remontoirkeep_Grants.mono_l : ∀ k, (∀ y0 y1 y2, LeO (remontoirkeep_Grants.l0 k y0 y1 y2) (remontoirkeep_Grants.l0 (k + 1) y0 y1 y2))
  | 0 => fun _ _ _ r h => by simp [remontoirkeep_Grants.l0] at h
  | k + 1 => by
    have ih0 := remontoirkeep_Grants.mono_l k
    · intro y0 y1 y2
      unfold remontoirkeep_Grants.l0
      repeat' first
      | (with_reducible exact ih0 _ _ _)
      | (with_reducible exact LeO.refl _)
      | (with_reducible exact LeO.none _)
      | (with_reducible refine LeO.ite ?_ ?_)
      | (with_reducible refine LeO.bind ?_ (fun _ => ?_))
      | exact ih0 _ _ _
      | exact LeO.none _
      | refine LeO.ite ?_ ?_
      | refine LeO.bind ?_ (fun _ => ?_)
theorem remontoirkeep_Grants.mono : ∀ a0 a1 k, LeO (remontoirkeep_Grants.f k a0 a1) (remontoirkeep_Grants.f (k + 1) a0 a1) := by
  intro a0 a1 k
  have ih0 := remontoirkeep_Grants.mono_l k
  unfold remontoirkeep_Grants.f
  repeat' first
      | (with_reducible exact ih0 _ _ _)
      | (with_reducible exact LeO.refl _)
      | (with_reducible exact LeO.none _)
      | (with_reducible refine LeO.ite ?_ ?_)
      | (with_reducible refine LeO.bind ?_ (fun _ => ?_))
      | exact ih0 _ _ _
      | exact LeO.none _
      | refine LeO.ite ?_ ?_
      | refine LeO.bind ?_ (fun _ => ?_)
set_option maxHeartbeats 8000000 in
set_option maxRecDepth 100000 in
theorem remontoirkeep_Grants.calls (k : Nat) (A0 : Option Addr) (c0 : Nat) (l0 : List (S38)) (A1 : Option Addr) (c1 : Nat) (l1 : List (S38)) (r : Bool) (w : World) (hr0 : Kd.C k38 w A0 l0.length l0) (hc0 : l0.length ≤ c0) (hr1 : Kd.C k38 w A1 l1.length l1) (hc1 : l1.length ≤ c1) (h : remontoirkeep_Grants.f k l0 l1 = some r) :
    Calls Try.prog 17 #[.slice A0 l0.length c0, .slice A1 l1.length c1] w fun e w' => e = .returned (.bool r) ∧ Drawn0 w w' := by
  have hu38 := Try.underlying38
  have HR0 := Aside0.mk hr0
  have HC0 := Aside0.mk hc0
  clear hr0 hc0
  have HR1 := Aside0.mk hr1
  have HC1 := Aside0.mk hc1
  clear hr1 hc1
  unfold remontoirkeep_Grants.f at h
  have H := h
  clear h
  by_cases c3 : (l0.length : Int) = (l1.length : Int)
  rotate_left
  · rw [if_neg c3] at H
    have c3b0 := beq_eq_false_iff_ne.mpr c3
    have c3b1 := bne_iff_ne.mpr c3
    have c3b2 : (l0.length == l1.length) = false := by first | simpa using c3 | (simp at c3 ⊢; omega)
    obtain rfl := Option.some.inj H
    go_enter Try.func17, Try.ntmps17
    go_wp2
    repeat (go_quiet (fail); try go_wp2)
    go_ret
    exact ⟨by first | rfl | (simp; done) | (simp [*]; done), by repeat (first | exact Drawn0.refl _ | apply Drawn0.step)⟩
  rw [if_pos c3] at H
  have c3b0 := beq_iff_eq.mpr c3
  have c3b1 := bne_eq_false_iff_eq.mpr c3
  have c3b2 : (l0.length == l1.length) = true := by first | simpa using c3 | (simp at c3 ⊢; omega)
  clear c3
  have H' := Aside0.mk H
  clear H
  go_enter Try.func17, Try.ntmps17
  go_wp2
  repeat (go_quiet (fail); try go_wp2)
  go_loopg [5] k (fun kq v5 w' => ∃ (x5_1 : Int), v5 = .int .i64 x5_1 ∧ Aside0 (remontoirkeep_Grants.l0 kq l0 l1 x5_1 = some r) ∧ Aside0 (kq ≤ k) ∧ Drawn0 w w')
  case atStart => exact ⟨(0), (by first | rfl | (simp; done) | (simp [*]; done)), H', ⟨Nat.le_refl _⟩, by repeat (first | exact Drawn0.refl _ | apply Drawn0.step)⟩
  case round =>
    clear H'
    try clear c1
    try clear p2
    try clear c3
    try clear c3b0
    try clear c3b1
    try clear c3b2
    obtain ⟨x5_1, rfl, HA, HK1, ⟨m1, rfl⟩⟩ := hrel
    cases gk with
    | zero => exact absurd HA.out (by simp [remontoirkeep_Grants.l0])
    | succ k1 =>
      have H := HA.out
      clear HA
      simp only [remontoirkeep_Grants.l0] at H
      by_cases c4 : x5_1 < (l0.length : Int)
      rotate_left
      · rw [if_neg c4] at H
        have c4b0 := decide_eq_false c4
        clear c4
        obtain rfl := Option.some.inj H
        go_wp2
        repeat (go_quiet (fail); try go_wp2)
        go_ret
        exact ⟨by first | rfl | (simp; done) | (simp [*]; done), by repeat (first | exact Drawn0.refl _ | apply Drawn0.step)⟩
      rw [if_pos c4] at H
      have c4b0 := decide_eq_true c4
      clear c4
      obtain ⟨c5, H⟩ := itS H
      have c5b0 := decide_eq_true c5
      clear c5
      obtain ⟨c6, H⟩ := itS H
      have c6b0 := decide_eq_true c6
      clear c6
      by_cases c7 : (!(((rd_T38 l0 x5_1).f0) == ((rd_T38 l1 x5_1).f0)) || (!(((rd_T38 l0 x5_1).f1) == ((rd_T38 l1 x5_1).f1)) || (!(((rd_T38 l0 x5_1).f2) == ((rd_T38 l1 x5_1).f2))))) = true
      · rw [if_pos c7] at H
        have c7b0 : (!(((rd_T38 l0 x5_1).f0) == ((rd_T38 l1 x5_1).f0)) || (!(((rd_T38 l0 x5_1).f1) == ((rd_T38 l1 x5_1).f1)) || (!(((rd_T38 l0 x5_1).f2) == ((rd_T38 l1 x5_1).f2))))) = true := c7
        clear c7
        obtain rfl := Option.some.inj H
        have p101 : 0 ≤ (x5_1 : Int) := of_decide_eq_true bb2_0
        have q101 : x5_1 < (l0.length : Int) := of_decide_eq_true bb2_0
        obtain ⟨ad101, e101, hx101_0, hx101_1, hx101_2⟩ := at_T38 HR0.out x5_1 p101 q101
        cases e101
        replace p101 := eq_true p101
        replace q101 := eq_true q101
        have p102 : 0 ≤ (x5_1 : Int) := of_decide_eq_true bb2_0
        have q102 : x5_1 < (l1.length : Int) := of_decide_eq_true bb2_0
        obtain ⟨ad102, e102, hx102_0, hx102_1, hx102_2⟩ := at_T38 HR1.out x5_1 p102 q102
        cases e102
        replace p102 := eq_true p102
        replace q102 := eq_true q102
        go_wp2
        repeat (go_quiet (fail); try go_wp2)
        go_ret
        exact ⟨by first | rfl | (simp; done) | (simp [*]; done), by repeat (first | exact Drawn0.refl _ | apply Drawn0.step)⟩
      rw [if_neg c7] at H
      have c7b0 : (!(((rd_T38 l0 x5_1).f0) == ((rd_T38 l1 x5_1).f0)) || (!(((rd_T38 l0 x5_1).f1) == ((rd_T38 l1 x5_1).f1)) || (!(((rd_T38 l0 x5_1).f2) == ((rd_T38 l1 x5_1).f2))))) = false := by simpa using c7
      clear c7
      have H' := Aside0.mk H
      clear H
      have p101 : 0 ≤ (x5_1 : Int) := of_decide_eq_true bb2_0
      have q101 : x5_1 < (l0.length : Int) := of_decide_eq_true bb2_0
      obtain ⟨ad101, e101, hx101_0, hx101_1, hx101_2⟩ := at_T38 HR0.out x5_1 p101 q101
      cases e101
      replace p101 := eq_true p101
      replace q101 := eq_true q101
      have p102 : 0 ≤ (x5_1 : Int) := of_decide_eq_true bb2_0
      have q102 : x5_1 < (l1.length : Int) := of_decide_eq_true bb2_0
      obtain ⟨ad102, e102, hx102_0, hx102_1, hx102_2⟩ := at_T38 HR1.out x5_1 p102 q102
      cases e102
      replace p102 := eq_true p102
      replace q102 := eq_true q102
      go_wp2
      repeat (go_quiet (fail); try go_wp2)
      go_roundg k1
      case measure => have := HK1.out; omega
      case rel => exact ⟨(wrap64 (x5_1 + 1)), (by first | rfl | (simp; done) | (simp [*]; done)), H', ⟨by have := HK1.out; omega⟩, by repeat (first | exact Drawn0.refl _ | apply Drawn0.step)⟩

/-! ### remontoirkeep_Mod: function 9 -/
def remontoirkeep_Mod.f (a0 : Int) (a1 : Int) : Option (Int) := if a1 = 0 then (none) else (if (Int.tmod a0 a1) < 0 then (some (wrap64 ((Int.tmod a0 a1) + a1))) else (some (Int.tmod a0 a1)))
set_option maxHeartbeats 8000000 in
set_option maxRecDepth 100000 in
theorem remontoirkeep_Mod.calls (a0 : Int) (a1 : Int) (r : Int) (w : World) (h : remontoirkeep_Mod.f a0 a1 = some r) :
    Calls Try.prog 9 #[.int .i64 a0, .int .i64 a1] w fun e w' => e = .returned (.int .i64 r) ∧ Drawn0 w w' := by
  unfold remontoirkeep_Mod.f at h
  have H := h
  clear h
  obtain ⟨c3, H⟩ := itN H
  have c3b0 := beq_eq_false_iff_ne.mpr c3
  have c3b1 := bne_iff_ne.mpr c3
  by_cases c4 : (Int.tmod a0 a1) < 0
  · rw [if_pos c4] at H
    have c4b0 := decide_eq_true c4
    clear c4
    obtain rfl := Option.some.inj H
    go_enter Try.func9, Try.ntmps9
    go_wp2
    go_ret
    exact ⟨by first | rfl | (simp; done) | (simp [*]; done), by repeat (first | exact Drawn0.refl _ | apply Drawn0.step)⟩
  rw [if_neg c4] at H
  have c4b0 := decide_eq_false c4
  clear c4
  obtain rfl := Option.some.inj H
  go_enter Try.func9, Try.ntmps9
  go_wp2
  go_ret
  exact ⟨by first | rfl | (simp; done) | (simp [*]; done), by repeat (first | exact Drawn0.refl _ | apply Drawn0.step)⟩

-- NOT PRINTED: function 27 (api_Grant)

end Go.Proofs.Ytjhgdlgdejcmjaa.Q
