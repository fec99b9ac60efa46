-- Written by this session's program xprint.py (which runs the kit's print with some functions given by hand). Lean checks it.
import Derived.Test.YtflnkchpfbcgiaaGreatDoorQx0
namespace Go.Proofs.YtflnkchpfbcgiaaGreatDoor.Q
open Go.RowKit Go.Proofs.YtflnkchpfbcgiaaGreatDoorW.PrintWords Go.Proofs.YtflnkchpfbcgiaaGreatDoorW.PrintLast Go.Proofs.YtflnkchpfbcgiaaGreatDoorW.PrintMore
attribute [local go_sem] max2_int min2_int max_two min_two max_three min_three max_four min_four   -- for this text's walks alone
set_option linter.unusedVariables false
set_option linter.unusedSimpArgs false
theorem bb12_0 {p : Prop} (h : p := by first | (with_reducible assumption) | assumption) : p := h


/-! ### remontoirref27_taken: function 21 -/
def remontoirref27_taken.l0 : Nat → List (S48) → Int → Int → Option (Bool)
  | 0, _, _, _ => none
  | k + 1, x0, x1, x5 => if x5 < (x0.length : Int) then (if 0 ≤ x5 then (if ((rd_T48 x0 x5).f0) = 3 then (if 0 ≤ x1 then (if x1 < (x0.length : Int) then (if ((rd_T48 x0 x5).f1) = ((rd_T48 x0 x1).f1) then (some true) else (remontoirref27_taken.l0 k x0 x1 (wrap64 (x5 + 1)))) else (none)) else (none)) else (remontoirref27_taken.l0 k x0 x1 (wrap64 (x5 + 1)))) else (none)) else (some false)
def remontoirref27_taken.f (k : Nat) (l0 : List (S48)) (a1 : Int) : Option (Bool) := remontoirref27_taken.l0 k l0 a1 (wrap64 (a1 + 1))
theorem remontoirref27_taken.mono_l : ∀ k, (∀ y0 y1 y2, LeO (remontoirref27_taken.l0 k y0 y1 y2) (remontoirref27_taken.l0 (k + 1) y0 y1 y2))
  | 0 => fun _ _ _ r h => by simp [remontoirref27_taken.l0] at h
  | k + 1 => by
    have ih0 := remontoirref27_taken.mono_l k
    · intro y0 y1 y2
      unfold remontoirref27_taken.l0
      repeat' first
      | (with_reducible exact ih0 _ _ _)
      | (with_reducible exact LeO.refl _)
      | (with_reducible exact LeO.none _)
      | (with_reducible refine LeO.ite ?_ ?_)
      | (with_reducible refine LeO.bind ?_ (fun _ => ?_))
      | exact ih0 _ _ _
      | exact LeO.none _
      | refine LeO.ite ?_ ?_
      | refine LeO.bind ?_ (fun _ => ?_)
theorem remontoirref27_taken.mono : ∀ a0 a1 k, LeO (remontoirref27_taken.f k a0 a1) (remontoirref27_taken.f (k + 1) a0 a1) := by
  intro a0 a1 k
  have ih0 := remontoirref27_taken.mono_l k
  unfold remontoirref27_taken.f
  repeat' first
      | (with_reducible exact ih0 _ _ _)
      | (with_reducible exact LeO.refl _)
      | (with_reducible exact LeO.none _)
      | (with_reducible refine LeO.ite ?_ ?_)
      | (with_reducible refine LeO.bind ?_ (fun _ => ?_))
      | exact ih0 _ _ _
      | exact LeO.none _
      | refine LeO.ite ?_ ?_
      | refine LeO.bind ?_ (fun _ => ?_)
set_option maxHeartbeats 8000000 in
set_option maxRecDepth 100000 in
theorem remontoirref27_taken.calls (k : Nat) (A0 : Option Addr) (c0 : Nat) (l0 : List (S48)) (a1 : Int) (r : Bool) (w : World) (hr0 : Kd.C k48 w A0 l0.length l0) (hc0 : l0.length ≤ c0) (h : remontoirref27_taken.f k l0 a1 = some r) :
    Calls Tryz.prog 21 #[.slice A0 l0.length c0, .int .i64 a1] w fun e w' => e = .returned (.bool r) ∧ Drawn0 w w' := by
  have HR0 := Aside0.mk hr0
  have HC0 := Aside0.mk hc0
  clear hr0 hc0
  unfold remontoirref27_taken.f at h
  have H := h
  clear h
  have H' := Aside0.mk H
  clear H
  go_enter Tryz.func21, Tryz.ntmps21
  go_wp2
  repeat (go_quiet (fail); try go_wp2)
  go_loopg [5] k (fun kq v5 w' => ∃ (x5_1 : Int), v5 = .int .i64 x5_1 ∧ Aside0 (remontoirref27_taken.l0 kq l0 a1 x5_1 = some r) ∧ Aside0 (kq ≤ k) ∧ Drawn0 w w')
  case atStart => exact ⟨(wrap64 (a1 + 1)), (by first | rfl | (simp; done) | (simp [*]; done)), H', ⟨Nat.le_refl _⟩, by repeat (first | exact Drawn0.refl _ | apply Drawn0.step)⟩
  case round =>
    clear H'
    try clear c2
    try clear p2
    obtain ⟨x5_1, rfl, HA, HK1, ⟨m1, rfl⟩⟩ := hrel
    cases gk with
    | zero => exact absurd HA.out (by simp [remontoirref27_taken.l0])
    | succ k1 =>
      have H := HA.out
      clear HA
      simp only [remontoirref27_taken.l0] at H
      by_cases c3 : x5_1 < (l0.length : Int)
      rotate_left
      · rw [if_neg c3] at H
        have c3b0 := decide_eq_false c3
        clear c3
        obtain rfl := Option.some.inj H
        go_wp2
        repeat (go_quiet (fail); try go_wp2)
        go_ret
        exact ⟨by first | rfl | (simp; done) | (simp [*]; done), by repeat (first | exact Drawn0.refl _ | apply Drawn0.step)⟩
      rw [if_pos c3] at H
      have c3b0 := decide_eq_true c3
      clear c3
      obtain ⟨c4, H⟩ := itS H
      have c4b0 := decide_eq_true c4
      clear c4
      by_cases c5 : ((rd_T48 l0 x5_1).f0) = 3
      rotate_left
      · rw [if_neg c5] at H
        have c5b0 := beq_eq_false_iff_ne.mpr c5
        have c5b1 := bne_iff_ne.mpr c5
        have H' := Aside0.mk H
        clear H
        have p284 : 0 ≤ (x5_1 : Int) := of_decide_eq_true bb12_0
        have q284 : x5_1 < (l0.length : Int) := of_decide_eq_true bb12_0
        obtain ⟨ad284, e284, hx284_0, hx284_1, hx284_2, hx284_3, hx284_4⟩ := at_T48 HR0.out x5_1 p284 q284
        cases e284
        replace p284 := eq_true p284
        replace q284 := eq_true q284
        go_wp2
        repeat (go_quiet (fail); try go_wp2)
        go_roundg k1
        case measure => have := HK1.out; omega
        case rel => exact ⟨(wrap64 (x5_1 + 1)), (by first | rfl | (simp; done) | (simp [*]; done)), H', ⟨by have := HK1.out; omega⟩, by repeat (first | exact Drawn0.refl _ | apply Drawn0.step)⟩
      rw [if_pos c5] at H
      have c5b0 := beq_iff_eq.mpr c5
      have c5b1 := bne_eq_false_iff_eq.mpr c5
      clear c5
      obtain ⟨c6, H⟩ := itS H
      have c6b0 := decide_eq_true c6
      clear c6
      obtain ⟨c7, H⟩ := itS H
      have c7b0 := decide_eq_true c7
      clear c7
      by_cases c8 : ((rd_T48 l0 x5_1).f1) = ((rd_T48 l0 a1).f1)
      · rw [if_pos c8] at H
        have c8b0 := beq_iff_eq.mpr c8
        have c8b1 := bne_eq_false_iff_eq.mpr c8
        clear c8
        obtain rfl := Option.some.inj H
        have p284 : 0 ≤ (x5_1 : Int) := of_decide_eq_true bb12_0
        have q284 : x5_1 < (l0.length : Int) := of_decide_eq_true bb12_0
        obtain ⟨ad284, e284, hx284_0, hx284_1, hx284_2, hx284_3, hx284_4⟩ := at_T48 HR0.out x5_1 p284 q284
        cases e284
        replace p284 := eq_true p284
        replace q284 := eq_true q284
        have p285 : 0 ≤ (x5_1 : Int) := of_decide_eq_true bb12_0
        have q285 : x5_1 < (l0.length : Int) := of_decide_eq_true bb12_0
        obtain ⟨ad285, e285, hx285_0, hx285_1, hx285_2, hx285_3, hx285_4⟩ := at_T48 HR0.out x5_1 p285 q285
        obtain rfl : ad284 = ad285 := (by injection e285)
        replace p285 := eq_true p285
        replace q285 := eq_true q285
        have p286 : 0 ≤ (a1 : Int) := of_decide_eq_true bb12_0
        have q286 : a1 < (l0.length : Int) := of_decide_eq_true bb12_0
        obtain ⟨ad286, e286, hx286_0, hx286_1, hx286_2, hx286_3, hx286_4⟩ := at_T48 HR0.out a1 p286 q286
        obtain rfl : ad284 = ad286 := (by injection e286)
        replace p286 := eq_true p286
        replace q286 := eq_true q286
        go_wp2
        repeat (go_quiet (fail); try go_wp2)
        go_ret
        exact ⟨by first | rfl | (simp; done) | (simp [*]; done), by repeat (first | exact Drawn0.refl _ | apply Drawn0.step)⟩
      rw [if_neg c8] at H
      have c8b0 := beq_eq_false_iff_ne.mpr c8
      have c8b1 := bne_iff_ne.mpr c8
      have H' := Aside0.mk H
      clear H
      have p284 : 0 ≤ (x5_1 : Int) := of_decide_eq_true bb12_0
      have q284 : x5_1 < (l0.length : Int) := of_decide_eq_true bb12_0
      obtain ⟨ad284, e284, hx284_0, hx284_1, hx284_2, hx284_3, hx284_4⟩ := at_T48 HR0.out x5_1 p284 q284
      cases e284
      replace p284 := eq_true p284
      replace q284 := eq_true q284
      have p285 : 0 ≤ (x5_1 : Int) := of_decide_eq_true bb12_0
      have q285 : x5_1 < (l0.length : Int) := of_decide_eq_true bb12_0
      obtain ⟨ad285, e285, hx285_0, hx285_1, hx285_2, hx285_3, hx285_4⟩ := at_T48 HR0.out x5_1 p285 q285
      obtain rfl : ad284 = ad285 := (by injection e285)
      replace p285 := eq_true p285
      replace q285 := eq_true q285
      have p286 : 0 ≤ (a1 : Int) := of_decide_eq_true bb12_0
      have q286 : a1 < (l0.length : Int) := of_decide_eq_true bb12_0
      obtain ⟨ad286, e286, hx286_0, hx286_1, hx286_2, hx286_3, hx286_4⟩ := at_T48 HR0.out a1 p286 q286
      obtain rfl : ad284 = ad286 := (by injection e286)
      replace p286 := eq_true p286
      replace q286 := eq_true q286
      go_wp2
      repeat (go_quiet (fail); try go_wp2)
      go_roundg k1
      case measure => have := HK1.out; omega
      case rel => exact ⟨(wrap64 (x5_1 + 1)), (by first | rfl | (simp; done) | (simp [*]; done)), H', ⟨by have := HK1.out; omega⟩, by repeat (first | exact Drawn0.refl _ | apply Drawn0.step)⟩

end Go.Proofs.YtflnkchpfbcgiaaGreatDoor.Q
