-- Written by this session's program xprint.py (which runs the kit's print with some functions given by hand). Lean checks it.
import Derived.Test.YtflnkchpfbcgiaaGreatDoorQx0
import Derived.Test.YtflnkchpfbcgiaaGreatDoorQx7
import Derived.Test.YtflnkchpfbcgiaaGreatDoorHAdd
namespace Go.Proofs.YtflnkchpfbcgiaaGreatDoor.Q
open Go.RowKit Go.Proofs.YtflnkchpfbcgiaaGreatDoorW.PrintWords Go.Proofs.YtflnkchpfbcgiaaGreatDoorW.PrintLast Go.Proofs.YtflnkchpfbcgiaaGreatDoorW.PrintMore
attribute [local go_sem] max2_int min2_int max_two min_two max_three min_three max_four min_four   -- for this text's walks alone
set_option linter.unusedVariables false
set_option linter.unusedSimpArgs false
theorem bs8_0 {w W w2 : World} (k : Below W.heap.size W w2) (h : Below w.heap.size w W := by repeat (first | (with_reducible first | exact HB.out | apply below_alloc | apply pw_below_drewN | apply below_drew1) | exact HB.out)) : Below w.heap.size w w2 := below_step h k
theorem bz8_1 {w W : World} (h : Below w.heap.size w W := by repeat (first | (with_reducible first | exact HB.out | apply below_alloc | apply pw_below_drewN | apply below_drew1) | exact HB.out)) : w.heap.size ≤ W.heap.size := below_size h
theorem bb8_2 {p : Prop} (h : p := by first | (with_reducible assumption) | assumption) : p := h
theorem bd8_3 {p : Prop} (h : p := by first | rfl | (simp; done) | (simp [*]; done)) : p := h


/-! ### remontoirref02_Parse: function 34 -/
mutual
def remontoirref02_Parse.j0 : Nat → ByteArray → Bool → Option (Int × Int)
  | 0, _, _ => none
  | k + 1, x0, x22 => if x22 = true then (some (0, 2)) else ((remontoirref02_number.f k x0 1).bind fun bt229 => (if bt229.2.2 = true then (remontoirref02_Parse.j1 k x0 1 0 bt229.1 bt229.2.1 (decide (bt229.2.1 < (x0.size : Int)))) else (remontoirref02_Parse.j1 k x0 1 0 bt229.1 bt229.2.1 false)))
def remontoirref02_Parse.j1 : Nat → ByteArray → Int → Int → Int → Int → Bool → Option (Int × Int)
  | 0, _, _, _, _, _, _ => none
  | k + 1, x0, x4, x5, x6, x7, x35 => if x35 = true then (if 0 ≤ x7 then (if x7 < (x0.size : Int) then (if (bt x0 x7) = 89 then (remontoirref02_Parse.j2 k x0 x6 x7 (bt x0 x7) ((bt x0 x7) == 89)) else (remontoirref02_Parse.j2 k x0 x6 x7 (bt x0 x7) ((bt x0 x7) == 77))) else (none)) else (none)) else (remontoirref02_Parse.j3 k x0 x4 x5)
def remontoirref02_Parse.j3 : Nat → ByteArray → Int → Int → Option (Int × Int)
  | 0, _, _, _ => none
  | k + 1, x0, x4, x5 => if x4 < (x0.size : Int) then (if 0 ≤ x4 then (if (bt x0 x4) = 84 then (remontoirref02_Parse.l0 k x0 (wrap64 (x4 + 1)) x5 false (([3600, 60, 1] : List Int)) 0) else (some (0, 2))) else (none)) else (remontoirref02_Parse.j6 k x5)
def remontoirref02_Parse.j6 : Nat → Int → Option (Int × Int)
  | 0, _ => none
  | k + 1, x5 => if x5 > 1125899906842624 then (some (0, 3)) else (some (x5, 0))
def remontoirref02_Parse.l0 : Nat → ByteArray → Int → Int → Bool → List Int → Int → Option (Int × Int)
  | 0, _, _, _, _, _, _ => none
  | k + 1, x0, x4, x5, x9, x10, x11 => if x11 < 3 then ((remontoirref02_number.f k x0 x4).bind fun bt237 => (if bt237.2.2 = true then (if bt237.2.1 < (x0.size : Int) then (if 0 ≤ bt237.2.1 then (if 0 ≤ x11 then (remontoirref02_Parse.j5 k x0 x4 x5 x9 x10 x11 bt237.1 bt237.2.1 ((bt x0 bt237.2.1) == (bt (⟨#[72, 77, 83]⟩ : ByteArray) x11))) else (none)) else (none)) else (remontoirref02_Parse.j5 k x0 x4 x5 x9 x10 x11 bt237.1 bt237.2.1 false)) else (remontoirref02_Parse.j5 k x0 x4 x5 x9 x10 x11 bt237.1 bt237.2.1 false))) else (if x9 = true then (if x4 = (x0.size : Int) then (remontoirref02_Parse.j6 k x5) else (some (0, 2))) else (some (0, 2)))
def remontoirref02_Parse.j5 : Nat → ByteArray → Int → Int → Bool → List Int → Int → Int → Int → Bool → Option (Int × Int)
  | 0, _, _, _, _, _, _, _, _, _ => none
  | k + 1, x0, x4, x5, x9, x10, x11, x12, x13, x94 => if x94 = true then (if 0 ≤ x11 then (if x11 < (x10.length : Int) then ((remontoirref02_add.f x5 x12 (rd x10 x11)).bind fun t241 => (remontoirref02_Parse.l0 k x0 (wrap64 (x13 + 1)) t241 true x10 (wrap64 (x11 + 1)))) else (none)) else (none)) else (remontoirref02_Parse.l0 k x0 x4 x5 x9 x10 (wrap64 (x11 + 1)))
def remontoirref02_Parse.j2 : Nat → ByteArray → Int → Int → Int → Bool → Option (Int × Int)
  | 0, _, _, _, _, _ => none
  | k + 1, x0, x6, x7, x38, x39 => if x39 = true then (some (0, 4)) else (if x38 = 87 then ((remontoirref02_add.f 0 x6 604800).bind fun t232 => (if (wrap64 (x7 + 1)) = (x0.size : Int) then (remontoirref02_Parse.j3 k x0 (wrap64 (x7 + 1)) t232) else (some (0, 2)))) else (if x38 = 68 then ((remontoirref02_add.f 0 x6 86400).bind fun t233 => (remontoirref02_Parse.j3 k x0 (wrap64 (x7 + 1)) t233)) else (some (0, 2))))
end
def remontoirref02_Parse.f (k : Nat) (a0 : ByteArray) : Option (Int × Int) := if (a0.size : Int) < 2 then (remontoirref02_Parse.j0 k a0 true) else (if 0 < (a0.size : Int) then (remontoirref02_Parse.j0 k a0 ((bt a0 0) != 80)) else (none))
theorem remontoirref02_Parse.mono_l : ∀ k, (∀ y0 y1, LeO (remontoirref02_Parse.j0 k y0 y1) (remontoirref02_Parse.j0 (k + 1) y0 y1)) ∧ (∀ y0 y1 y2 y3 y4 y5, LeO (remontoirref02_Parse.j1 k y0 y1 y2 y3 y4 y5) (remontoirref02_Parse.j1 (k + 1) y0 y1 y2 y3 y4 y5)) ∧ (∀ y0 y1 y2, LeO (remontoirref02_Parse.j3 k y0 y1 y2) (remontoirref02_Parse.j3 (k + 1) y0 y1 y2)) ∧ (∀ y0, LeO (remontoirref02_Parse.j6 k y0) (remontoirref02_Parse.j6 (k + 1) y0)) ∧ (∀ y0 y1 y2 y3 y4 y5, LeO (remontoirref02_Parse.l0 k y0 y1 y2 y3 y4 y5) (remontoirref02_Parse.l0 (k + 1) y0 y1 y2 y3 y4 y5)) ∧ (∀ y0 y1 y2 y3 y4 y5 y6 y7 y8, LeO (remontoirref02_Parse.j5 k y0 y1 y2 y3 y4 y5 y6 y7 y8) (remontoirref02_Parse.j5 (k + 1) y0 y1 y2 y3 y4 y5 y6 y7 y8)) ∧ (∀ y0 y1 y2 y3 y4, LeO (remontoirref02_Parse.j2 k y0 y1 y2 y3 y4) (remontoirref02_Parse.j2 (k + 1) y0 y1 y2 y3 y4))
  | 0 => ⟨fun _ _ r h => by simp [remontoirref02_Parse.j0] at h, fun _ _ _ _ _ _ r h => by simp [remontoirref02_Parse.j1] at h, fun _ _ _ r h => by simp [remontoirref02_Parse.j3] at h, fun _ r h => by simp [remontoirref02_Parse.j6] at h, fun _ _ _ _ _ _ r h => by simp [remontoirref02_Parse.l0] at h, fun _ _ _ _ _ _ _ _ _ r h => by simp [remontoirref02_Parse.j5] at h, fun _ _ _ _ _ r h => by simp [remontoirref02_Parse.j2] at h⟩
  | k + 1 => by
    obtain ⟨ih0, ih1, ih2, ih3, ih4, ih5, ih6⟩ := remontoirref02_Parse.mono_l k
    refine ⟨?_, ?_, ?_, ?_, ?_, ?_, ?_⟩
    · intro y0 y1
      unfold remontoirref02_Parse.j0
      repeat' first
      | (with_reducible exact ih0 _ _)
      | (with_reducible exact ih1 _ _ _ _ _ _)
      | (with_reducible exact ih2 _ _ _)
      | (with_reducible exact ih3 _)
      | (with_reducible exact ih4 _ _ _ _ _ _)
      | (with_reducible exact ih5 _ _ _ _ _ _ _ _ _)
      | (with_reducible exact ih6 _ _ _ _ _)
      | (with_reducible exact remontoirref02_number.mono _ _ _)
      | (with_reducible exact LeO.refl _)
      | (with_reducible exact LeO.none _)
      | (with_reducible refine LeO.ite ?_ ?_)
      | (with_reducible refine LeO.bind ?_ (fun _ => ?_))
      | exact ih0 _ _
      | exact ih1 _ _ _ _ _ _
      | exact ih2 _ _ _
      | exact ih3 _
      | exact ih4 _ _ _ _ _ _
      | exact ih5 _ _ _ _ _ _ _ _ _
      | exact ih6 _ _ _ _ _
      | exact remontoirref02_number.mono _ _ _
      | exact LeO.none _
      | refine LeO.ite ?_ ?_
      | refine LeO.bind ?_ (fun _ => ?_)
    · intro y0 y1 y2 y3 y4 y5
      unfold remontoirref02_Parse.j1
      repeat' first
      | (with_reducible exact ih0 _ _)
      | (with_reducible exact ih1 _ _ _ _ _ _)
      | (with_reducible exact ih2 _ _ _)
      | (with_reducible exact ih3 _)
      | (with_reducible exact ih4 _ _ _ _ _ _)
      | (with_reducible exact ih5 _ _ _ _ _ _ _ _ _)
      | (with_reducible exact ih6 _ _ _ _ _)
      | (with_reducible exact remontoirref02_number.mono _ _ _)
      | (with_reducible exact LeO.refl _)
      | (with_reducible exact LeO.none _)
      | (with_reducible refine LeO.ite ?_ ?_)
      | (with_reducible refine LeO.bind ?_ (fun _ => ?_))
      | exact ih0 _ _
      | exact ih1 _ _ _ _ _ _
      | exact ih2 _ _ _
      | exact ih3 _
      | exact ih4 _ _ _ _ _ _
      | exact ih5 _ _ _ _ _ _ _ _ _
      | exact ih6 _ _ _ _ _
      | exact remontoirref02_number.mono _ _ _
      | exact LeO.none _
      | refine LeO.ite ?_ ?_
      | refine LeO.bind ?_ (fun _ => ?_)
    · intro y0 y1 y2
      unfold remontoirref02_Parse.j3
      repeat' first
      | (with_reducible exact ih0 _ _)
      | (with_reducible exact ih1 _ _ _ _ _ _)
      | (with_reducible exact ih2 _ _ _)
      | (with_reducible exact ih3 _)
      | (with_reducible exact ih4 _ _ _ _ _ _)
      | (with_reducible exact ih5 _ _ _ _ _ _ _ _ _)
      | (with_reducible exact ih6 _ _ _ _ _)
      | (with_reducible exact remontoirref02_number.mono _ _ _)
      | (with_reducible exact LeO.refl _)
      | (with_reducible exact LeO.none _)
      | (with_reducible refine LeO.ite ?_ ?_)
      | (with_reducible refine LeO.bind ?_ (fun _ => ?_))
      | exact ih0 _ _
      | exact ih1 _ _ _ _ _ _
      | exact ih2 _ _ _
      | exact ih3 _
      | exact ih4 _ _ _ _ _ _
      | exact ih5 _ _ _ _ _ _ _ _ _
      | exact ih6 _ _ _ _ _
      | exact remontoirref02_number.mono _ _ _
      | exact LeO.none _
      | refine LeO.ite ?_ ?_
      | refine LeO.bind ?_ (fun _ => ?_)
    · intro y0
      unfold remontoirref02_Parse.j6
      repeat' first
      | (with_reducible exact ih0 _ _)
      | (with_reducible exact ih1 _ _ _ _ _ _)
      | (with_reducible exact ih2 _ _ _)
      | (with_reducible exact ih3 _)
      | (with_reducible exact ih4 _ _ _ _ _ _)
      | (with_reducible exact ih5 _ _ _ _ _ _ _ _ _)
      | (with_reducible exact ih6 _ _ _ _ _)
      | (with_reducible exact remontoirref02_number.mono _ _ _)
      | (with_reducible exact LeO.refl _)
      | (with_reducible exact LeO.none _)
      | (with_reducible refine LeO.ite ?_ ?_)
      | (with_reducible refine LeO.bind ?_ (fun _ => ?_))
      | exact ih0 _ _
      | exact ih1 _ _ _ _ _ _
      | exact ih2 _ _ _
      | exact ih3 _
      | exact ih4 _ _ _ _ _ _
      | exact ih5 _ _ _ _ _ _ _ _ _
      | exact ih6 _ _ _ _ _
      | exact remontoirref02_number.mono _ _ _
      | exact LeO.none _
      | refine LeO.ite ?_ ?_
      | refine LeO.bind ?_ (fun _ => ?_)
    · intro y0 y1 y2 y3 y4 y5
      unfold remontoirref02_Parse.l0
      repeat' first
      | (with_reducible exact ih0 _ _)
      | (with_reducible exact ih1 _ _ _ _ _ _)
      | (with_reducible exact ih2 _ _ _)
      | (with_reducible exact ih3 _)
      | (with_reducible exact ih4 _ _ _ _ _ _)
      | (with_reducible exact ih5 _ _ _ _ _ _ _ _ _)
      | (with_reducible exact ih6 _ _ _ _ _)
      | (with_reducible exact remontoirref02_number.mono _ _ _)
      | (with_reducible exact LeO.refl _)
      | (with_reducible exact LeO.none _)
      | (with_reducible refine LeO.ite ?_ ?_)
      | (with_reducible refine LeO.bind ?_ (fun _ => ?_))
      | exact ih0 _ _
      | exact ih1 _ _ _ _ _ _
      | exact ih2 _ _ _
      | exact ih3 _
      | exact ih4 _ _ _ _ _ _
      | exact ih5 _ _ _ _ _ _ _ _ _
      | exact ih6 _ _ _ _ _
      | exact remontoirref02_number.mono _ _ _
      | exact LeO.none _
      | refine LeO.ite ?_ ?_
      | refine LeO.bind ?_ (fun _ => ?_)
    · intro y0 y1 y2 y3 y4 y5 y6 y7 y8
      unfold remontoirref02_Parse.j5
      repeat' first
      | (with_reducible exact ih0 _ _)
      | (with_reducible exact ih1 _ _ _ _ _ _)
      | (with_reducible exact ih2 _ _ _)
      | (with_reducible exact ih3 _)
      | (with_reducible exact ih4 _ _ _ _ _ _)
      | (with_reducible exact ih5 _ _ _ _ _ _ _ _ _)
      | (with_reducible exact ih6 _ _ _ _ _)
      | (with_reducible exact remontoirref02_number.mono _ _ _)
      | (with_reducible exact LeO.refl _)
      | (with_reducible exact LeO.none _)
      | (with_reducible refine LeO.ite ?_ ?_)
      | (with_reducible refine LeO.bind ?_ (fun _ => ?_))
      | exact ih0 _ _
      | exact ih1 _ _ _ _ _ _
      | exact ih2 _ _ _
      | exact ih3 _
      | exact ih4 _ _ _ _ _ _
      | exact ih5 _ _ _ _ _ _ _ _ _
      | exact ih6 _ _ _ _ _
      | exact remontoirref02_number.mono _ _ _
      | exact LeO.none _
      | refine LeO.ite ?_ ?_
      | refine LeO.bind ?_ (fun _ => ?_)
    · intro y0 y1 y2 y3 y4
      unfold remontoirref02_Parse.j2
      repeat' first
      | (with_reducible exact ih0 _ _)
      | (with_reducible exact ih1 _ _ _ _ _ _)
      | (with_reducible exact ih2 _ _ _)
      | (with_reducible exact ih3 _)
      | (with_reducible exact ih4 _ _ _ _ _ _)
      | (with_reducible exact ih5 _ _ _ _ _ _ _ _ _)
      | (with_reducible exact ih6 _ _ _ _ _)
      | (with_reducible exact remontoirref02_number.mono _ _ _)
      | (with_reducible exact LeO.refl _)
      | (with_reducible exact LeO.none _)
      | (with_reducible refine LeO.ite ?_ ?_)
      | (with_reducible refine LeO.bind ?_ (fun _ => ?_))
      | exact ih0 _ _
      | exact ih1 _ _ _ _ _ _
      | exact ih2 _ _ _
      | exact ih3 _
      | exact ih4 _ _ _ _ _ _
      | exact ih5 _ _ _ _ _ _ _ _ _
      | exact ih6 _ _ _ _ _
      | exact remontoirref02_number.mono _ _ _
      | exact LeO.none _
      | refine LeO.ite ?_ ?_
      | refine LeO.bind ?_ (fun _ => ?_)
theorem remontoirref02_Parse.mono : ∀ a0 k, LeO (remontoirref02_Parse.f k a0) (remontoirref02_Parse.f (k + 1) a0) := by
  intro a0 k
  obtain ⟨ih0, ih1, ih2, ih3, ih4, ih5, ih6⟩ := remontoirref02_Parse.mono_l k
  unfold remontoirref02_Parse.f
  repeat' first
      | (with_reducible exact ih0 _ _)
      | (with_reducible exact ih1 _ _ _ _ _ _)
      | (with_reducible exact ih2 _ _ _)
      | (with_reducible exact ih3 _)
      | (with_reducible exact ih4 _ _ _ _ _ _)
      | (with_reducible exact ih5 _ _ _ _ _ _ _ _ _)
      | (with_reducible exact ih6 _ _ _ _ _)
      | (with_reducible exact remontoirref02_number.mono _ _ _)
      | (with_reducible exact LeO.refl _)
      | (with_reducible exact LeO.none _)
      | (with_reducible refine LeO.ite ?_ ?_)
      | (with_reducible refine LeO.bind ?_ (fun _ => ?_))
      | exact ih0 _ _
      | exact ih1 _ _ _ _ _ _
      | exact ih2 _ _ _
      | exact ih3 _
      | exact ih4 _ _ _ _ _ _
      | exact ih5 _ _ _ _ _ _ _ _ _
      | exact ih6 _ _ _ _ _
      | exact remontoirref02_number.mono _ _ _
      | exact LeO.none _
      | refine LeO.ite ?_ ?_
      | refine LeO.bind ?_ (fun _ => ?_)
set_option maxHeartbeats 8000000 in
set_option maxRecDepth 100000 in
theorem remontoirref02_Parse.calls (k : Nat) (a0 : ByteArray) (r1 : Int) (r2 : Int) (w : World) (h : remontoirref02_Parse.f k a0 = some (r1, r2)) :
    Calls Tryz.prog 34 #[.string a0] w fun e w' => e = .returned (.tuple #[.int .u64 r1, .int .i64 r2]) ∧ Below w.heap.size w w' := by
  have HB := Aside0.mk (Below.refl w.heap.size w)
  unfold remontoirref02_Parse.f at h
  have H := h
  clear h
  have HC2 := Aside0.mk H
  clear H
  go_enter Tryz.func34, Tryz.ntmps34
  go_upto_region 1 with (fail)
  repeat (go_quiet (fail); go_upto_region 1 with (fail))
  go_cut [22] (fun v22 wc => ∃ (kq : Nat) (x22_1 : Bool), v22 = .bool x22_1 ∧ Aside0 (remontoirref02_Parse.j0 kq a0 x22_1 = some (r1, r2)) ∧ Aside0 (kq ≤ k) ∧ Aside0 (Below w.heap.size w wc))
  case first =>
    have H := HC2.out
    clear HC2
    by_cases c3 : (a0.size : Int) < 2
    · rw [if_pos c3] at H
      have c3b0 := decide_eq_true c3
      have c3b1 : decide (a0.size < 2) = true := decide_eq_true (by omega)
      clear c3
      (first | rw [c3b0] | (simp only [i64_w, i32_w]; rw [c3b0]) | skip)
      have H' := Aside0.mk H
      clear H
      go_wp2
      repeat (go_quiet (fail); try go_wp2)
      go_meet
      case rel => exact ⟨_, (true), bd8_3, H', ⟨by first | omega | exact Nat.le_refl _⟩, ⟨by repeat (first | (with_reducible first | exact HB.out | apply below_alloc | apply pw_below_drewN | apply below_drew1) | exact HB.out)⟩⟩
    rw [if_neg c3] at H
    have c3b0 := decide_eq_false c3
    have c3b1 : decide (a0.size < 2) = false := decide_eq_false (by omega)
    clear c3
    (first | rw [c3b0] | (simp only [i64_w, i32_w]; rw [c3b0]) | skip)
    obtain ⟨c4, H⟩ := itS H
    have c4b0 := decide_eq_true c4
    have c4b1 : decide (0 < a0.size) = true := decide_eq_true (by omega)
    clear c4
    have H' := Aside0.mk H
    clear H
    have p5 : 0 ≤ (0 : Int) := (by omega)
    have q5 : 0 < a0.size := (by have : (0 : Int) < (a0.size : Int) := of_decide_eq_true bb8_2; omega)
    have hx5 : ∀ h : 0 < a0.size, ((a0[0]'h).toNat : Int) = bt a0 0 := bt_at a0 0
    clear p5
    have qi5 : (0 < (a0.size : Int)) = True := eq_true (of_decide_eq_true bb8_2)
    replace q5 := eq_true q5
    go_wp2
    repeat (go_quiet (fail); try go_wp2)
    go_meet
    case rel => exact ⟨_, (((bt a0 0) != 80)), bd8_3, H', ⟨by first | omega | exact Nat.le_refl _⟩, ⟨by repeat (first | (with_reducible first | exact HB.out | apply below_alloc | apply pw_below_drewN | apply below_drew1) | exact HB.out)⟩⟩
  case rest =>
    clear HC2
    try clear p2
    try clear c3
    try clear c3b0
    try clear c3b1
    try clear c4
    try clear c4b0
    try clear c4b1
    try clear p5
    try clear q5
    try clear hx5
    try clear qi5
    try clear p5
    try clear q5
    obtain ⟨kq, x22_1, rfl, HA, HJ1, HB⟩ := hcut
    cases kq with
    | zero => exact absurd HA.out (by simp [remontoirref02_Parse.j0])
    | succ kj1 =>
      have H := HA.out
      clear HA
      simp only [remontoirref02_Parse.j0] at H
      by_cases c6 : x22_1 = true
      · subst c6
        rw [if_pos rfl] at H
        simp only [Option.some.injEq, Prod.mk.injEq] at H
        obtain ⟨rfl, rfl⟩ := H
        go_wp2
        repeat (go_quiet (fail); try go_wp2)
        go_ret2
        exact ⟨by first | rfl | (simp [errW_none, errW_some] <;> rfl) | (simp [*, errW_none, errW_some] <;> rfl), by repeat (first | (with_reducible first | exact HB.out | apply below_alloc | apply pw_below_drewN | apply below_drew1) | exact HB.out)⟩
      replace c6 := Bool.eq_false_iff.mpr c6
      subst c6
      rw [if_neg nft] at H
      obtain ⟨⟨t229, t230, t231⟩, A7, H⟩ := bdA H
      dsimp only at H
      have HC8 := Aside0.mk H
      clear H
      go_upto_region 5 with (first | (go_at_call 54; (with_reducible refine (remontoirref02_number.calls kj1 a0 1 t229 t230 t231 _ A7.out).mono ?_); rintro e w' ⟨rfl, ⟨nd, rfl⟩⟩; (try first | exact ⟨rfl, _, World.drewN_drewN _ _ _⟩ | exact ⟨rfl, _, Eq.trans (World.drewN_drewN _ _ _) (congrArg (World.drewN _) (Nat.add_assoc _ _ _))⟩)))
      repeat (go_quiet (first | (go_at_call 54; (with_reducible refine (remontoirref02_number.calls kj1 a0 1 t229 t230 t231 _ A7.out).mono ?_); rintro e w' ⟨rfl, ⟨nd, rfl⟩⟩; (try first | exact ⟨rfl, _, World.drewN_drewN _ _ _⟩ | exact ⟨rfl, _, Eq.trans (World.drewN_drewN _ _ _) (congrArg (World.drewN _) (Nat.add_assoc _ _ _))⟩))); go_upto_region 5 with (first | (go_at_call 54; (with_reducible refine (remontoirref02_number.calls kj1 a0 1 t229 t230 t231 _ A7.out).mono ?_); rintro e w' ⟨rfl, ⟨nd, rfl⟩⟩; (try first | exact ⟨rfl, _, World.drewN_drewN _ _ _⟩ | exact ⟨rfl, _, Eq.trans (World.drewN_drewN _ _ _) (congrArg (World.drewN _) (Nat.add_assoc _ _ _))⟩))))
      (try simp only [Act.put, List.setIfInBounds_toArray, List.set_cons_zero, List.set_cons_succ])
      go_cut [35] (fun v35 wc => ∃ (kq : Nat) (x35_7 : Bool), v35 = .bool x35_7 ∧ Aside0 (remontoirref02_Parse.j1 kq a0 1 0 t229 t230 x35_7 = some (r1, r2)) ∧ Aside0 (kq ≤ kj1) ∧ Aside0 (Below w.heap.size w wc))
      case first =>
        have H := HC8.out
        clear HC8
        by_cases c9 : t231 = true
        · subst c9
          rw [if_pos rfl] at H
          have H' := Aside0.mk H
          clear H
          go_wp2
          repeat (go_quiet (fail); try go_wp2)
          go_meet
          case rel => exact ⟨_, (decide (t230 < (a0.size : Int))), bd8_3, H', ⟨by have := HJ1.out; first | omega | exact Nat.le_refl _⟩, ⟨by repeat (first | (with_reducible first | exact HB.out | apply below_alloc | apply pw_below_drewN | apply below_drew1) | exact HB.out)⟩⟩
        replace c9 := Bool.eq_false_iff.mpr c9
        subst c9
        rw [if_neg nft] at H
        have H' := Aside0.mk H
        clear H
        go_wp2
        repeat (go_quiet (fail); try go_wp2)
        go_meet
        case rel => exact ⟨_, (false), bd8_3, H', ⟨by have := HJ1.out; first | omega | exact Nat.le_refl _⟩, ⟨by repeat (first | (with_reducible first | exact HB.out | apply below_alloc | apply pw_below_drewN | apply below_drew1) | exact HB.out)⟩⟩
      case rest =>
        clear HC8
        try clear p2
        try clear c3
        try clear c3b0
        try clear c3b1
        try clear c4
        try clear c4b0
        try clear c4b1
        try clear p5
        try clear q5
        try clear hx5
        try clear qi5
        try clear c6
        try clear c9
        try clear p2
        try clear p5
        try clear q5
        obtain ⟨kq, x35_7, rfl, HA, HJ7, HB⟩ := hcut
        cases kq with
        | zero => exact absurd HA.out (by simp [remontoirref02_Parse.j1])
        | succ kj7 =>
          have H := HA.out
          clear HA
          simp only [remontoirref02_Parse.j1] at H
          have HC10 := Aside0.mk H
          clear H
          go_upto_if 35 with (fail)
          repeat (go_quiet (fail); go_upto_if 35 with (fail))
          go_cut [4, 5] (fun v4 v5 wc => ∃ (kq : Nat) (x4_9 : Int) (x5_9 : Int), v4 = .int .i64 x4_9 ∧ v5 = .int .u64 x5_9 ∧ Aside0 (remontoirref02_Parse.j3 kq a0 x4_9 x5_9 = some (r1, r2)) ∧ Aside0 (kq ≤ kj7) ∧ Aside0 (Below w.heap.size w wc))
          case first =>
            have H := HC10.out
            clear HC10
            by_cases c11 : x35_7 = true
            rotate_left
            · replace c11 := Bool.eq_false_iff.mpr c11
              subst c11
              rw [if_neg nft] at H
              have H' := Aside0.mk H
              clear H
              go_wp2
              repeat (go_quiet (fail); try go_wp2)
              go_meet
              case rel => exact ⟨_, (1), (0), bd8_3, bd8_3, H', ⟨by have := HJ1.out; have := HJ7.out; first | omega | exact Nat.le_refl _⟩, ⟨by repeat (first | (with_reducible first | exact HB.out | apply below_alloc | apply pw_below_drewN | apply below_drew1) | exact HB.out)⟩⟩
            subst c11
            rw [if_pos rfl] at H
            obtain ⟨c12, H⟩ := itS H
            have c12b0 := decide_eq_true c12
            clear c12
            (first | rw [c12b0] | (simp only [i64_w, i32_w]; rw [c12b0]) | skip)
            obtain ⟨c13, H⟩ := itS H
            have c13b0 := decide_eq_true c13
            clear c13
            have HC15 := Aside0.mk H
            clear H
            have p14 : 0 ≤ (t230 : Int) := of_decide_eq_true bb8_2
            have q14 : t230 < (a0.size : Int) := of_decide_eq_true bb8_2
            have hx14 := bt_at a0 t230
            replace p14 := eq_true p14
            replace q14 := eq_true q14
            go_upto_if 39 with (fail)
            repeat (go_quiet (fail); go_upto_if 39 with (fail))
            go_cut [39] (fun v39 wc => ∃ (kq : Nat) (x39_14 : Bool), v39 = .bool x39_14 ∧ Aside0 (remontoirref02_Parse.j2 kq a0 t229 t230 (bt a0 t230) x39_14 = some (r1, r2)) ∧ Aside0 (kq ≤ kj7) ∧ Aside0 (Below w.heap.size w wc))
            case first =>
              have H := HC15.out
              clear HC15
              by_cases c16 : (bt a0 t230) = 89
              rotate_left
              · rw [if_neg c16] at H
                have c16b0 := beq_eq_false_iff_ne.mpr c16
                have c16b1 := bne_iff_ne.mpr c16
                (first | rw [c16b0] | (simp only [i64_w, i32_w]; rw [c16b0]) | skip)
                have H' := Aside0.mk H
                clear H
                go_wp2
                repeat (go_quiet (fail); try go_wp2)
                go_meet
                case rel => exact ⟨_, (((bt a0 t230) == 77)), bd8_3, H', ⟨by have := HJ1.out; have := HJ7.out; first | omega | exact Nat.le_refl _⟩, ⟨by repeat (first | (with_reducible first | exact HB.out | apply below_alloc | apply pw_below_drewN | apply below_drew1) | exact HB.out)⟩⟩
              rw [if_pos c16] at H
              have c16b0 := beq_iff_eq.mpr c16
              have c16b1 := bne_eq_false_iff_eq.mpr c16
              clear c16
              (first | rw [c16b0] | (simp only [i64_w, i32_w]; rw [c16b0]) | skip)
              have H' := Aside0.mk H
              clear H
              go_wp2
              repeat (go_quiet (fail); try go_wp2)
              go_meet
              case rel => exact ⟨_, (((bt a0 t230) == 89)), bd8_3, H', ⟨by have := HJ1.out; have := HJ7.out; first | omega | exact Nat.le_refl _⟩, ⟨by repeat (first | (with_reducible first | exact HB.out | apply below_alloc | apply pw_below_drewN | apply below_drew1) | exact HB.out)⟩⟩
            case rest =>
              clear HC15
              try clear c1
              try clear p1
              try clear q1
              try clear hx1
              try clear p2
              try clear c3
              try clear c3b0
              try clear c3b1
              try clear c4
              try clear c4b0
              try clear c4b1
              try clear p5
              try clear q5
              try clear hx5
              try clear qi5
              try clear c6
              try clear c9
              try clear c11
              try clear c12
              try clear c12b0
              try clear c13
              try clear c13b0
              try clear p14
              try clear q14
              try clear hx14
              try clear c16
              try clear c16b0
              try clear c16b1
              try clear p14
              try clear p2
              try clear p5
              try clear q14
              try clear q5
              obtain ⟨kq, x39_14, rfl, HA, HJ14, HB⟩ := hcut
              cases kq with
              | zero => exact absurd HA.out (by simp [remontoirref02_Parse.j2])
              | succ kj14 =>
                have H := HA.out
                clear HA
                simp only [remontoirref02_Parse.j2] at H
                by_cases c17 : x39_14 = true
                · subst c17
                  rw [if_pos rfl] at H
                  simp only [Option.some.injEq, Prod.mk.injEq] at H
                  obtain ⟨rfl, rfl⟩ := H
                  go_wp2
                  repeat (go_quiet (fail); try go_wp2)
                  go_ret2
                  exact ⟨by first | rfl | (simp [errW_none, errW_some] <;> rfl) | (simp [*, errW_none, errW_some] <;> rfl), by repeat (first | (with_reducible first | exact HB.out | apply below_alloc | apply pw_below_drewN | apply below_drew1) | exact HB.out)⟩
                replace c17 := Bool.eq_false_iff.mpr c17
                subst c17
                rw [if_neg nft] at H
                by_cases c18 : (bt a0 t230) = 87
                rotate_left
                · rw [if_neg c18] at H
                  have c18b0 := beq_eq_false_iff_ne.mpr c18
                  have c18b1 := bne_iff_ne.mpr c18
                  by_cases c23 : (bt a0 t230) = 68
                  rotate_left
                  · rw [if_neg c23] at H
                    have c23b0 := beq_eq_false_iff_ne.mpr c23
                    have c23b1 := bne_iff_ne.mpr c23
                    simp only [Option.some.injEq, Prod.mk.injEq] at H
                    obtain ⟨rfl, rfl⟩ := H
                    go_wp2
                    repeat (go_quiet (fail); try go_wp2)
                    go_ret2
                    exact ⟨by first | rfl | (simp [errW_none, errW_some] <;> rfl) | (simp [*, errW_none, errW_some] <;> rfl), by repeat (first | (with_reducible first | exact HB.out | apply below_alloc | apply pw_below_drewN | apply below_drew1) | exact HB.out)⟩
                  rw [if_pos c23] at H
                  have c23b0 := beq_iff_eq.mpr c23
                  have c23b1 := bne_eq_false_iff_eq.mpr c23
                  clear c23
                  obtain ⟨t233, A24, H⟩ := bdA H
                  have H' := Aside0.mk H
                  clear H
                  go_wp2_with (first | (go_at_call 55; (with_reducible refine (remontoirref02_add.calls 0 t229 86400 t233 _ A24.out).mono ?_); rintro e w25 ⟨rfl, hb⟩; replace HB := Aside0.mk (bs8_0 hb); (try clear hb); (try clear hb2); (try clear hk); (try clear hi)))
                  repeat (go_quiet (first | (go_at_call 55; (with_reducible refine (remontoirref02_add.calls 0 t229 86400 t233 _ A24.out).mono ?_); rintro e w25 ⟨rfl, hb⟩; replace HB := Aside0.mk (bs8_0 hb); (try clear hb); (try clear hb2); (try clear hk); (try clear hi))); try go_wp2_with (first | (go_at_call 55; (with_reducible refine (remontoirref02_add.calls 0 t229 86400 t233 _ A24.out).mono ?_); rintro e w25 ⟨rfl, hb⟩; replace HB := Aside0.mk (bs8_0 hb); (try clear hb); (try clear hb2); (try clear hk); (try clear hi))))
                  go_meet
                  case rel => exact ⟨_, (wrap64 (t230 + 1)), (t233), bd8_3, bd8_3, H', ⟨by have := HJ1.out; have := HJ7.out; have := HJ14.out; first | omega | exact Nat.le_refl _⟩, ⟨by repeat (first | (with_reducible first | exact HB.out | apply below_alloc | apply pw_below_drewN | apply below_drew1) | exact HB.out)⟩⟩
                rw [if_pos c18] at H
                have c18b0 := beq_iff_eq.mpr c18
                have c18b1 := bne_eq_false_iff_eq.mpr c18
                clear c18
                obtain ⟨t232, A19, H⟩ := bdA H
                by_cases c20 : (wrap64 (t230 + 1)) = (a0.size : Int)
                rotate_left
                · rw [if_neg c20] at H
                  have c20b0 := beq_eq_false_iff_ne.mpr c20
                  have c20b1 := bne_iff_ne.mpr c20
                  simp only [Option.some.injEq, Prod.mk.injEq] at H
                  obtain ⟨rfl, rfl⟩ := H
                  go_wp2_with (first | (go_at_call 55; (with_reducible refine (remontoirref02_add.calls 0 t229 604800 t232 _ A19.out).mono ?_); rintro e w22 ⟨rfl, hb⟩; replace HB := Aside0.mk (bs8_0 hb); (try clear hb); (try clear hb2); (try clear hk); (try clear hi)))
                  repeat (go_quiet (first | (go_at_call 55; (with_reducible refine (remontoirref02_add.calls 0 t229 604800 t232 _ A19.out).mono ?_); rintro e w22 ⟨rfl, hb⟩; replace HB := Aside0.mk (bs8_0 hb); (try clear hb); (try clear hb2); (try clear hk); (try clear hi))); try go_wp2_with (first | (go_at_call 55; (with_reducible refine (remontoirref02_add.calls 0 t229 604800 t232 _ A19.out).mono ?_); rintro e w22 ⟨rfl, hb⟩; replace HB := Aside0.mk (bs8_0 hb); (try clear hb); (try clear hb2); (try clear hk); (try clear hi))))
                  go_ret2
                  exact ⟨by first | rfl | (simp [errW_none, errW_some] <;> rfl) | (simp [*, errW_none, errW_some] <;> rfl), by repeat (first | (with_reducible first | exact HB.out | apply below_alloc | apply pw_below_drewN | apply below_drew1) | exact HB.out)⟩
                rw [if_pos c20] at H
                have c20b0 := beq_iff_eq.mpr c20
                have c20b1 := bne_eq_false_iff_eq.mpr c20
                clear c20
                have H' := Aside0.mk H
                clear H
                go_wp2_with (first | (go_at_call 55; (with_reducible refine (remontoirref02_add.calls 0 t229 604800 t232 _ A19.out).mono ?_); rintro e w21 ⟨rfl, hb⟩; replace HB := Aside0.mk (bs8_0 hb); (try clear hb); (try clear hb2); (try clear hk); (try clear hi)))
                repeat (go_quiet (first | (go_at_call 55; (with_reducible refine (remontoirref02_add.calls 0 t229 604800 t232 _ A19.out).mono ?_); rintro e w21 ⟨rfl, hb⟩; replace HB := Aside0.mk (bs8_0 hb); (try clear hb); (try clear hb2); (try clear hk); (try clear hi))); try go_wp2_with (first | (go_at_call 55; (with_reducible refine (remontoirref02_add.calls 0 t229 604800 t232 _ A19.out).mono ?_); rintro e w21 ⟨rfl, hb⟩; replace HB := Aside0.mk (bs8_0 hb); (try clear hb); (try clear hb2); (try clear hk); (try clear hi))))
                go_meet
                case rel => exact ⟨_, (wrap64 (t230 + 1)), (t232), bd8_3, bd8_3, H', ⟨by have := HJ1.out; have := HJ7.out; have := HJ14.out; first | omega | exact Nat.le_refl _⟩, ⟨by repeat (first | (with_reducible first | exact HB.out | apply below_alloc | apply pw_below_drewN | apply below_drew1) | exact HB.out)⟩⟩
          case rest =>
            clear HC10
            try clear c1
            try clear p1
            try clear q1
            try clear hx1
            try clear c2
            try clear p2
            try clear c3
            try clear c3b0
            try clear c3b1
            try clear c4
            try clear c4b0
            try clear c4b1
            try clear p5
            try clear q5
            try clear hx5
            try clear qi5
            try clear c6
            try clear p6
            try clear c9
            try clear c11
            try clear c12
            try clear c12b0
            try clear c13
            try clear c13b0
            try clear p14
            try clear q14
            try clear hx14
            try clear c16
            try clear c16b0
            try clear c16b1
            try clear c17
            try clear c18
            try clear c18b0
            try clear c18b1
            try clear c20
            try clear c20b0
            try clear c20b1
            try clear c23
            try clear c23b0
            try clear c23b1
            try clear p1
            try clear p14
            try clear p2
            try clear p5
            try clear q1
            try clear q14
            try clear q5
            obtain ⟨kq, x4_9, x5_9, rfl, rfl, HA, HJ9, HB⟩ := hcut
            cases kq with
            | zero => exact absurd HA.out (by simp [remontoirref02_Parse.j3])
            | succ kj9 =>
              have H := HA.out
              clear HA
              simp only [remontoirref02_Parse.j3] at H
              have HC26 := Aside0.mk H
              clear H
              go_upto_if 61 with (fail)
              repeat (go_quiet (fail); go_upto_if 61 with (fail))
              go_cut [5] (fun v5 wc => ∃ (kq : Nat) (x5_25 : Int), v5 = .int .u64 x5_25 ∧ Aside0 (remontoirref02_Parse.j6 kq x5_25 = some (r1, r2)) ∧ Aside0 (kq ≤ kj9) ∧ Aside0 (Below w.heap.size w wc))
              case first =>
                have H := HC26.out
                clear HC26
                by_cases c27 : x4_9 < (a0.size : Int)
                rotate_left
                · rw [if_neg c27] at H
                  have c27b0 := decide_eq_false c27
                  clear c27
                  (first | rw [c27b0] | (simp only [i64_w, i32_w]; rw [c27b0]) | skip)
                  have H' := Aside0.mk H
                  clear H
                  go_wp2
                  repeat (go_quiet (fail); try go_wp2)
                  go_meet
                  case rel => exact ⟨_, (x5_9), bd8_3, H', ⟨by have := HJ1.out; have := HJ7.out; have := HJ9.out; first | omega | exact Nat.le_refl _⟩, ⟨by repeat (first | (with_reducible first | exact HB.out | apply below_alloc | apply pw_below_drewN | apply below_drew1) | exact HB.out)⟩⟩
                rw [if_pos c27] at H
                have c27b0 := decide_eq_true c27
                clear c27
                (first | rw [c27b0] | (simp only [i64_w, i32_w]; rw [c27b0]) | skip)
                obtain ⟨c28, H⟩ := itS H
                have c28b0 := decide_eq_true c28
                clear c28
                by_cases c30 : (bt a0 x4_9) = 84
                rotate_left
                · rw [if_neg c30] at H
                  have c30b0 := beq_eq_false_iff_ne.mpr c30
                  have c30b1 := bne_iff_ne.mpr c30
                  simp only [Option.some.injEq, Prod.mk.injEq] at H
                  obtain ⟨rfl, rfl⟩ := H
                  have p29 : 0 ≤ (x4_9 : Int) := of_decide_eq_true bb8_2
                  have q29 : x4_9 < (a0.size : Int) := of_decide_eq_true bb8_2
                  have hx29 := bt_at a0 x4_9
                  replace p29 := eq_true p29
                  replace q29 := eq_true q29
                  go_wp2
                  repeat (go_quiet (fail); try go_wp2)
                  go_ret2
                  exact ⟨by first | rfl | (simp [errW_none, errW_some] <;> rfl) | (simp [*, errW_none, errW_some] <;> rfl), by repeat (first | (with_reducible first | exact HB.out | apply below_alloc | apply pw_below_drewN | apply below_drew1) | exact HB.out)⟩
                rw [if_pos c30] at H
                have c30b0 := beq_iff_eq.mpr c30
                have c30b1 := bne_eq_false_iff_eq.mpr c30
                clear c30
                obtain ⟨y234, hy234⟩ : ∃ y_ : List Int, y_ = (([3600, 60, 1] : List Int)) := ⟨_, rfl⟩
                replace H : (remontoirref02_Parse.l0 kj9 a0 (wrap64 (x4_9 + 1)) x5_9 false y234 0) = some (r1, r2) := by first | (rw [hy234]; with_reducible exact H) | (have H2_ := (Option.bind_some _ _).symm.trans H; rw [hy234]; with_reducible exact H2_) | (have H2_ := (Option.bind_some _ _).symm.trans H; with_reducible exact H2_) | with_reducible exact H | (rw [hy234]; exact H) | exact H
                have Ny234 := Aside0.mk hy234
                clear hy234
                have H' := Aside0.mk H
                clear H
                have p29 : 0 ≤ (x4_9 : Int) := of_decide_eq_true bb8_2
                have q29 : x4_9 < (a0.size : Int) := of_decide_eq_true bb8_2
                have hx29 := bt_at a0 x4_9
                replace p29 := eq_true p29
                replace q29 := eq_true q29
                go_wp2_with (first | ((with_reducible refine gate_dst (N := 68) rfl ?_); (try (refine gate_guard (by rfl) ?_; dsimp only)); refine Kd.R_lit (Kd.int .u64) _ 46 ?hg (N := 68) ?hd (xs := ([3600, 60, 1] : List Int)) (inner := [.int .u64 3600, .int .u64 60, .int .u64 1]) (ok := fun _ => True) (okp := fun _ => True) ?hr ?hp (fun _ hk => hk) trivial (Below.refl _ _) (Nat.le_refl _) (by simp) ?_; (case hd => rfl); (case hg => rfl); (case hr => first | (go_simp; done) | (go_simp; rfl)); (case hp => exact (Reps.one (show Kd.M (Kd.int .u64) _ _ _ 3600 [.int .u64 3600] from rfl) (Reps.one (show Kd.M (Kd.int .u64) _ _ _ 60 [.int .u64 60] from rfl) (Reps.one (show Kd.M (Kd.int .u64) _ _ _ 1 [.int .u64 1] from rfl) (Reps.none _ _))))); intro v235 w31 ho32 hb hg_ hnew_; clear hg_ hnew_; (first | rw [← Ny234.out] at ho32 | (simp only [Int.reduceToNat] at ho32; rw [← Ny234.out] at ho32)); have HO236 := Aside0.mk (Kd.R_lower ho32 bz8_1); replace HB := Aside0.mk (bs8_0 hb); clear hb ho32))
                repeat (go_quiet (first | ((with_reducible refine gate_dst (N := 68) rfl ?_); (try (refine gate_guard (by rfl) ?_; dsimp only)); refine Kd.R_lit (Kd.int .u64) _ 46 ?hg (N := 68) ?hd (xs := ([3600, 60, 1] : List Int)) (inner := [.int .u64 3600, .int .u64 60, .int .u64 1]) (ok := fun _ => True) (okp := fun _ => True) ?hr ?hp (fun _ hk => hk) trivial (Below.refl _ _) (Nat.le_refl _) (by simp) ?_; (case hd => rfl); (case hg => rfl); (case hr => first | (go_simp; done) | (go_simp; rfl)); (case hp => exact (Reps.one (show Kd.M (Kd.int .u64) _ _ _ 3600 [.int .u64 3600] from rfl) (Reps.one (show Kd.M (Kd.int .u64) _ _ _ 60 [.int .u64 60] from rfl) (Reps.one (show Kd.M (Kd.int .u64) _ _ _ 1 [.int .u64 1] from rfl) (Reps.none _ _))))); intro v235 w31 ho32 hb hg_ hnew_; clear hg_ hnew_; (first | rw [← Ny234.out] at ho32 | (simp only [Int.reduceToNat] at ho32; rw [← Ny234.out] at ho32)); have HO236 := Aside0.mk (Kd.R_lower ho32 bz8_1); replace HB := Aside0.mk (bs8_0 hb); clear hb ho32)); try go_wp2_with (first | ((with_reducible refine gate_dst (N := 68) rfl ?_); (try (refine gate_guard (by rfl) ?_; dsimp only)); refine Kd.R_lit (Kd.int .u64) _ 46 ?hg (N := 68) ?hd (xs := ([3600, 60, 1] : List Int)) (inner := [.int .u64 3600, .int .u64 60, .int .u64 1]) (ok := fun _ => True) (okp := fun _ => True) ?hr ?hp (fun _ hk => hk) trivial (Below.refl _ _) (Nat.le_refl _) (by simp) ?_; (case hd => rfl); (case hg => rfl); (case hr => first | (go_simp; done) | (go_simp; rfl)); (case hp => exact (Reps.one (show Kd.M (Kd.int .u64) _ _ _ 3600 [.int .u64 3600] from rfl) (Reps.one (show Kd.M (Kd.int .u64) _ _ _ 60 [.int .u64 60] from rfl) (Reps.one (show Kd.M (Kd.int .u64) _ _ _ 1 [.int .u64 1] from rfl) (Reps.none _ _))))); intro v235 w31 ho32 hb hg_ hnew_; clear hg_ hnew_; (first | rw [← Ny234.out] at ho32 | (simp only [Int.reduceToNat] at ho32; rw [← Ny234.out] at ho32)); have HO236 := Aside0.mk (Kd.R_lower ho32 bz8_1); replace HB := Aside0.mk (bs8_0 hb); clear hb ho32)))
                go_loopg [4, 5, 9, 11] kj9 (fun kq v4 v5 v9 v11 w' => ∃ (x4_4 : Int) (x5_4 : Int) (x9_4 : Bool) (x11_4 : Int), v4 = .int .i64 x4_4 ∧ v5 = .int .u64 x5_4 ∧ v9 = .bool x9_4 ∧ v11 = .int .i64 x11_4 ∧ Aside0 (remontoirref02_Parse.l0 kq a0 x4_4 x5_4 x9_4 y234 x11_4 = some (r1, r2)) ∧ Aside0 (kq ≤ kj9) ∧ Aside0 (Kd.R (Kd.int .u64) 46 w' w.heap.size (fun _ => True) v235 y234) ∧ Aside0 (Below w.heap.size w w'))
                case atStart => exact ⟨(wrap64 (x4_9 + 1)), (x5_9), (false), (0), bd8_3, bd8_3, bd8_3, bd8_3, H', ⟨Nat.le_refl _⟩, ⟨by (with_reducible repeat (first | apply Kd.R_alloc | apply Kd.R_drewN | apply Kd.R_drew)); exact HO236.out⟩, ⟨by repeat (first | (with_reducible first | exact HB.out | apply below_alloc | apply pw_below_drewN | apply below_drew1) | exact HB.out)⟩⟩
                case round =>
                  clear H'
                  try clear c1
                  try clear p1
                  try clear q1
                  try clear hx1
                  try clear c2
                  try clear p2
                  try clear q2
                  try clear hx2
                  try clear c3
                  try clear c3b0
                  try clear c3b1
                  try clear c4
                  try clear c4b0
                  try clear c4b1
                  try clear p5
                  try clear q5
                  try clear hx5
                  try clear qi5
                  try clear c6
                  try clear p6
                  try clear c9
                  try clear c11
                  try clear c12
                  try clear c12b0
                  try clear c13
                  try clear c13b0
                  try clear p14
                  try clear q14
                  try clear hx14
                  try clear c16
                  try clear c16b0
                  try clear c16b1
                  try clear c17
                  try clear c18
                  try clear c18b0
                  try clear c18b1
                  try clear c20
                  try clear c20b0
                  try clear c20b1
                  try clear c23
                  try clear c23b0
                  try clear c23b1
                  try clear c27
                  try clear c27b0
                  try clear c28
                  try clear c28b0
                  try clear p29
                  try clear q29
                  try clear hx29
                  try clear c30
                  try clear c30b0
                  try clear c30b1
                  try clear p1
                  try clear p14
                  try clear p2
                  try clear p29
                  try clear p5
                  try clear p6
                  try clear q1
                  try clear q14
                  try clear q29
                  try clear q5
                  obtain ⟨x4_4, x5_4, x9_4, x11_4, rfl, rfl, rfl, rfl, HA, HK4, HO_10, HB⟩ := hrel
                  cases gk with
                  | zero => exact absurd HA.out (by simp [remontoirref02_Parse.l0])
                  | succ k4 =>
                    have H := HA.out
                    clear HA
                    simp only [remontoirref02_Parse.l0] at H
                    by_cases c33 : x11_4 < 3
                    rotate_left
                    · rw [if_neg c33] at H
                      have c33b0 := decide_eq_false c33
                      clear c33
                      by_cases c48 : x9_4 = true
                      rotate_left
                      · replace c48 := Bool.eq_false_iff.mpr c48
                        subst c48
                        rw [if_neg nft] at H
                        simp only [Option.some.injEq, Prod.mk.injEq] at H
                        obtain ⟨rfl, rfl⟩ := H
                        go_wp2
                        repeat (go_quiet (fail); try go_wp2)
                        go_ret2
                        exact ⟨by first | rfl | (simp [errW_none, errW_some] <;> rfl) | (simp [*, errW_none, errW_some] <;> rfl), by repeat (first | (with_reducible first | exact HB.out | apply below_alloc | apply pw_below_drewN | apply below_drew1) | exact HB.out)⟩
                      subst c48
                      rw [if_pos rfl] at H
                      by_cases c49 : x4_4 = (a0.size : Int)
                      rotate_left
                      · rw [if_neg c49] at H
                        have c49b0 := beq_eq_false_iff_ne.mpr c49
                        have c49b1 := bne_iff_ne.mpr c49
                        simp only [Option.some.injEq, Prod.mk.injEq] at H
                        obtain ⟨rfl, rfl⟩ := H
                        go_wp2
                        repeat (go_quiet (fail); try go_wp2)
                        go_ret2
                        exact ⟨by first | rfl | (simp [errW_none, errW_some] <;> rfl) | (simp [*, errW_none, errW_some] <;> rfl), by repeat (first | (with_reducible first | exact HB.out | apply below_alloc | apply pw_below_drewN | apply below_drew1) | exact HB.out)⟩
                      rw [if_pos c49] at H
                      have c49b0 := beq_iff_eq.mpr c49
                      have c49b1 := bne_eq_false_iff_eq.mpr c49
                      clear c49
                      have H' := Aside0.mk H
                      clear H
                      go_wp2
                      repeat (go_quiet (fail); try go_wp2)
                      go_meet
                      case rel => exact ⟨_, (x5_4), bd8_3, H', ⟨by have := HJ1.out; have := HJ7.out; have := HJ9.out; have := HK4.out; first | omega | exact Nat.le_refl _⟩, ⟨by repeat (first | (with_reducible first | exact HB.out | apply below_alloc | apply pw_below_drewN | apply below_drew1) | exact HB.out)⟩⟩
                    rw [if_pos c33] at H
                    have c33b0 := decide_eq_true c33
                    clear c33
                    obtain ⟨⟨t237, t238, t239⟩, A34, H⟩ := bdA H
                    dsimp only at H
                    have HC35 := Aside0.mk H
                    clear H
                    go_upto_region 27 with (first | (go_at_call 54; (with_reducible refine (remontoirref02_number.calls k4 a0 x4_4 t237 t238 t239 _ A34.out).mono ?_); rintro e w' ⟨rfl, ⟨nd, rfl⟩⟩; (try first | exact ⟨rfl, _, World.drewN_drewN _ _ _⟩ | exact ⟨rfl, _, Eq.trans (World.drewN_drewN _ _ _) (congrArg (World.drewN _) (Nat.add_assoc _ _ _))⟩)))
                    repeat (go_quiet (first | (go_at_call 54; (with_reducible refine (remontoirref02_number.calls k4 a0 x4_4 t237 t238 t239 _ A34.out).mono ?_); rintro e w' ⟨rfl, ⟨nd, rfl⟩⟩; (try first | exact ⟨rfl, _, World.drewN_drewN _ _ _⟩ | exact ⟨rfl, _, Eq.trans (World.drewN_drewN _ _ _) (congrArg (World.drewN _) (Nat.add_assoc _ _ _))⟩))); go_upto_region 27 with (first | (go_at_call 54; (with_reducible refine (remontoirref02_number.calls k4 a0 x4_4 t237 t238 t239 _ A34.out).mono ?_); rintro e w' ⟨rfl, ⟨nd, rfl⟩⟩; (try first | exact ⟨rfl, _, World.drewN_drewN _ _ _⟩ | exact ⟨rfl, _, Eq.trans (World.drewN_drewN _ _ _) (congrArg (World.drewN _) (Nat.add_assoc _ _ _))⟩))))
                    (try simp only [Act.put, List.setIfInBounds_toArray, List.set_cons_zero, List.set_cons_succ])
                    go_cut [94] (fun v94 wc => ∃ (kq : Nat) (x94_34 : Bool), v94 = .bool x94_34 ∧ Aside0 (remontoirref02_Parse.j5 kq a0 x4_4 x5_4 x9_4 y234 x11_4 t237 t238 x94_34 = some (r1, r2)) ∧ Aside0 (kq ≤ k4) ∧ Aside0 (Kd.R (Kd.int .u64) 46 wc w.heap.size (fun _ => True) v235 y234) ∧ Aside0 (Below w.heap.size w wc))
                    case first =>
                      have H := HC35.out
                      clear HC35
                      by_cases c36 : t239 = true
                      rotate_left
                      · replace c36 := Bool.eq_false_iff.mpr c36
                        subst c36
                        rw [if_neg nft] at H
                        have H' := Aside0.mk H
                        clear H
                        go_wp2
                        repeat (go_quiet (fail); try go_wp2)
                        go_meet
                        case rel => exact ⟨_, (false), bd8_3, H', ⟨by have := HJ1.out; have := HJ7.out; have := HJ9.out; have := HK4.out; first | omega | exact Nat.le_refl _⟩, ⟨by (with_reducible repeat (first | apply Kd.R_alloc | apply Kd.R_drewN | apply Kd.R_drew)); exact HO_10.out⟩, ⟨by repeat (first | (with_reducible first | exact HB.out | apply below_alloc | apply pw_below_drewN | apply below_drew1) | exact HB.out)⟩⟩
                      subst c36
                      rw [if_pos rfl] at H
                      by_cases c37 : t238 < (a0.size : Int)
                      rotate_left
                      · rw [if_neg c37] at H
                        have c37b0 := decide_eq_false c37
                        clear c37
                        (first | rw [c37b0] | (simp only [i64_w, i32_w]; rw [c37b0]) | skip)
                        have H' := Aside0.mk H
                        clear H
                        go_wp2
                        repeat (go_quiet (fail); try go_wp2)
                        go_meet
                        case rel => exact ⟨_, (false), bd8_3, H', ⟨by have := HJ1.out; have := HJ7.out; have := HJ9.out; have := HK4.out; first | omega | exact Nat.le_refl _⟩, ⟨by (with_reducible repeat (first | apply Kd.R_alloc | apply Kd.R_drewN | apply Kd.R_drew)); exact HO_10.out⟩, ⟨by repeat (first | (with_reducible first | exact HB.out | apply below_alloc | apply pw_below_drewN | apply below_drew1) | exact HB.out)⟩⟩
                      rw [if_pos c37] at H
                      have c37b0 := decide_eq_true c37
                      clear c37
                      (first | rw [c37b0] | (simp only [i64_w, i32_w]; rw [c37b0]) | skip)
                      obtain ⟨c38, H⟩ := itS H
                      have c38b0 := decide_eq_true c38
                      clear c38
                      obtain ⟨c40, H⟩ := itS H
                      have c40b0 := decide_eq_true c40
                      clear c40
                      have H' := Aside0.mk H
                      clear H
                      have p39 : 0 ≤ (t238 : Int) := of_decide_eq_true bb8_2
                      have q39 : t238 < (a0.size : Int) := of_decide_eq_true bb8_2
                      have hx39 := bt_at a0 t238
                      replace p39 := eq_true p39
                      replace q39 := eq_true q39
                      have p41 : 0 ≤ (x11_4 : Int) := of_decide_eq_true bb8_2
                      have q41 : x11_4 < (3 : Int) := of_decide_eq_true bb8_2
                      have hx41 := bt_at (⟨#[72, 77, 83]⟩ : ByteArray) x11_4
                      replace p41 := eq_true p41
                      replace q41 := eq_true q41
                      go_wp2
                      repeat (go_quiet (fail); try go_wp2)
                      go_meet
                      case rel => exact ⟨_, (((bt a0 t238) == (bt (⟨#[72, 77, 83]⟩ : ByteArray) x11_4))), bd8_3, H', ⟨by have := HJ1.out; have := HJ7.out; have := HJ9.out; have := HK4.out; first | omega | exact Nat.le_refl _⟩, ⟨by (with_reducible repeat (first | apply Kd.R_alloc | apply Kd.R_drewN | apply Kd.R_drew)); exact HO_10.out⟩, ⟨by repeat (first | (with_reducible first | exact HB.out | apply below_alloc | apply pw_below_drewN | apply below_drew1) | exact HB.out)⟩⟩
                    case rest =>
                      clear HC35
                      try clear c1
                      try clear p1
                      try clear q1
                      try clear hx1
                      try clear c2
                      try clear p2
                      try clear q2
                      try clear hx2
                      try clear c3
                      try clear c3b0
                      try clear c3b1
                      try clear p3
                      try clear q3
                      try clear hx3
                      try clear c4
                      try clear c4b0
                      try clear c4b1
                      try clear p4
                      try clear q4
                      try clear hx4
                      try clear p5
                      try clear q5
                      try clear hx5
                      try clear qi5
                      try clear c6
                      try clear p6
                      try clear c9
                      try clear c11
                      try clear c12
                      try clear c12b0
                      try clear c13
                      try clear c13b0
                      try clear p14
                      try clear q14
                      try clear hx14
                      try clear c16
                      try clear c16b0
                      try clear c16b1
                      try clear c17
                      try clear c18
                      try clear c18b0
                      try clear c18b1
                      try clear c20
                      try clear c20b0
                      try clear c20b1
                      try clear c23
                      try clear c23b0
                      try clear c23b1
                      try clear c27
                      try clear c27b0
                      try clear c28
                      try clear c28b0
                      try clear p29
                      try clear q29
                      try clear hx29
                      try clear c30
                      try clear c30b0
                      try clear c30b1
                      try clear c33
                      try clear c33b0
                      try clear c34
                      try clear c36
                      try clear c37
                      try clear c37b0
                      try clear c38
                      try clear c38b0
                      try clear p39
                      try clear q39
                      try clear hx39
                      try clear c40
                      try clear c40b0
                      try clear p41
                      try clear q41
                      try clear hx41
                      try clear p1
                      try clear p14
                      try clear p2
                      try clear p29
                      try clear p39
                      try clear p41
                      try clear p5
                      try clear p6
                      try clear q1
                      try clear q14
                      try clear q2
                      try clear q29
                      try clear q39
                      try clear q41
                      try clear q5
                      obtain ⟨kq, x94_34, rfl, HA, HJ34, HO_10, HB⟩ := hcut
                      cases kq with
                      | zero => exact absurd HA.out (by simp [remontoirref02_Parse.j5])
                      | succ kj34 =>
                        have H := HA.out
                        clear HA
                        simp only [remontoirref02_Parse.j5] at H
                        by_cases c42 : x94_34 = true
                        rotate_left
                        · replace c42 := Bool.eq_false_iff.mpr c42
                          subst c42
                          rw [if_neg nft] at H
                          have H' := Aside0.mk H
                          clear H
                          go_wp2
                          repeat (go_quiet (fail); try go_wp2)
                          go_roundg kj34
                          case measure => have := HJ1.out; have := HJ7.out; have := HJ9.out; have := HK4.out; have := HJ34.out; omega
                          case rel => exact ⟨(x4_4), (x5_4), (x9_4), (wrap64 (x11_4 + 1)), bd8_3, bd8_3, bd8_3, bd8_3, H', ⟨by have := HJ1.out; have := HJ7.out; have := HJ9.out; have := HK4.out; have := HJ34.out; omega⟩, ⟨by (with_reducible repeat (first | apply Kd.R_alloc | apply Kd.R_drewN | apply Kd.R_drew)); exact HO_10.out⟩, ⟨by repeat (first | (with_reducible first | exact HB.out | apply below_alloc | apply pw_below_drewN | apply below_drew1) | exact HB.out)⟩⟩
                        subst c42
                        rw [if_pos rfl] at H
                        obtain ⟨c43, H⟩ := itS H
                        have c43b0 := decide_eq_true c43
                        clear c43
                        obtain ⟨c44, H⟩ := itS H
                        have c44b0 := decide_eq_true c44
                        clear c44
                        obtain ⟨t241, A45, H⟩ := bdA H
                        have H' := Aside0.mk H
                        clear H
                        obtain ⟨Ao46, co46, eo46⟩ := Kd.R_slice HO_10.out
                        subst eo46
                        have p240 : 0 ≤ (x11_4 : Int) := of_decide_eq_true bb8_2
                        have q240 : x11_4 < (y234.length : Int) := of_decide_eq_true bb8_2
                        obtain ⟨ad240, e240, hx240_0⟩ := Kd.at_int (Kd.R_reads' HO_10.out).2.2 x11_4 p240 q240
                        cases e240
                        replace p240 := eq_true p240
                        replace q240 := eq_true q240
                        go_wp2_with (first | (go_at_call 55; (with_reducible refine (remontoirref02_add.calls x5_4 t237 (rd y234 x11_4) t241 _ A45.out).mono ?_); rintro e w47 ⟨rfl, hb⟩; replace HO_10 := Aside0.mk (Kd.R_below (by (with_reducible repeat (first | apply Kd.R_alloc | apply Kd.R_drewN | apply Kd.R_drew)); exact HO_10.out) hb); replace HB := Aside0.mk (bs8_0 hb); (try clear hb); (try clear hb2); (try clear hk); (try clear hi)))
                        repeat (go_quiet (first | (go_at_call 55; (with_reducible refine (remontoirref02_add.calls x5_4 t237 (rd y234 x11_4) t241 _ A45.out).mono ?_); rintro e w47 ⟨rfl, hb⟩; replace HO_10 := Aside0.mk (Kd.R_below (by (with_reducible repeat (first | apply Kd.R_alloc | apply Kd.R_drewN | apply Kd.R_drew)); exact HO_10.out) hb); replace HB := Aside0.mk (bs8_0 hb); (try clear hb); (try clear hb2); (try clear hk); (try clear hi))); try go_wp2_with (first | (go_at_call 55; (with_reducible refine (remontoirref02_add.calls x5_4 t237 (rd y234 x11_4) t241 _ A45.out).mono ?_); rintro e w47 ⟨rfl, hb⟩; replace HO_10 := Aside0.mk (Kd.R_below (by (with_reducible repeat (first | apply Kd.R_alloc | apply Kd.R_drewN | apply Kd.R_drew)); exact HO_10.out) hb); replace HB := Aside0.mk (bs8_0 hb); (try clear hb); (try clear hb2); (try clear hk); (try clear hi))))
                        go_roundg kj34
                        case measure => have := HJ1.out; have := HJ7.out; have := HJ9.out; have := HK4.out; have := HJ34.out; omega
                        case rel => exact ⟨(wrap64 (t238 + 1)), (t241), (true), (wrap64 (x11_4 + 1)), bd8_3, bd8_3, bd8_3, bd8_3, H', ⟨by have := HJ1.out; have := HJ7.out; have := HJ9.out; have := HK4.out; have := HJ34.out; omega⟩, ⟨by (with_reducible repeat (first | apply Kd.R_alloc | apply Kd.R_drewN | apply Kd.R_drew)); exact HO_10.out⟩, ⟨by repeat (first | (with_reducible first | exact HB.out | apply below_alloc | apply pw_below_drewN | apply below_drew1) | exact HB.out)⟩⟩
              case rest =>
                clear HC26
                try clear c1
                try clear p1
                try clear q1
                try clear hx1
                try clear c2
                try clear p2
                try clear q2
                try clear hx2
                try clear c3
                try clear c3b0
                try clear c3b1
                try clear p3
                try clear q3
                try clear hx3
                try clear c4
                try clear c4b0
                try clear c4b1
                try clear p4
                try clear q4
                try clear hx4
                try clear p5
                try clear q5
                try clear hx5
                try clear qi5
                try clear c6
                try clear p6
                try clear c9
                try clear c11
                try clear c12
                try clear c12b0
                try clear c13
                try clear c13b0
                try clear p14
                try clear q14
                try clear hx14
                try clear c16
                try clear c16b0
                try clear c16b1
                try clear c17
                try clear c18
                try clear c18b0
                try clear c18b1
                try clear c20
                try clear c20b0
                try clear c20b1
                try clear c23
                try clear c23b0
                try clear c23b1
                try clear p24
                try clear q24
                try clear hx24
                try clear c27
                try clear c27b0
                try clear c28
                try clear c28b0
                try clear p29
                try clear q29
                try clear hx29
                try clear c30
                try clear c30b0
                try clear c30b1
                try clear c33
                try clear c33b0
                try clear c34
                try clear c36
                try clear c37
                try clear c37b0
                try clear c38
                try clear c38b0
                try clear p39
                try clear q39
                try clear hx39
                try clear c40
                try clear c40b0
                try clear p41
                try clear q41
                try clear hx41
                try clear c42
                try clear c43
                try clear c43b0
                try clear c44
                try clear c44b0
                try clear c48
                try clear c49
                try clear c49b0
                try clear c49b1
                try clear hx240_0
                try clear p1
                try clear p14
                try clear p2
                try clear p240
                try clear p29
                try clear p3
                try clear p39
                try clear p4
                try clear p41
                try clear p5
                try clear p6
                try clear q1
                try clear q14
                try clear q2
                try clear q240
                try clear q29
                try clear q3
                try clear q39
                try clear q4
                try clear q41
                try clear q5
                obtain ⟨kq, x5_25, rfl, HA, HJ25, HB⟩ := hcut
                cases kq with
                | zero => exact absurd HA.out (by simp [remontoirref02_Parse.j6])
                | succ kj25 =>
                  have H := HA.out
                  clear HA
                  simp only [remontoirref02_Parse.j6] at H
                  by_cases c50 : x5_25 > 1125899906842624
                  · rw [if_pos c50] at H
                    have c50b0 : decide (1125899906842624 < x5_25) = true := decide_eq_true c50
                    clear c50
                    simp only [Option.some.injEq, Prod.mk.injEq] at H
                    obtain ⟨rfl, rfl⟩ := H
                    go_wp2
                    repeat (go_quiet (fail); try go_wp2)
                    go_ret2
                    exact ⟨by first | rfl | (simp [errW_none, errW_some] <;> rfl) | (simp [*, errW_none, errW_some] <;> rfl), by repeat (first | (with_reducible first | exact HB.out | apply below_alloc | apply pw_below_drewN | apply below_drew1) | exact HB.out)⟩
                  rw [if_neg c50] at H
                  have c50b0 : decide (1125899906842624 < x5_25) = false := decide_eq_false c50
                  clear c50
                  simp only [Option.some.injEq, Prod.mk.injEq] at H
                  obtain ⟨rfl, rfl⟩ := H
                  go_wp2
                  repeat (go_quiet (fail); try go_wp2)
                  go_ret2
                  exact ⟨by first | rfl | (simp [errW_none, errW_some] <;> rfl) | (simp [*, errW_none, errW_some] <;> rfl), by repeat (first | (with_reducible first | exact HB.out | apply below_alloc | apply pw_below_drewN | apply below_drew1) | exact HB.out)⟩

end Go.Proofs.YtflnkchpfbcgiaaGreatDoor.Q
