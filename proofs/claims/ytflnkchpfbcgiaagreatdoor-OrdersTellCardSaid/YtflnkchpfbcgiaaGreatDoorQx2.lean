-- Written by this session's program xprint.py (which runs the kit's print with some functions given by hand). Lean checks it.
import Derived.Test.YtflnkchpfbcgiaaGreatDoorQx0
import Derived.Test.YtflnkchpfbcgiaaGreatDoorHLib
namespace Go.Proofs.YtflnkchpfbcgiaaGreatDoor.Q
open Go.RowKit Go.Proofs.YtflnkchpfbcgiaaGreatDoorW.PrintWords Go.Proofs.YtflnkchpfbcgiaaGreatDoorW.PrintLast Go.Proofs.YtflnkchpfbcgiaaGreatDoorW.PrintMore
attribute [local go_sem] max2_int min2_int max_two min_two max_three min_three max_four min_four   -- for this text's walks alone
set_option linter.unusedVariables false
set_option linter.unusedSimpArgs false
theorem bs2_0 {w W w2 : World} (k : Below W.heap.size W w2) (h : Below w.heap.size w W := by repeat (first | (with_reducible first | exact HB.out | apply below_alloc | apply pw_below_drewN | apply below_drew1) | exact HB.out)) : Below w.heap.size w w2 := below_step h k
theorem ba2_1 {p : Prop} (h : p := by (try simp only [List.map_toArray, List.map_cons, List.map_nil]); first | done | rfl | (simp only [List.length_drop, List.length_take]; rfl)) : p := h
theorem bb2_2 {p : Prop} (h : p := by first | (with_reducible assumption) | assumption) : p := h
theorem bd2_3 {p : Prop} (h : p := by first | rfl | (simp; done) | (simp [*]; done)) : p := h


-- BY HAND: function 64 (strconv_ParseUint)
/-! ### span_next: function 49 -/
mutual
def span_next.l0 : Nat → ByteArray → Int → Option (Int × Int × ByteArray)
  | 0, _, _ => none
  | k + 1, x0, x5 => if x5 < (x0.size : Int) then (if 0 ≤ x5 then (if (bt x0 x5) ≥ 48 then (span_next.j1 k x0 x5 (decide ((bt x0 x5) ≤ 57))) else (span_next.j1 k x0 x5 false)) else (none)) else (span_next.j1 k x0 x5 false)
def span_next.j1 : Nat → ByteArray → Int → Bool → Option (Int × Int × ByteArray)
  | 0, _, _, _ => none
  | k + 1, x0, x5, x21 => if x21 = true then (span_next.l0 k x0 (wrap64 (x5 + 1))) else (if x5 < 1 then (span_next.j2 k x0 x5 true) else (if x5 > 15 then (span_next.j2 k x0 x5 true) else (if x5 = (x0.size : Int) then (span_next.j2 k x0 x5 true) else (if 0 < (x0.size : Int) then (if (bt x0 0) = 48 then (span_next.j2 k x0 x5 (decide (x5 > 1))) else (span_next.j2 k x0 x5 false)) else (none)))))
def span_next.j2 : Nat → ByteArray → Int → Bool → Option (Int × Int × ByteArray)
  | 0, _, _, _ => none
  | k + 1, x0, x5, x44 => if x44 = true then (some (0, 0, (⟨#[]⟩ : ByteArray))) else (if 0 ≤ x5 then (if x5 ≤ (x0.size : Int) then ((strconv_ParseUint.f (x0.extract 0 (x5 : Int).toNat) 10 64).bind fun bt101 => (if x5 < (x0.size : Int) then (if 0 ≤ (wrap64 (x5 + 1)) then (if (wrap64 (x5 + 1)) ≤ (x0.size : Int) then (some (bt101.1, bt x0 x5, x0.extract ((wrap64 (x5 + 1)) : Int).toNat x0.size)) else (none)) else (none)) else (none))) else (none)) else (none))
end
def span_next.f (k : Nat) (a0 : ByteArray) : Option (Int × Int × ByteArray) := span_next.l0 k a0 0
theorem span_next.mono_l : ∀ k, (∀ y0 y1, LeO (span_next.l0 k y0 y1) (span_next.l0 (k + 1) y0 y1)) ∧ (∀ y0 y1 y2, LeO (span_next.j1 k y0 y1 y2) (span_next.j1 (k + 1) y0 y1 y2)) ∧ (∀ y0 y1 y2, LeO (span_next.j2 k y0 y1 y2) (span_next.j2 (k + 1) y0 y1 y2))
  | 0 => ⟨fun _ _ r h => by simp [span_next.l0] at h, fun _ _ _ r h => by simp [span_next.j1] at h, fun _ _ _ r h => by simp [span_next.j2] at h⟩
  | k + 1 => by
    obtain ⟨ih0, ih1, ih2⟩ := span_next.mono_l k
    refine ⟨?_, ?_, ?_⟩
    · intro y0 y1
      unfold span_next.l0
      repeat' first
      | (with_reducible exact ih0 _ _)
      | (with_reducible exact ih1 _ _ _)
      | (with_reducible exact ih2 _ _ _)
      | (with_reducible exact LeO.refl _)
      | (with_reducible exact LeO.none _)
      | (with_reducible refine LeO.ite ?_ ?_)
      | (with_reducible refine LeO.bind ?_ (fun _ => ?_))
      | exact ih0 _ _
      | exact ih1 _ _ _
      | exact ih2 _ _ _
      | exact LeO.none _
      | refine LeO.ite ?_ ?_
      | refine LeO.bind ?_ (fun _ => ?_)
    · intro y0 y1 y2
      unfold span_next.j1
      repeat' first
      | (with_reducible exact ih0 _ _)
      | (with_reducible exact ih1 _ _ _)
      | (with_reducible exact ih2 _ _ _)
      | (with_reducible exact LeO.refl _)
      | (with_reducible exact LeO.none _)
      | (with_reducible refine LeO.ite ?_ ?_)
      | (with_reducible refine LeO.bind ?_ (fun _ => ?_))
      | exact ih0 _ _
      | exact ih1 _ _ _
      | exact ih2 _ _ _
      | exact LeO.none _
      | refine LeO.ite ?_ ?_
      | refine LeO.bind ?_ (fun _ => ?_)
    · intro y0 y1 y2
      unfold span_next.j2
      repeat' first
      | (with_reducible exact ih0 _ _)
      | (with_reducible exact ih1 _ _ _)
      | (with_reducible exact ih2 _ _ _)
      | (with_reducible exact LeO.refl _)
      | (with_reducible exact LeO.none _)
      | (with_reducible refine LeO.ite ?_ ?_)
      | (with_reducible refine LeO.bind ?_ (fun _ => ?_))
      | exact ih0 _ _
      | exact ih1 _ _ _
      | exact ih2 _ _ _
      | exact LeO.none _
      | refine LeO.ite ?_ ?_
      | refine LeO.bind ?_ (fun _ => ?_)
theorem span_next.mono : ∀ a0 k, LeO (span_next.f k a0) (span_next.f (k + 1) a0) := by
  intro a0 k
  obtain ⟨ih0, ih1, ih2⟩ := span_next.mono_l k
  unfold span_next.f
  repeat' first
      | (with_reducible exact ih0 _ _)
      | (with_reducible exact ih1 _ _ _)
      | (with_reducible exact ih2 _ _ _)
      | (with_reducible exact LeO.refl _)
      | (with_reducible exact LeO.none _)
      | (with_reducible refine LeO.ite ?_ ?_)
      | (with_reducible refine LeO.bind ?_ (fun _ => ?_))
      | exact ih0 _ _
      | exact ih1 _ _ _
      | exact ih2 _ _ _
      | exact LeO.none _
      | refine LeO.ite ?_ ?_
      | refine LeO.bind ?_ (fun _ => ?_)
set_option maxHeartbeats 8000000 in
set_option maxRecDepth 100000 in
theorem span_next.calls (k : Nat) (a0 : ByteArray) (r1 : Int) (r2 : Int) (r3 : ByteArray) (w : World) (h : span_next.f k a0 = some (r1, r2, r3)) :
    Calls Tryz.prog 49 #[.string a0] w fun e w' => e = .returned (.tuple #[.int .u64 r1, .int .u8 r2, .string r3]) ∧ Below w.heap.size w w' := by
  have HB := Aside0.mk (Below.refl w.heap.size w)
  unfold span_next.f at h
  have H := h
  clear h
  have H' := Aside0.mk H
  clear H
  go_enter Tryz.func49, Tryz.ntmps49
  go_wp2
  repeat (go_quiet (fail); try go_wp2)
  go_loopg [5] k (fun kq v5 w' => ∃ (x5_1 : Int), v5 = .int .i64 x5_1 ∧ Aside0 (span_next.l0 kq a0 x5_1 = some (r1, r2, r3)) ∧ Aside0 (kq ≤ k) ∧ Aside0 (Below w.heap.size w w'))
  case atStart => exact ⟨(0), bd2_3, H', ⟨Nat.le_refl _⟩, ⟨by repeat (first | (with_reducible first | exact HB.out | apply below_alloc | apply pw_below_drewN | apply below_drew1) | exact HB.out)⟩⟩
  case round =>
    clear H'
    obtain ⟨x5_1, rfl, HA, HK1, HB⟩ := hrel
    cases gk with
    | zero => exact absurd HA.out (by simp [span_next.l0])
    | succ k1 =>
      have H := HA.out
      clear HA
      simp only [span_next.l0] at H
      have HC2 := Aside0.mk H
      clear H
      go_upto_region 2 with (fail)
      repeat (go_quiet (fail); go_upto_region 2 with (fail))
      go_cut [21] (fun v21 wc => ∃ (kq : Nat) (x21_1 : Bool), v21 = .bool x21_1 ∧ Aside0 (span_next.j1 kq a0 x5_1 x21_1 = some (r1, r2, r3)) ∧ Aside0 (kq ≤ k1) ∧ Aside0 (Below w.heap.size w wc))
      case first =>
        have H := HC2.out
        clear HC2
        by_cases c3 : x5_1 < (a0.size : Int)
        rotate_left
        · rw [if_neg c3] at H
          have c3b0 := decide_eq_false c3
          clear c3
          (first | rw [c3b0] | (simp only [i64_w, i32_w]; rw [c3b0]) | skip)
          have H' := Aside0.mk H
          clear H
          go_wp2
          repeat (go_quiet (fail); try go_wp2)
          go_meet
          case rel => exact ⟨_, (false), bd2_3, H', ⟨by have := HK1.out; first | omega | exact Nat.le_refl _⟩, ⟨by repeat (first | (with_reducible first | exact HB.out | apply below_alloc | apply pw_below_drewN | apply below_drew1) | exact HB.out)⟩⟩
        rw [if_pos c3] at H
        have c3b0 := decide_eq_true c3
        clear c3
        (first | rw [c3b0] | (simp only [i64_w, i32_w]; rw [c3b0]) | skip)
        obtain ⟨c4, H⟩ := itS H
        have c4b0 := decide_eq_true c4
        clear c4
        by_cases c6 : (bt a0 x5_1) ≥ 48
        rotate_left
        · rw [if_neg c6] at H
          have c6b0 : decide (48 ≤ (bt a0 x5_1)) = false := decide_eq_false c6
          clear c6
          have H' := Aside0.mk H
          clear H
          have p5 : 0 ≤ (x5_1 : Int) := of_decide_eq_true bb2_2
          have q5 : x5_1 < (a0.size : Int) := of_decide_eq_true bb2_2
          have hx5 := bt_at a0 x5_1
          replace p5 := eq_true p5
          replace q5 := eq_true q5
          go_wp2
          repeat (go_quiet (fail); try go_wp2)
          go_meet
          case rel => exact ⟨_, (false), bd2_3, H', ⟨by have := HK1.out; first | omega | exact Nat.le_refl _⟩, ⟨by repeat (first | (with_reducible first | exact HB.out | apply below_alloc | apply pw_below_drewN | apply below_drew1) | exact HB.out)⟩⟩
        rw [if_pos c6] at H
        have c6b0 : decide (48 ≤ (bt a0 x5_1)) = true := decide_eq_true c6
        clear c6
        have H' := Aside0.mk H
        clear H
        have p5 : 0 ≤ (x5_1 : Int) := of_decide_eq_true bb2_2
        have q5 : x5_1 < (a0.size : Int) := of_decide_eq_true bb2_2
        have hx5 := bt_at a0 x5_1
        replace p5 := eq_true p5
        replace q5 := eq_true q5
        have p7 : 0 ≤ (x5_1 : Int) := of_decide_eq_true bb2_2
        have q7 : x5_1 < (a0.size : Int) := of_decide_eq_true bb2_2
        have hx7 := bt_at a0 x5_1
        replace p7 := eq_true p7
        replace q7 := eq_true q7
        go_wp2
        repeat (go_quiet (fail); try go_wp2)
        go_meet
        case rel => exact ⟨_, (decide ((bt a0 x5_1) ≤ 57)), bd2_3, H', ⟨by have := HK1.out; first | omega | exact Nat.le_refl _⟩, ⟨by repeat (first | (with_reducible first | exact HB.out | apply below_alloc | apply pw_below_drewN | apply below_drew1) | exact HB.out)⟩⟩
      case rest =>
        clear HC2
        try clear p2
        try clear c3
        try clear c3b0
        try clear c4
        try clear c4b0
        try clear p5
        try clear q5
        try clear hx5
        try clear c6
        try clear c6b0
        try clear p7
        try clear q7
        try clear hx7
        try clear p5
        try clear p7
        try clear q5
        try clear q7
        obtain ⟨kq, x21_1, rfl, HA, HJ1, HB⟩ := hcut
        cases kq with
        | zero => exact absurd HA.out (by simp [span_next.j1])
        | succ kj1 =>
          have H := HA.out
          clear HA
          simp only [span_next.j1] at H
          by_cases c8 : x21_1 = true
          · subst c8
            rw [if_pos rfl] at H
            have H' := Aside0.mk H
            clear H
            go_wp2
            repeat (go_quiet (fail); try go_wp2)
            go_roundg kj1
            case measure => have := HK1.out; have := HJ1.out; omega
            case rel => exact ⟨(wrap64 (x5_1 + 1)), bd2_3, H', ⟨by have := HK1.out; have := HJ1.out; omega⟩, ⟨by repeat (first | (with_reducible first | exact HB.out | apply below_alloc | apply pw_below_drewN | apply below_drew1) | exact HB.out)⟩⟩
          replace c8 := Bool.eq_false_iff.mpr c8
          subst c8
          rw [if_neg nft] at H
          have HC9 := Aside0.mk H
          clear H
          go_upto_region 4 with (fail)
          repeat (go_quiet (fail); go_upto_region 4 with (fail))
          go_cut [44] (fun v44 wc => ∃ (kq : Nat) (x44_8 : Bool), v44 = .bool x44_8 ∧ Aside0 (span_next.j2 kq a0 x5_1 x44_8 = some (r1, r2, r3)) ∧ Aside0 (kq ≤ kj1) ∧ Aside0 (Below w.heap.size w wc))
          case first =>
            have H := HC9.out
            clear HC9
            by_cases c10 : x5_1 < 1
            · rw [if_pos c10] at H
              have c10b0 := decide_eq_true c10
              clear c10
              (first | rw [c10b0] | (simp only [i64_w, i32_w]; rw [c10b0]) | skip)
              have H' := Aside0.mk H
              clear H
              go_wp2
              repeat (go_quiet (fail); try go_wp2)
              go_meet
              case rel => exact ⟨_, (true), bd2_3, H', ⟨by have := HK1.out; have := HJ1.out; first | omega | exact Nat.le_refl _⟩, ⟨by repeat (first | (with_reducible first | exact HB.out | apply below_alloc | apply pw_below_drewN | apply below_drew1) | exact HB.out)⟩⟩
            rw [if_neg c10] at H
            have c10b0 := decide_eq_false c10
            clear c10
            (first | rw [c10b0] | (simp only [i64_w, i32_w]; rw [c10b0]) | skip)
            by_cases c11 : x5_1 > 15
            · rw [if_pos c11] at H
              have c11b0 : decide (15 < x5_1) = true := decide_eq_true c11
              clear c11
              have H' := Aside0.mk H
              clear H
              go_wp2
              repeat (go_quiet (fail); try go_wp2)
              go_meet
              case rel => exact ⟨_, (true), bd2_3, H', ⟨by have := HK1.out; have := HJ1.out; first | omega | exact Nat.le_refl _⟩, ⟨by repeat (first | (with_reducible first | exact HB.out | apply below_alloc | apply pw_below_drewN | apply below_drew1) | exact HB.out)⟩⟩
            rw [if_neg c11] at H
            have c11b0 : decide (15 < x5_1) = false := decide_eq_false c11
            clear c11
            by_cases c12 : x5_1 = (a0.size : Int)
            · rw [if_pos c12] at H
              have c12b0 := beq_iff_eq.mpr c12
              have c12b1 := bne_eq_false_iff_eq.mpr c12
              clear c12
              have H' := Aside0.mk H
              clear H
              go_wp2
              repeat (go_quiet (fail); try go_wp2)
              go_meet
              case rel => exact ⟨_, (true), bd2_3, H', ⟨by have := HK1.out; have := HJ1.out; first | omega | exact Nat.le_refl _⟩, ⟨by repeat (first | (with_reducible first | exact HB.out | apply below_alloc | apply pw_below_drewN | apply below_drew1) | exact HB.out)⟩⟩
            rw [if_neg c12] at H
            have c12b0 := beq_eq_false_iff_ne.mpr c12
            have c12b1 := bne_iff_ne.mpr c12
            obtain ⟨c13, H⟩ := itS H
            have c13b0 := decide_eq_true c13
            have c13b1 : decide (0 < a0.size) = true := decide_eq_true (by omega)
            clear c13
            by_cases c15 : (bt a0 0) = 48
            rotate_left
            · rw [if_neg c15] at H
              have c15b0 := beq_eq_false_iff_ne.mpr c15
              have c15b1 := bne_iff_ne.mpr c15
              have H' := Aside0.mk H
              clear H
              have p14 : 0 ≤ (0 : Int) := (by omega)
              have q14 : 0 < a0.size := (by have : (0 : Int) < (a0.size : Int) := of_decide_eq_true bb2_2; omega)
              have hx14 : ∀ h : 0 < a0.size, ((a0[0]'h).toNat : Int) = bt a0 0 := bt_at a0 0
              clear p14
              have qi14 : (0 < (a0.size : Int)) = True := eq_true (of_decide_eq_true bb2_2)
              replace q14 := eq_true q14
              go_wp2
              repeat (go_quiet (fail); try go_wp2)
              go_meet
              case rel => exact ⟨_, (false), bd2_3, H', ⟨by have := HK1.out; have := HJ1.out; first | omega | exact Nat.le_refl _⟩, ⟨by repeat (first | (with_reducible first | exact HB.out | apply below_alloc | apply pw_below_drewN | apply below_drew1) | exact HB.out)⟩⟩
            rw [if_pos c15] at H
            have c15b0 := beq_iff_eq.mpr c15
            have c15b1 := bne_eq_false_iff_eq.mpr c15
            clear c15
            have H' := Aside0.mk H
            clear H
            have p14 : 0 ≤ (0 : Int) := (by omega)
            have q14 : 0 < a0.size := (by have : (0 : Int) < (a0.size : Int) := of_decide_eq_true bb2_2; omega)
            have hx14 : ∀ h : 0 < a0.size, ((a0[0]'h).toNat : Int) = bt a0 0 := bt_at a0 0
            clear p14
            have qi14 : (0 < (a0.size : Int)) = True := eq_true (of_decide_eq_true bb2_2)
            replace q14 := eq_true q14
            go_wp2
            repeat (go_quiet (fail); try go_wp2)
            go_meet
            case rel => exact ⟨_, (decide (x5_1 > 1)), bd2_3, H', ⟨by have := HK1.out; have := HJ1.out; first | omega | exact Nat.le_refl _⟩, ⟨by repeat (first | (with_reducible first | exact HB.out | apply below_alloc | apply pw_below_drewN | apply below_drew1) | exact HB.out)⟩⟩
          case rest =>
            clear HC9
            try clear c1
            try clear p1
            try clear q1
            try clear hx1
            try clear qi1
            try clear p2
            try clear c3
            try clear c3b0
            try clear c4
            try clear c4b0
            try clear p5
            try clear q5
            try clear hx5
            try clear c6
            try clear c6b0
            try clear p6
            try clear p7
            try clear q7
            try clear hx7
            try clear c8
            try clear c10
            try clear c10b0
            try clear c11
            try clear c11b0
            try clear c12
            try clear c12b0
            try clear c12b1
            try clear c13
            try clear c13b0
            try clear c13b1
            try clear p14
            try clear q14
            try clear hx14
            try clear qi14
            try clear c15
            try clear c15b0
            try clear c15b1
            try clear p14
            try clear p2
            try clear p5
            try clear p7
            try clear q14
            try clear q5
            try clear q7
            obtain ⟨kq, x44_8, rfl, HA, HJ8, HB⟩ := hcut
            cases kq with
            | zero => exact absurd HA.out (by simp [span_next.j2])
            | succ kj8 =>
              have H := HA.out
              clear HA
              simp only [span_next.j2] at H
              by_cases c16 : x44_8 = true
              · subst c16
                rw [if_pos rfl] at H
                simp only [Option.some.injEq, Prod.mk.injEq] at H
                obtain ⟨rfl, rfl, rfl⟩ := H
                go_wp2
                repeat (go_quiet (fail); try go_wp2)
                go_ret3
                exact ⟨by first | rfl | (simp [errW_none, errW_some] <;> rfl) | (simp [*, errW_none, errW_some] <;> rfl), by repeat (first | (with_reducible first | exact HB.out | apply below_alloc | apply pw_below_drewN | apply below_drew1) | exact HB.out)⟩
              replace c16 := Bool.eq_false_iff.mpr c16
              subst c16
              rw [if_neg nft] at H
              obtain ⟨c17b0, c17b1, H⟩ := itF H
              obtain ⟨c18b0, c18b1, H⟩ := itF H
              obtain ⟨⟨t101, t102⟩, A19, H⟩ := bdA H
              dsimp only at H
              obtain ⟨c20, H⟩ := itS H
              have c20b0 := decide_eq_true c20
              clear c20
              obtain ⟨ji22, hji22⟩ : ∃ j_ : Int, (wrap64 (x5_1 + 1)) = j_ := ⟨_, rfl⟩
              replace H : (if 0 ≤ (ji22) then (if (ji22) ≤ (a0.size : Int) then (some (t101, bt a0 x5_1, a0.extract ((ji22) : Int).toNat a0.size)) else (none)) else (none)) = some (r1, r2, r3) := by first | (rw [hji22] at H; exact H) | (simp only [hji22] at H ⊢; exact H)
              (try rw [hji22] at A19)
              have hji22w : (IntKind.i64.wrap (x5_1 + 1)) = ji22 := (i64_w _).trans hji22
              obtain ⟨c23b0, c23b1, H⟩ := itF H
              obtain ⟨c24b0, c24b1, H⟩ := itF H
              simp only [Option.some.injEq, Prod.mk.injEq] at H
              obtain ⟨rfl, rfl, rfl⟩ := H
              go_wp2_with (first | (go_at_call 64; (with_reducible refine (strconv_ParseUint.calls (a0.extract 0 (x5_1 : Int).toNat) 10 64 t101 t102 _ A19.out).mono ?_); rintro e w25 ⟨rfl, hb⟩; replace HB := Aside0.mk (bs2_0 hb); (try clear hb); (try clear hb2); (try clear hk); (try clear hi); (try simp only [errW_none, errW_some]); have p21 : 0 ≤ (x5_1 : Int) := of_decide_eq_true bb2_2; have q21 : x5_1 < (a0.size : Int) := of_decide_eq_true bb2_2; have hx21 := bt_at a0 x5_1; replace p21 := eq_true p21; replace q21 := eq_true q21))
              repeat (go_quiet (first | (go_at_call 64; (with_reducible refine (strconv_ParseUint.calls (a0.extract 0 (x5_1 : Int).toNat) 10 64 t101 t102 _ A19.out).mono ?_); rintro e w25 ⟨rfl, hb⟩; replace HB := Aside0.mk (bs2_0 hb); (try clear hb); (try clear hb2); (try clear hk); (try clear hi); (try simp only [errW_none, errW_some]); have p21 : 0 ≤ (x5_1 : Int) := of_decide_eq_true bb2_2; have q21 : x5_1 < (a0.size : Int) := of_decide_eq_true bb2_2; have hx21 := bt_at a0 x5_1; replace p21 := eq_true p21; replace q21 := eq_true q21)); try go_wp2_with (first | (go_at_call 64; (with_reducible refine (strconv_ParseUint.calls (a0.extract 0 (x5_1 : Int).toNat) 10 64 t101 t102 _ A19.out).mono ?_); rintro e w25 ⟨rfl, hb⟩; replace HB := Aside0.mk (bs2_0 hb); (try clear hb); (try clear hb2); (try clear hk); (try clear hi); (try simp only [errW_none, errW_some]); have p21 : 0 ≤ (x5_1 : Int) := of_decide_eq_true bb2_2; have q21 : x5_1 < (a0.size : Int) := of_decide_eq_true bb2_2; have hx21 := bt_at a0 x5_1; replace p21 := eq_true p21; replace q21 := eq_true q21)))
              go_ret3
              exact ⟨by first | rfl | (simp [errW_none, errW_some] <;> rfl) | (simp only [← hji22]; first | rfl | (simp [errW_none, errW_some] <;> rfl)) | (simp [*, errW_none, errW_some] <;> rfl), by repeat (first | (with_reducible first | exact HB.out | apply below_alloc | apply pw_below_drewN | apply below_drew1) | exact HB.out)⟩

-- BY HAND: function 73 (bits_Mul64)
/-! ### tick_Times: function 65 -/
def tick_Times.f (a0 : Int) (a1 : Int) : Option (Int × Bool) := (bits_Mul64.f a0 a1).bind fun bt103 => (if bt103.1 = 0 then (some (bt103.2, true)) else (some (0, false)))
set_option maxHeartbeats 8000000 in
set_option maxRecDepth 100000 in
theorem tick_Times.calls (a0 : Int) (a1 : Int) (r1 : Int) (r2 : Bool) (w : World) (h : tick_Times.f a0 a1 = some (r1, r2)) :
    Calls Tryz.prog 65 #[.int .u64 a0, .int .u64 a1] w fun e w' => e = .returned (.tuple #[.int .u64 r1, .bool r2]) ∧ Drawn0 w w' := by
  unfold tick_Times.f at h
  have H := h
  clear h
  obtain ⟨⟨t103, t104⟩, A3, H⟩ := bdA H
  dsimp only at H
  by_cases c4 : t103 = 0
  rotate_left
  · rw [if_neg c4] at H
    have c4b0 := beq_eq_false_iff_ne.mpr c4
    have c4b1 := bne_iff_ne.mpr c4
    simp only [Option.some.injEq, Prod.mk.injEq] at H
    obtain ⟨rfl, rfl⟩ := H
    go_enter Tryz.func65, Tryz.ntmps65
    go_wp2_with (first | ((with_reducible refine gate_callee (f := 73) rfl ?_); refine goesL_ (some 11) rfl rfl Tryz.func73 (by kernel_rfl) rfl #[.int .u64 a0, .int .u64 a1] rfl ba2_1 ?_; (with_reducible refine (bits_Mul64.calls a0 a1 t103 t104 _ A3.out).mono ?_); rintro e w' ⟨rfl, ⟨nd, rfl⟩⟩; refine ⟨_, rfl, ?_⟩))
    go_ret2
    exact ⟨by first | rfl | (simp; done) | (simp [*]; done), by repeat (first | exact Drawn0.refl _ | apply Drawn0.step)⟩
  rw [if_pos c4] at H
  have c4b0 := beq_iff_eq.mpr c4
  have c4b1 := bne_eq_false_iff_eq.mpr c4
  clear c4
  simp only [Option.some.injEq, Prod.mk.injEq] at H
  obtain ⟨rfl, rfl⟩ := H
  go_enter Tryz.func65, Tryz.ntmps65
  go_wp2_with (first | ((with_reducible refine gate_callee (f := 73) rfl ?_); refine goesL_ (some 11) rfl rfl Tryz.func73 (by kernel_rfl) rfl #[.int .u64 a0, .int .u64 a1] rfl ba2_1 ?_; (with_reducible refine (bits_Mul64.calls a0 a1 t103 t104 _ A3.out).mono ?_); rintro e w' ⟨rfl, ⟨nd, rfl⟩⟩; refine ⟨_, rfl, ?_⟩))
  go_ret2
  exact ⟨by first | rfl | (simp; done) | (simp [*]; done), by repeat (first | exact Drawn0.refl _ | apply Drawn0.step)⟩

-- BY HAND: function 74 (tick_Sum)
/-! ### tick_Held: function 66 -/
def tick_Held.f (a0 : Int) (a1 : Int) : Option (Int) := (tick_Sum.f a0 a1).bind fun bt105 => (if bt105.2 = true then (some bt105.1) else (some 18446744073709551615))
set_option maxHeartbeats 8000000 in
set_option maxRecDepth 100000 in
theorem tick_Held.calls (a0 : Int) (a1 : Int) (r : Int) (w : World) (h : tick_Held.f a0 a1 = some r) :
    Calls Tryz.prog 66 #[.int .u64 a0, .int .u64 a1] w fun e w' => e = .returned (.int .u64 r) ∧ Drawn0 w w' := by
  unfold tick_Held.f at h
  have H := h
  clear h
  obtain ⟨⟨t105, t106⟩, A3, H⟩ := bdA H
  dsimp only at H
  by_cases c4 : t106 = true
  · subst c4
    rw [if_pos rfl] at H
    obtain rfl := Option.some.inj H
    go_enter Tryz.func66, Tryz.ntmps66
    go_wp2_with (first | ((with_reducible refine gate_callee (f := 74) rfl ?_); refine goesL_ (some 10) rfl rfl Tryz.func74 (by kernel_rfl) rfl #[.int .u64 a0, .int .u64 a1] rfl ba2_1 ?_; (with_reducible refine (tick_Sum.calls a0 a1 t105 true _ A3.out).mono ?_); rintro e w' ⟨rfl, ⟨nd, rfl⟩⟩; refine ⟨_, rfl, ?_⟩))
    go_ret
    exact ⟨by first | rfl | (simp; done) | (simp [*]; done), by repeat (first | exact Drawn0.refl _ | apply Drawn0.step)⟩
  replace c4 := Bool.eq_false_iff.mpr c4
  subst c4
  rw [if_neg nft] at H
  obtain rfl := Option.some.inj H
  go_enter Tryz.func66, Tryz.ntmps66
  go_wp2_with (first | ((with_reducible refine gate_callee (f := 74) rfl ?_); refine goesL_ (some 10) rfl rfl Tryz.func74 (by kernel_rfl) rfl #[.int .u64 a0, .int .u64 a1] rfl ba2_1 ?_; (with_reducible refine (tick_Sum.calls a0 a1 t105 false _ A3.out).mono ?_); rintro e w' ⟨rfl, ⟨nd, rfl⟩⟩; refine ⟨_, rfl, ?_⟩))
  go_ret
  exact ⟨by first | rfl | (simp; done) | (simp [*]; done), by repeat (first | exact Drawn0.refl _ | apply Drawn0.step)⟩

/-! ### span_more: function 50 -/
def span_more.f (a0 : Int) (a1 : Int) (a2 : Int) : Option (Int) := (tick_Times.f a1 a2).bind fun bt107 => (if bt107.2 = true then ((tick_Held.f a0 bt107.1).bind fun t109 => (some t109)) else ((tick_Held.f 1125899906842624 1).bind fun t110 => ((tick_Held.f a0 t110).bind fun t111 => (some t111))))
set_option maxHeartbeats 8000000 in
set_option maxRecDepth 100000 in
theorem span_more.calls (a0 : Int) (a1 : Int) (a2 : Int) (r : Int) (w : World) (h : span_more.f a0 a1 a2 = some r) :
    Calls Tryz.prog 50 #[.int .u64 a0, .int .u64 a1, .int .u64 a2] w fun e w' => e = .returned (.int .u64 r) ∧ Drawn0 w w' := by
  unfold span_more.f at h
  have H := h
  clear h
  obtain ⟨⟨t107, t108⟩, A4, H⟩ := bdA H
  dsimp only at H
  by_cases c5 : t108 = true
  · subst c5
    rw [if_pos rfl] at H
    obtain ⟨t109, A6, H⟩ := bdA H
    obtain rfl := Option.some.inj H
    go_enter Tryz.func50, Tryz.ntmps50
    go_wp2_with (first | ((with_reducible refine gate_callee (f := 65) rfl ?_); refine goesL_ (some 12) rfl rfl Tryz.func65 (by kernel_rfl) rfl #[.int .u64 a1, .int .u64 a2] rfl ba2_1 ?_; (with_reducible refine (tick_Times.calls a1 a2 t107 true _ A4.out).mono ?_); rintro e w' ⟨rfl, ⟨nd, rfl⟩⟩; refine ⟨_, rfl, ?_⟩) | ((with_reducible refine gate_callee (f := 66) rfl ?_); refine goesL_ (some 20) rfl rfl Tryz.func66 (by kernel_rfl) rfl #[.int .u64 a0, .int .u64 t107] rfl ba2_1 ?_; (with_reducible refine (tick_Held.calls a0 t107 t109 _ A6.out).mono ?_); rintro e w' ⟨rfl, ⟨nd, rfl⟩⟩; refine ⟨_, rfl, ?_⟩))
    go_ret
    exact ⟨by first | rfl | (simp; done) | (simp [*]; done), by repeat (first | exact Drawn0.refl _ | apply Drawn0.step)⟩
  replace c5 := Bool.eq_false_iff.mpr c5
  subst c5
  rw [if_neg nft] at H
  obtain ⟨t110, A7, H⟩ := bdA H
  obtain ⟨t111, A8, H⟩ := bdA H
  obtain rfl := Option.some.inj H
  go_enter Tryz.func50, Tryz.ntmps50
  go_wp2_with (first | ((with_reducible refine gate_callee (f := 65) rfl ?_); refine goesL_ (some 12) rfl rfl Tryz.func65 (by kernel_rfl) rfl #[.int .u64 a1, .int .u64 a2] rfl ba2_1 ?_; (with_reducible refine (tick_Times.calls a1 a2 t107 false _ A4.out).mono ?_); rintro e w' ⟨rfl, ⟨nd, rfl⟩⟩; refine ⟨_, rfl, ?_⟩) | ((with_reducible refine gate_callee (f := 66) rfl ?_); refine goesL_ (some 17) rfl rfl Tryz.func66 (by kernel_rfl) rfl #[.int .u64 1125899906842624, .int .u64 1] rfl ba2_1 ?_; (with_reducible refine (tick_Held.calls 1125899906842624 1 t110 _ A7.out).mono ?_); rintro e w' ⟨rfl, ⟨nd, rfl⟩⟩; refine ⟨_, rfl, ?_⟩) | ((with_reducible refine gate_callee (f := 66) rfl ?_); refine goesL_ (some 20) rfl rfl Tryz.func66 (by kernel_rfl) rfl #[.int .u64 a0, .int .u64 t110] rfl ba2_1 ?_; (with_reducible refine (tick_Held.calls a0 t110 t111 _ A8.out).mono ?_); rintro e w' ⟨rfl, ⟨nd, rfl⟩⟩; refine ⟨_, rfl, ?_⟩))
  go_ret
  exact ⟨by first | rfl | (simp; done) | (simp [*]; done), by repeat (first | exact Drawn0.refl _ | apply Drawn0.step)⟩

/-! ### stringslite_HasPrefix: function 63 -/
def stringslite_HasPrefix.f (a0 : ByteArray) (a1 : ByteArray) : Option (Bool) := if (a0.size : Int) ≥ (a1.size : Int) then (if 0 ≤ (a1.size : Int) then (if (a1.size : Int) ≤ (a0.size : Int) then (some ((a0.extract 0 ((a1.size : Int) : Int).toNat).toList == a1.toList)) else (none)) else (none)) else (some false)
set_option maxHeartbeats 8000000 in
set_option maxRecDepth 100000 in
theorem stringslite_HasPrefix.calls (a0 : ByteArray) (a1 : ByteArray) (r : Bool) (w : World) (h : stringslite_HasPrefix.f a0 a1 = some r) :
    Calls Tryz.prog 63 #[.string a0, .string a1] w fun e w' => e = .returned (.bool r) ∧ Drawn0 w w' := by
  unfold stringslite_HasPrefix.f at h
  have H := h
  clear h
  by_cases c3 : (a0.size : Int) ≥ (a1.size : Int)
  rotate_left
  · rw [if_neg c3] at H
    have c3b0 : decide ((a1.size : Int) ≤ (a0.size : Int)) = false := decide_eq_false c3
    have c3b1 : decide (a1.size ≤ a0.size) = false := decide_eq_false (fun h => c3 (Int.ofNat_le.mpr h))
    clear c3
    obtain rfl := Option.some.inj H
    go_enter Tryz.func63, Tryz.ntmps63
    go_wp2
    go_ret
    exact ⟨by first | rfl | (simp; done) | (simp [*]; done), by repeat (first | exact Drawn0.refl _ | apply Drawn0.step)⟩
  rw [if_pos c3] at H
  have c3b0 : decide ((a1.size : Int) ≤ (a0.size : Int)) = true := decide_eq_true c3
  have c3b1 : decide (a1.size ≤ a0.size) = true := decide_eq_true (Int.ofNat_le.mp c3)
  clear c3
  obtain ⟨c4b0, c4b1, H⟩ := itF H
  obtain ⟨c5b0, c5b1, H⟩ := itF H
  obtain rfl := Option.some.inj H
  go_enter Tryz.func63, Tryz.ntmps63
  go_wp2
  go_ret
  exact ⟨by first | rfl | (simp; done) | (simp [*]; done), by repeat (first | exact Drawn0.refl _ | apply Drawn0.step)⟩

/-! ### strings_HasPrefix: function 48 -/
def strings_HasPrefix.f (a0 : ByteArray) (a1 : ByteArray) : Option (Bool) := (stringslite_HasPrefix.f a0 a1).bind fun t112 => (some t112)
set_option maxHeartbeats 8000000 in
set_option maxRecDepth 100000 in
theorem strings_HasPrefix.calls (a0 : ByteArray) (a1 : ByteArray) (r : Bool) (w : World) (h : strings_HasPrefix.f a0 a1 = some r) :
    Calls Tryz.prog 48 #[.string a0, .string a1] w fun e w' => e = .returned (.bool r) ∧ Drawn0 w w' := by
  unfold strings_HasPrefix.f at h
  have H := h
  clear h
  obtain ⟨t112, A3, H⟩ := bdA H
  obtain rfl := Option.some.inj H
  go_enter Tryz.func48, Tryz.ntmps48
  go_wp2_with (first | ((with_reducible refine gate_callee (f := 63) rfl ?_); refine goesL_ (some 7) rfl rfl Tryz.func63 (by kernel_rfl) rfl #[.string a0, .string a1] rfl ba2_1 ?_; (with_reducible refine (stringslite_HasPrefix.calls a0 a1 t112 _ A3.out).mono ?_); rintro e w' ⟨rfl, ⟨nd, rfl⟩⟩; refine ⟨_, rfl, ?_⟩))
  go_ret
  exact ⟨by first | rfl | (simp; done) | (simp [*]; done), by repeat (first | exact Drawn0.refl _ | apply Drawn0.step)⟩

/-! ### stringslite_CutPrefix: function 62 -/
def stringslite_CutPrefix.f (a0 : ByteArray) (a1 : ByteArray) : Option (ByteArray × Bool) := (stringslite_HasPrefix.f a0 a1).bind fun t113 => (if t113 = true then (if 0 ≤ (a1.size : Int) then (if (a1.size : Int) ≤ (a0.size : Int) then (some (a0.extract ((a1.size : Int) : Int).toNat a0.size, true)) else (none)) else (none)) else (some (a0, false)))
set_option maxHeartbeats 8000000 in
set_option maxRecDepth 100000 in
theorem stringslite_CutPrefix.calls (a0 : ByteArray) (a1 : ByteArray) (r1 : ByteArray) (r2 : Bool) (w : World) (h : stringslite_CutPrefix.f a0 a1 = some (r1, r2)) :
    Calls Tryz.prog 62 #[.string a0, .string a1] w fun e w' => e = .returned (.tuple #[.string r1, .bool r2]) ∧ Drawn0 w w' := by
  unfold stringslite_CutPrefix.f at h
  have H := h
  clear h
  obtain ⟨t113, A3, H⟩ := bdA H
  by_cases c4 : t113 = true
  rotate_left
  · replace c4 := Bool.eq_false_iff.mpr c4
    subst c4
    rw [if_neg nft] at H
    simp only [Option.some.injEq, Prod.mk.injEq] at H
    obtain ⟨rfl, rfl⟩ := H
    go_enter Tryz.func62, Tryz.ntmps62
    go_wp2_with (first | ((with_reducible refine gate_callee (f := 63) rfl ?_); refine goesL_ (some 8) rfl rfl Tryz.func63 (by kernel_rfl) rfl #[.string a0, .string a1] rfl ba2_1 ?_; (with_reducible refine (stringslite_HasPrefix.calls a0 a1 false _ A3.out).mono ?_); rintro e w' ⟨rfl, ⟨nd, rfl⟩⟩; refine ⟨_, rfl, ?_⟩))
    go_ret2
    exact ⟨by first | rfl | (simp; done) | (simp [*]; done), by repeat (first | exact Drawn0.refl _ | apply Drawn0.step)⟩
  subst c4
  rw [if_pos rfl] at H
  obtain ⟨c5b0, c5b1, H⟩ := itF H
  obtain ⟨c6b0, c6b1, H⟩ := itF H
  simp only [Option.some.injEq, Prod.mk.injEq] at H
  obtain ⟨rfl, rfl⟩ := H
  go_enter Tryz.func62, Tryz.ntmps62
  go_wp2_with (first | ((with_reducible refine gate_callee (f := 63) rfl ?_); refine goesL_ (some 8) rfl rfl Tryz.func63 (by kernel_rfl) rfl #[.string a0, .string a1] rfl ba2_1 ?_; (with_reducible refine (stringslite_HasPrefix.calls a0 a1 true _ A3.out).mono ?_); rintro e w' ⟨rfl, ⟨nd, rfl⟩⟩; refine ⟨_, rfl, ?_⟩))
  go_ret2
  exact ⟨by first | rfl | (simp; done) | (simp [*]; done), by repeat (first | exact Drawn0.refl _ | apply Drawn0.step)⟩

/-! ### strings_CutPrefix: function 47 -/
def strings_CutPrefix.f (a0 : ByteArray) (a1 : ByteArray) : Option (ByteArray × Bool) := (stringslite_CutPrefix.f a0 a1).bind fun bt114 => (some (bt114.1, bt114.2))
set_option maxHeartbeats 8000000 in
set_option maxRecDepth 100000 in
theorem strings_CutPrefix.calls (a0 : ByteArray) (a1 : ByteArray) (r1 : ByteArray) (r2 : Bool) (w : World) (h : strings_CutPrefix.f a0 a1 = some (r1, r2)) :
    Calls Tryz.prog 47 #[.string a0, .string a1] w fun e w' => e = .returned (.tuple #[.string r1, .bool r2]) ∧ Drawn0 w w' := by
  unfold strings_CutPrefix.f at h
  have H := h
  clear h
  obtain ⟨⟨t114, t115⟩, A3, H⟩ := bdA H
  dsimp only at H
  simp only [Option.some.injEq, Prod.mk.injEq] at H
  obtain ⟨rfl, rfl⟩ := H
  go_enter Tryz.func47, Tryz.ntmps47
  go_wp2_with (first | ((with_reducible refine gate_callee (f := 62) rfl ?_); refine goesL_ (some 8) rfl rfl Tryz.func62 (by kernel_rfl) rfl #[.string a0, .string a1] rfl ba2_1 ?_; (with_reducible refine (stringslite_CutPrefix.calls a0 a1 t114 t115 _ A3.out).mono ?_); rintro e w' ⟨rfl, ⟨nd, rfl⟩⟩; refine ⟨_, rfl, ?_⟩))
  go_ret2
  exact ⟨by first | rfl | (simp; done) | (simp [*]; done), by repeat (first | exact Drawn0.refl _ | apply Drawn0.step)⟩

-- BY HAND: function 67 (stringslite_IndexByte)
/-! ### strings_IndexByte: function 51 -/
def strings_IndexByte.f (a0 : ByteArray) (a1 : Int) : Option (Int) := (stringslite_IndexByte.f a0 a1).bind fun t116 => (some t116)
set_option maxHeartbeats 8000000 in
set_option maxRecDepth 100000 in
theorem strings_IndexByte.calls (a0 : ByteArray) (a1 : Int) (r : Int) (w : World) (h : strings_IndexByte.f a0 a1 = some r) :
    Calls Tryz.prog 51 #[.string a0, .int .u8 a1] w fun e w' => e = .returned (.int .i64 r) ∧ Drawn0 w w' := by
  unfold strings_IndexByte.f at h
  have H := h
  clear h
  obtain ⟨t116, A3, H⟩ := bdA H
  obtain rfl := Option.some.inj H
  go_enter Tryz.func51, Tryz.ntmps51
  go_wp2_with (first | ((with_reducible refine gate_callee (f := 67) rfl ?_); refine goesL_ (some 7) rfl rfl Tryz.func67 (by kernel_rfl) rfl #[.string a0, .int .u8 a1] rfl ba2_1 ?_; (with_reducible refine (stringslite_IndexByte.calls a0 a1 t116 _ A3.out).mono ?_); rintro e w' ⟨rfl, ⟨nd, rfl⟩⟩; refine ⟨_, rfl, ?_⟩))
  go_ret
  exact ⟨by first | rfl | (simp; done) | (simp [*]; done), by repeat (first | exact Drawn0.refl _ | apply Drawn0.step)⟩

end Go.Proofs.YtflnkchpfbcgiaaGreatDoor.Q
