-- Written by this session's program xprint.py (which runs the kit's print with some functions given by hand). Lean checks it.
import Derived.Test.YtflnkchpfbcgiaaGreatDoorQx0
import Derived.Test.YtflnkchpfbcgiaaGreatDoorQx12
namespace Go.Proofs.YtflnkchpfbcgiaaGreatDoor.Q
open Go.RowKit Go.Proofs.YtflnkchpfbcgiaaGreatDoorW.PrintWords Go.Proofs.YtflnkchpfbcgiaaGreatDoorW.PrintLast Go.Proofs.YtflnkchpfbcgiaaGreatDoorW.PrintMore
attribute [local go_sem] max2_int min2_int max_two min_two max_three min_three max_four min_four   -- for this text's walks alone
set_option linter.unusedVariables false
set_option linter.unusedSimpArgs false
theorem bs13_0 {w W w2 : World} (k : Below W.heap.size W w2) (h : Below w.heap.size w W := by repeat (first | (with_reducible first | exact HB.out | apply below_alloc | apply pw_below_drewN | apply below_drew1) | exact HB.out)) : Below w.heap.size w w2 := below_step h k
theorem bz13_1 {w W : World} (h : Below w.heap.size w W := by repeat (first | (with_reducible first | exact HB.out | apply below_alloc | apply pw_below_drewN | apply below_drew1) | exact HB.out)) : w.heap.size ≤ W.heap.size := below_size h
theorem br13_2 {α : Type} {d : Kd α} {e : Nat} {w : World} {base : Nat} {ok : Nat → Prop} {v : Value} {xs : List α} (h : d.R e w base ok v xs := by (with_reducible repeat (first | apply Kd.R_alloc | apply Kd.R_drewN | apply Kd.R_drew)); exact HO307.out) : d.R e w base ok v xs := h
theorem br13_3 {α : Type} {d : Kd α} {e : Nat} {w : World} {base : Nat} {ok : Nat → Prop} {v : Value} {xs : List α} (h : d.R e w base ok v xs := by (with_reducible repeat (first | apply Kd.R_alloc | apply Kd.R_drewN | apply Kd.R_drew)); exact HO325.out) : d.R e w base ok v xs := h
theorem bb13_4 {p : Prop} (h : p := by first | (with_reducible assumption) | assumption) : p := h
theorem bd13_5 {p : Prop} (h : p := by first | rfl | (simp; done) | (simp [*]; done)) : p := h
theorem bh13_6 {w W : World} (h : Below w.heap.size w W := by repeat (first | (with_reducible first | exact HB.out | apply below_alloc | apply pw_below_drewN | apply below_drew1) | exact HB.out)) : Below w.heap.size w W := h


/-! ### remontoirref27_Jobs: function 11 -/
mutual
def remontoirref27_Jobs.l0 : Nat → List (S48) → List Int → Int → Option (List Int)
  | 0, _, _, _ => none
  | k + 1, x0, x3, x4 => if x4 < (x0.length : Int) then (if 0 ≤ x4 then (if ((rd_T48 x0 x4).f0) = 1 then ((remontoirref27_taken.f k x0 x4).bind fun t288 => (remontoirref27_Jobs.j1 k x0 x3 x4 t288)) else (remontoirref27_Jobs.j1 k x0 x3 x4 true)) else (none)) else (some x3)
def remontoirref27_Jobs.j1 : Nat → List (S48) → List Int → Int → Bool → Option (List Int)
  | 0, _, _, _, _ => none
  | k + 1, x0, x3, x4, x22 => if x22 = true then (remontoirref27_Jobs.l0 k x0 x3 (wrap64 (x4 + 1))) else (remontoirref27_Jobs.l1 k x0 x3 x4 0)
def remontoirref27_Jobs.j3 : Nat → List (S48) → List Int → Int → Int → Option (List Int)
  | 0, _, _, _, _ => none
  | k + 1, x0, x3, x4, x5 => if x5 = (x3.length : Int) then (if 0 ≤ x5 then (if x5 ≤ (x3.length : Int) then ((some (x3.take (x5 : Int).toNat : List Int)).bind fun y293 => (if 0 ≤ x4 then (if x4 < (x0.length : Int) then ((some (([(rd_T48 x0 x4).f1] : List Int) : List Int)).bind fun y298 => ((some (x3.drop (x5 : Int).toNat : List Int)).bind fun y301 => (if y298.length + y301.length < 17592186044416 then ((some (y298 ++ y301 : List Int)).bind fun y305 => (if 0 < (y305.length : Int) then (if y293.length + y305.length < 17592186044416 then (remontoirref27_Jobs.l0 k x0 (y293 ++ y305) (wrap64 (x4 + 1))) else (none)) else (none))) else (none)))) else (none)) else (none))) else (none)) else (none)) else (if 0 ≤ x5 then (if x5 < (x3.length : Int) then (if 0 ≤ x4 then (if x4 < (x0.length : Int) then (if (rd x3 x5) = ((rd_T48 x0 x4).f1) then (remontoirref27_Jobs.l0 k x0 x3 (wrap64 (x4 + 1))) else (if x5 ≤ (x3.length : Int) then ((some (x3.take (x5 : Int).toNat : List Int)).bind fun y311 => ((some (([(rd_T48 x0 x4).f1] : List Int) : List Int)).bind fun y316 => ((some (x3.drop (x5 : Int).toNat : List Int)).bind fun y319 => (if y316.length + y319.length < 17592186044416 then ((some (y316 ++ y319 : List Int)).bind fun y323 => (if 0 < (y323.length : Int) then (if y311.length + y323.length < 17592186044416 then (remontoirref27_Jobs.l0 k x0 (y311 ++ y323) (wrap64 (x4 + 1))) else (none)) else (none))) else (none))))) else (none))) else (none)) else (none)) else (none)) else (none))
def remontoirref27_Jobs.l1 : Nat → List (S48) → List Int → Int → Int → Option (List Int)
  | 0, _, _, _, _ => none
  | k + 1, x0, x3, x4, x5 => if x5 < (x3.length : Int) then (if 0 ≤ x5 then (if 0 ≤ x4 then (if x4 < (x0.length : Int) then (if (rd x3 x5) < ((rd_T48 x0 x4).f1) then (remontoirref27_Jobs.l1 k x0 x3 x4 (wrap64 (x5 + 1))) else (remontoirref27_Jobs.j3 k x0 x3 x4 x5)) else (none)) else (none)) else (none)) else (remontoirref27_Jobs.j3 k x0 x3 x4 x5)
end
def remontoirref27_Jobs.f (k : Nat) (l0 : List (S48)) : Option (List Int) := remontoirref27_Jobs.l0 k l0 ([] : List Int) 0
theorem remontoirref27_Jobs.mono_l : ∀ k, (∀ y0 y1 y2, LeO (remontoirref27_Jobs.l0 k y0 y1 y2) (remontoirref27_Jobs.l0 (k + 1) y0 y1 y2)) ∧ (∀ y0 y1 y2 y3, LeO (remontoirref27_Jobs.j1 k y0 y1 y2 y3) (remontoirref27_Jobs.j1 (k + 1) y0 y1 y2 y3)) ∧ (∀ y0 y1 y2 y3, LeO (remontoirref27_Jobs.j3 k y0 y1 y2 y3) (remontoirref27_Jobs.j3 (k + 1) y0 y1 y2 y3)) ∧ (∀ y0 y1 y2 y3, LeO (remontoirref27_Jobs.l1 k y0 y1 y2 y3) (remontoirref27_Jobs.l1 (k + 1) y0 y1 y2 y3))
  | 0 => ⟨fun _ _ _ r h => by simp [remontoirref27_Jobs.l0] at h, fun _ _ _ _ r h => by simp [remontoirref27_Jobs.j1] at h, fun _ _ _ _ r h => by simp [remontoirref27_Jobs.j3] at h, fun _ _ _ _ r h => by simp [remontoirref27_Jobs.l1] at h⟩
  | k + 1 => by
    obtain ⟨ih0, ih1, ih2, ih3⟩ := remontoirref27_Jobs.mono_l k
    refine ⟨?_, ?_, ?_, ?_⟩
    · intro y0 y1 y2
      unfold remontoirref27_Jobs.l0
      repeat' first
      | (with_reducible exact ih0 _ _ _)
      | (with_reducible exact ih1 _ _ _ _)
      | (with_reducible exact ih2 _ _ _ _)
      | (with_reducible exact ih3 _ _ _ _)
      | (with_reducible exact remontoirref27_taken.mono _ _ _)
      | (with_reducible exact LeO.refl _)
      | (with_reducible exact LeO.none _)
      | (with_reducible refine LeO.ite ?_ ?_)
      | (with_reducible refine LeO.bind ?_ (fun _ => ?_))
      | exact ih0 _ _ _
      | exact ih1 _ _ _ _
      | exact ih2 _ _ _ _
      | exact ih3 _ _ _ _
      | exact remontoirref27_taken.mono _ _ _
      | exact LeO.none _
      | refine LeO.ite ?_ ?_
      | refine LeO.bind ?_ (fun _ => ?_)
    · intro y0 y1 y2 y3
      unfold remontoirref27_Jobs.j1
      repeat' first
      | (with_reducible exact ih0 _ _ _)
      | (with_reducible exact ih1 _ _ _ _)
      | (with_reducible exact ih2 _ _ _ _)
      | (with_reducible exact ih3 _ _ _ _)
      | (with_reducible exact remontoirref27_taken.mono _ _ _)
      | (with_reducible exact LeO.refl _)
      | (with_reducible exact LeO.none _)
      | (with_reducible refine LeO.ite ?_ ?_)
      | (with_reducible refine LeO.bind ?_ (fun _ => ?_))
      | exact ih0 _ _ _
      | exact ih1 _ _ _ _
      | exact ih2 _ _ _ _
      | exact ih3 _ _ _ _
      | exact remontoirref27_taken.mono _ _ _
      | exact LeO.none _
      | refine LeO.ite ?_ ?_
      | refine LeO.bind ?_ (fun _ => ?_)
    · intro y0 y1 y2 y3
      unfold remontoirref27_Jobs.j3
      repeat' first
      | (with_reducible exact ih0 _ _ _)
      | (with_reducible exact ih1 _ _ _ _)
      | (with_reducible exact ih2 _ _ _ _)
      | (with_reducible exact ih3 _ _ _ _)
      | (with_reducible exact remontoirref27_taken.mono _ _ _)
      | (with_reducible exact LeO.refl _)
      | (with_reducible exact LeO.none _)
      | (with_reducible refine LeO.ite ?_ ?_)
      | (with_reducible refine LeO.bind ?_ (fun _ => ?_))
      | exact ih0 _ _ _
      | exact ih1 _ _ _ _
      | exact ih2 _ _ _ _
      | exact ih3 _ _ _ _
      | exact remontoirref27_taken.mono _ _ _
      | exact LeO.none _
      | refine LeO.ite ?_ ?_
      | refine LeO.bind ?_ (fun _ => ?_)
    · intro y0 y1 y2 y3
      unfold remontoirref27_Jobs.l1
      repeat' first
      | (with_reducible exact ih0 _ _ _)
      | (with_reducible exact ih1 _ _ _ _)
      | (with_reducible exact ih2 _ _ _ _)
      | (with_reducible exact ih3 _ _ _ _)
      | (with_reducible exact remontoirref27_taken.mono _ _ _)
      | (with_reducible exact LeO.refl _)
      | (with_reducible exact LeO.none _)
      | (with_reducible refine LeO.ite ?_ ?_)
      | (with_reducible refine LeO.bind ?_ (fun _ => ?_))
      | exact ih0 _ _ _
      | exact ih1 _ _ _ _
      | exact ih2 _ _ _ _
      | exact ih3 _ _ _ _
      | exact remontoirref27_taken.mono _ _ _
      | exact LeO.none _
      | refine LeO.ite ?_ ?_
      | refine LeO.bind ?_ (fun _ => ?_)
theorem remontoirref27_Jobs.mono : ∀ a0 k, LeO (remontoirref27_Jobs.f k a0) (remontoirref27_Jobs.f (k + 1) a0) := by
  intro a0 k
  obtain ⟨ih0, ih1, ih2, ih3⟩ := remontoirref27_Jobs.mono_l k
  unfold remontoirref27_Jobs.f
  repeat' first
      | (with_reducible exact ih0 _ _ _)
      | (with_reducible exact ih1 _ _ _ _)
      | (with_reducible exact ih2 _ _ _ _)
      | (with_reducible exact ih3 _ _ _ _)
      | (with_reducible exact remontoirref27_taken.mono _ _ _)
      | (with_reducible exact LeO.refl _)
      | (with_reducible exact LeO.none _)
      | (with_reducible refine LeO.ite ?_ ?_)
      | (with_reducible refine LeO.bind ?_ (fun _ => ?_))
      | exact ih0 _ _ _
      | exact ih1 _ _ _ _
      | exact ih2 _ _ _ _
      | exact ih3 _ _ _ _
      | exact remontoirref27_taken.mono _ _ _
      | exact LeO.none _
      | refine LeO.ite ?_ ?_
      | refine LeO.bind ?_ (fun _ => ?_)
def remontoirref27_Jobs.T7 : Bool × List (List Nat × List Nat) := (true, [([], []), ([], []), ([1], [1]), ([0, 2], [0, 2]), ([3], [3]), ([4], [4]), ([4], [4]), ([5, 6, 4], [4, 5, 6]), ([7, 4], [4, 7]), ([4], [4]), ([4], [4]), ([9, 10, 4], [4, 9, 10]), ([11, 4], [4, 11]), ([12, 4], [4, 12]), ([8, 13, 4], [4, 8, 13]), ([4, 14], [4, 14])])
def remontoirref27_Jobs.B7 : List Nat := [0, 0, 2, 7, 15, 31, 31, 127, 255, 31, 31, 1567, 3615, 7711, 16383, 32767]
theorem remontoirref27_Jobs.tab7 : rtab .any (opsOf Tryz.f11 7) = remontoirref27_Jobs.T7 := by kernel_rfl
theorem remontoirref27_Jobs.bits7 : waitsOk remontoirref27_Jobs.T7.2 remontoirref27_Jobs.B7 = true := by kernel_rfl
def remontoirref27_Jobs.T9 : Bool × List (List Nat × List Nat) := (true, [([], []), ([], []), ([1], [1]), ([0, 2], [0, 2]), ([3], [3]), ([4], [4]), ([4], [4]), ([5, 6, 4], [4, 5, 6]), ([7, 4], [4, 7]), ([4], [4]), ([4], [4]), ([9, 10, 4], [4, 9, 10]), ([11, 4], [4, 11]), ([12, 4], [4, 12]), ([8, 13, 4], [4, 8, 13]), ([4, 14], [4, 14])])
def remontoirref27_Jobs.B9 : List Nat := [0, 0, 2, 7, 15, 31, 31, 127, 255, 31, 31, 1567, 3615, 7711, 16383, 32767]
theorem remontoirref27_Jobs.tab9 : rtab .any (opsOf Tryz.f11 9) = remontoirref27_Jobs.T9 := by kernel_rfl
theorem remontoirref27_Jobs.bits9 : waitsOk remontoirref27_Jobs.T9.2 remontoirref27_Jobs.B9 = true := by kernel_rfl
def remontoirref27_Jobs.T10 : Bool × List (List Nat × List Nat) := (true, [([], []), ([], []), ([], []), ([0, 1, 2], [0, 1, 2]), ([], []), ([], []), ([4, 5], [4, 5]), ([6], [6]), ([7], [7]), ([8], [8]), ([], []), ([], []), ([10, 11], [10, 11]), ([9, 12], [9, 12]), ([3, 13, 13], [3, 13]), ([14, 14, 0, 1, 2, 3, 4, 5, 6, 7, 8, 9, 10, 11, 12, 13, 14], [0, 10, 14])])
def remontoirref27_Jobs.B10 : List Nat := [0, 0, 0, 7, 0, 0, 48, 112, 240, 496, 0, 0, 3072, 8176, 16383, 32767]
theorem remontoirref27_Jobs.tab10 : rtab .any (opsOf Tryz.f11 10) = remontoirref27_Jobs.T10 := by kernel_rfl
theorem remontoirref27_Jobs.bits10 : waitsOk remontoirref27_Jobs.T10.2 remontoirref27_Jobs.B10 = true := by kernel_rfl
set_option maxHeartbeats 8000000 in
set_option maxRecDepth 100000 in
theorem remontoirref27_Jobs.calls (k : Nat) (A0 : Option Addr) (c0 : Nat) (l0 : List (S48)) (r : List Int) (w : World) (hr0 : Kd.C k48 w A0 l0.length l0) (hc0 : l0.length ≤ c0) (h : remontoirref27_Jobs.f k l0 = some r) :
    Calls Tryz.prog 11 #[.slice A0 l0.length c0] w fun e w' => ∃ v0_ : Value, e = .returned (v0_) ∧ Kd.R (Kd.int .i64) 3 w' w.heap.size (fun _ => True) v0_ r ∧ Below w.heap.size w w' := by
  have HR0 := Aside0.mk hr0
  have HC0 := Aside0.mk hc0
  clear hr0 hc0
  have HB := Aside0.mk (Below.refl w.heap.size w)
  unfold remontoirref27_Jobs.f at h
  have H := h
  clear h
  have H' := Aside0.mk H
  clear H
  go_enter Tryz.func11, Tryz.ntmps11
  go_wp2
  go_loopg [3, 4] k (fun kq v3 v4 w' => ∃ (x3_1 : List Int) (x4_1 : Int), v4 = .int .i64 x4_1 ∧ Aside0 (remontoirref27_Jobs.l0 kq l0 x3_1 x4_1 = some r) ∧ Aside0 (kq ≤ k) ∧ Aside0 (Kd.R (Kd.int .i64) 3 w' w.heap.size (fun _ => True) v3 x3_1) ∧ Aside0 (Below w.heap.size w w'))
  case atStart => exact ⟨(([] : List Int)), (0), bd13_5, H', ⟨Nat.le_refl _⟩, ⟨by first | exact Kd.R_nil _ _ _ _ _ | exact Kd.N_nil _ _ _ _ _ | exact Kd.V_nil _ _ _ _ _ | exact Kd.Q_nil _ _ _ _ _ | exact Kd.S_nil _ _ _ _ _⟩, ⟨by repeat (first | (with_reducible first | exact HB.out | apply below_alloc | apply pw_below_drewN | apply below_drew1) | exact HB.out)⟩⟩
  case round =>
    clear H'
    try clear c1
    obtain ⟨x3_1, x4_1, rfl, HA, HK1, HO_3, HB⟩ := hrel
    cases gk with
    | zero => exact absurd HA.out (by simp [remontoirref27_Jobs.l0])
    | succ k1 =>
      have H := HA.out
      clear HA
      simp only [remontoirref27_Jobs.l0] at H
      by_cases c2 : x4_1 < (l0.length : Int)
      rotate_left
      · rw [if_neg c2] at H
        have c2b0 := decide_eq_false c2
        clear c2
        obtain rfl := Option.some.inj H
        go_wp2
        go_ret
        exact ⟨_, by first | rfl | (simp [errW_none, errW_some] <;> rfl) | (simp [*, errW_none, errW_some] <;> rfl), by (with_reducible repeat (first | apply Kd.R_alloc | apply Kd.R_drewN | apply Kd.R_drew)); exact HO_3.out, by repeat (first | (with_reducible first | exact HB.out | apply below_alloc | apply pw_below_drewN | apply below_drew1) | exact HB.out)⟩
      rw [if_pos c2] at H
      have c2b0 := decide_eq_true c2
      clear c2
      have HC3 := Aside0.mk H
      clear H
      go_upto_region 5 with (fail)
      go_cut [22] (fun v22 wc => ∃ (kq : Nat) (x22_2 : Bool), v22 = .bool x22_2 ∧ Aside0 (remontoirref27_Jobs.j1 kq l0 x3_1 x4_1 x22_2 = some r) ∧ Aside0 (kq ≤ k1) ∧ Aside0 (Kd.R (Kd.int .i64) 3 wc w.heap.size (fun _ => True) u3 x3_1) ∧ Aside0 (Below w.heap.size w wc))
      case first =>
        have H := HC3.out
        clear HC3
        obtain ⟨c4, H⟩ := itS H
        have c4b0 := decide_eq_true c4
        clear c4
        (first | rw [c4b0] | (simp only [i64_w, i32_w]; rw [c4b0]) | skip)
        by_cases c5 : ((rd_T48 l0 x4_1).f0) = 1
        rotate_left
        · rw [if_neg c5] at H
          have c5b0 := beq_eq_false_iff_ne.mpr c5
          have c5b1 := bne_iff_ne.mpr c5
          have H' := Aside0.mk H
          clear H
          have p287 : 0 ≤ (x4_1 : Int) := of_decide_eq_true bb13_4
          have q287 : x4_1 < (l0.length : Int) := of_decide_eq_true bb13_4
          obtain ⟨ad287, e287, hx287_0, hx287_1, hx287_2, hx287_3, hx287_4⟩ := at_T48 HR0.out x4_1 p287 q287
          cases e287
          replace hx287_0 := (HB.out.cell (World.block_lt_of_cell? w _ hx287_0)).trans hx287_0
          replace hx287_1 := (HB.out.cell (World.block_lt_of_cell? w _ hx287_1)).trans hx287_1
          replace hx287_2 := (HB.out.cell (World.block_lt_of_cell? w _ hx287_2)).trans hx287_2
          replace hx287_3 := (HB.out.cell (World.block_lt_of_cell? w _ hx287_3)).trans hx287_3
          replace hx287_4 := (HB.out.cell (World.block_lt_of_cell? w _ hx287_4)).trans hx287_4
          replace p287 := eq_true p287
          replace q287 := eq_true q287
          go_wp2
          go_meet
          case rel => exact ⟨_, (true), bd13_5, H', ⟨by have := HK1.out; first | omega | exact Nat.le_refl _⟩, ⟨by (with_reducible repeat (first | apply Kd.R_alloc | apply Kd.R_drewN | apply Kd.R_drew)); exact HO_3.out⟩, ⟨by repeat (first | (with_reducible first | exact HB.out | apply below_alloc | apply pw_below_drewN | apply below_drew1) | exact HB.out)⟩⟩
        rw [if_pos c5] at H
        have c5b0 := beq_iff_eq.mpr c5
        have c5b1 := bne_eq_false_iff_eq.mpr c5
        clear c5
        obtain ⟨t288, A6, H⟩ := bdA H
        have H' := Aside0.mk H
        clear H
        have p287 : 0 ≤ (x4_1 : Int) := of_decide_eq_true bb13_4
        have q287 : x4_1 < (l0.length : Int) := of_decide_eq_true bb13_4
        obtain ⟨ad287, e287, hx287_0, hx287_1, hx287_2, hx287_3, hx287_4⟩ := at_T48 HR0.out x4_1 p287 q287
        cases e287
        replace hx287_0 := (HB.out.cell (World.block_lt_of_cell? w _ hx287_0)).trans hx287_0
        replace hx287_1 := (HB.out.cell (World.block_lt_of_cell? w _ hx287_1)).trans hx287_1
        replace hx287_2 := (HB.out.cell (World.block_lt_of_cell? w _ hx287_2)).trans hx287_2
        replace hx287_3 := (HB.out.cell (World.block_lt_of_cell? w _ hx287_3)).trans hx287_3
        replace hx287_4 := (HB.out.cell (World.block_lt_of_cell? w _ hx287_4)).trans hx287_4
        replace p287 := eq_true p287
        replace q287 := eq_true q287
        go_wp2_with (first | (go_at_call 21; (with_reducible refine (remontoirref27_taken.calls k1 _ _ l0 x4_1 t288 _ ?side1 ?side2 A6.out).mono ?_); (case side1 => repeat (first | exact (Kd.C_below HR0.out HB.out) | (with_reducible refine Kd.C_alloc ?_ _) | (with_reducible refine Kd.C_drewN ?_ _) | (with_reducible refine Kd.C_drew ?_))); (case side2 => exact HC0.out); rintro e w' ⟨rfl, ⟨nd, rfl⟩⟩))
        go_meet
        case rel => exact ⟨_, (t288), bd13_5, H', ⟨by have := HK1.out; first | omega | exact Nat.le_refl _⟩, ⟨by (with_reducible repeat (first | apply Kd.R_alloc | apply Kd.R_drewN | apply Kd.R_drew)); exact HO_3.out⟩, ⟨by repeat (first | (with_reducible first | exact HB.out | apply below_alloc | apply pw_below_drewN | apply below_drew1) | exact HB.out)⟩⟩
      case rest =>
        clear HC3
        try clear c1
        try clear c2
        try clear c2b0
        try clear p2
        try clear q2
        try clear hx2
        try clear c4
        try clear c4b0
        try clear c5
        try clear c5b0
        try clear c5b1
        try clear hx287_0
        try clear hx287_1
        try clear hx287_2
        try clear hx287_3
        try clear hx287_4
        try clear p287
        try clear q287
        obtain ⟨kq, x22_2, rfl, HA, HJ2, HO_3, HB⟩ := hcut
        cases kq with
        | zero => exact absurd HA.out (by simp [remontoirref27_Jobs.j1])
        | succ kj2 =>
          have H := HA.out
          clear HA
          simp only [remontoirref27_Jobs.j1] at H
          by_cases c7 : x22_2 = true
          · subst c7
            rw [if_pos rfl] at H
            have H' := Aside0.mk H
            clear H
            go_wp2
            go_roundg kj2
            case measure => have := HK1.out; have := HJ2.out; omega
            case rel => exact ⟨(x3_1), (wrap64 (x4_1 + 1)), bd13_5, H', ⟨by have := HK1.out; have := HJ2.out; omega⟩, ⟨by (with_reducible repeat (first | apply Kd.R_alloc | apply Kd.R_drewN | apply Kd.R_drew)); exact HO_3.out⟩, ⟨by repeat (first | (with_reducible first | exact HB.out | apply below_alloc | apply pw_below_drewN | apply below_drew1) | exact HB.out)⟩⟩
          replace c7 := Bool.eq_false_iff.mpr c7
          subst c7
          rw [if_neg nft] at H
          have HC8 := Aside0.mk H
          clear H
          go_upto_block 2 with (fail)
          go_cut [5] (fun v5 wc => ∃ (kq : Nat) (x5_7 : Int), v5 = .int .i64 x5_7 ∧ Aside0 (remontoirref27_Jobs.j3 kq l0 x3_1 x4_1 x5_7 = some r) ∧ Aside0 (kq ≤ kj2) ∧ Aside0 (Kd.R (Kd.int .i64) 3 wc w.heap.size (fun _ => True) u3 x3_1) ∧ Aside0 (Below w.heap.size w wc))
          case first =>
            have H := HC8.out
            clear HC8
            have H' := Aside0.mk H
            clear H
            go_wp2
            go_loopg [5] kj2 (fun kq v5 w' => ∃ (x5_3 : Int), v5 = .int .i64 x5_3 ∧ Aside0 (remontoirref27_Jobs.l1 kq l0 x3_1 x4_1 x5_3 = some r) ∧ Aside0 (kq ≤ kj2) ∧ Aside0 (Kd.R (Kd.int .i64) 3 w' w.heap.size (fun _ => True) u3 x3_1) ∧ Aside0 (Below w.heap.size w w'))
            case atStart => exact ⟨(0), bd13_5, H', ⟨Nat.le_refl _⟩, ⟨by (with_reducible repeat (first | apply Kd.R_alloc | apply Kd.R_drewN | apply Kd.R_drew)); exact HO_3.out⟩, ⟨by repeat (first | (with_reducible first | exact HB.out | apply below_alloc | apply pw_below_drewN | apply below_drew1) | exact HB.out)⟩⟩
            case round =>
              clear H'
              try clear c1
              try clear c2
              try clear c2b0
              try clear p2
              try clear q2
              try clear hx2
              try clear c4
              try clear c4b0
              try clear c5
              try clear c5b0
              try clear c5b1
              try clear p6
              try clear c7
              try clear hx287_0
              try clear hx287_1
              try clear hx287_2
              try clear hx287_3
              try clear hx287_4
              try clear p2
              try clear p287
              try clear q2
              try clear q287
              obtain ⟨x5_3, rfl, HA, HK3, HO_3, HB⟩ := hrel
              cases gk with
              | zero => exact absurd HA.out (by simp [remontoirref27_Jobs.l1])
              | succ k3 =>
                have H := HA.out
                clear HA
                simp only [remontoirref27_Jobs.l1] at H
                by_cases c9 : x5_3 < (x3_1.length : Int)
                rotate_left
                · rw [if_neg c9] at H
                  have c9b0 := decide_eq_false c9
                  clear c9
                  (first | rw [c9b0] | (simp only [i64_w, i32_w]; rw [c9b0]) | skip)
                  have H' := Aside0.mk H
                  clear H
                  try go_wp2
                  replace HO_3 := Aside0.mk (Kd.R_drew HO_3.out)
                  replace HB := Aside0.mk (below_drew1 HB.out)
                  obtain ⟨Ao19, co19, eo19⟩ := Kd.R_slice HO_3.out
                  (first | subst eo19 | (injection eo19 with f1_ f2_ f3_; have f4_ := f1_.symm; have f5_ := f3_.symm; clear f1_ f2_ f3_; subst f4_; subst f5_))
                  refine start_ (n := 16) (S := fun w' => True) (ds := []) #[false, false, false, false, false, false, false, false, false, false, false, false, false, false, false, false] (by kernel_rfl) rfl rfl trivial (fun hHeld => ?_); refine with_tabW remontoirref27_Jobs.tab7 remontoirref27_Jobs.bits7 (fun HT_ HW_ => ?_)
                  generalize wr.drew = w18 at HO_3 HB hHeld ⊢
                  refine pv_ 0 23 HT_ ?_; refine pv_ 1 24 HT_ ?_; refine pv_ 2 25 HT_ ?_; refine pv_ 3 26 HT_ ?_; refine pv_ 4 27 HT_ ?_; refine pu_ 5 28 HT_ ?_; refine pu_ 6 29 HT_ ?_; refine pu_ 7 30 HT_ ?_; refine pu_ 8 31 HT_ ?_; refine pu_ 9 32 HT_ ?_; refine pu_ 10 33 HT_ ?_; refine pu_ 11 34 HT_ ?_; refine pu_ 12 35 HT_ ?_; refine pu_ 13 36 HT_ ?_; refine pu_ 14 37 HT_ ?_; refine pv_ 15 38 HT_ ?_; refine dn_ HT_ ?_
                  try go_wp2
                  go_meet
                  case rel => exact ⟨_, (x5_3), bd13_5, H', ⟨by have := HK1.out; have := HJ2.out; have := HK3.out; first | omega | exact Nat.le_refl _⟩, ⟨by (with_reducible repeat (first | apply Kd.R_alloc | apply Kd.R_drewN | apply Kd.R_drew)); exact HO_3.out⟩, ⟨by repeat (first | (with_reducible first | exact HB.out | apply below_alloc | apply pw_below_drewN | apply below_drew1) | exact HB.out)⟩⟩
                rw [if_pos c9] at H
                have c9b0 := decide_eq_true c9
                clear c9
                (first | rw [c9b0] | (simp only [i64_w, i32_w]; rw [c9b0]) | skip)
                obtain ⟨c10, H⟩ := itS H
                have c10b0 := decide_eq_true c10
                clear c10
                obtain ⟨c11, H⟩ := itS H
                have c11b0 := decide_eq_true c11
                clear c11
                obtain ⟨c12, H⟩ := itS H
                have c12b0 := decide_eq_true c12
                clear c12
                by_cases c13 : (rd x3_1 x5_3) < ((rd_T48 l0 x4_1).f1)
                rotate_left
                · rw [if_neg c13] at H
                  have c13b0 := decide_eq_false c13
                  clear c13
                  have H' := Aside0.mk H
                  clear H
                  try go_wp2
                  replace HO_3 := Aside0.mk (Kd.R_drew HO_3.out)
                  replace HB := Aside0.mk (below_drew1 HB.out)
                  obtain ⟨Ao17, co17, eo17⟩ := Kd.R_slice HO_3.out
                  (first | subst eo17 | (injection eo17 with f1_ f2_ f3_; have f4_ := f1_.symm; have f5_ := f3_.symm; clear f1_ f2_ f3_; subst f4_; subst f5_))
                  have p289 : 0 ≤ (x5_3 : Int) := of_decide_eq_true bb13_4
                  have q289 : x5_3 < (x3_1.length : Int) := of_decide_eq_true bb13_4
                  obtain ⟨ad289, e289, hx289_0⟩ := Kd.at_int (Kd.R_reads' HO_3.out).2.2 x5_3 p289 q289
                  cases e289
                  replace p289 := eq_true p289
                  replace q289 := eq_true q289
                  have p290 : 0 ≤ (x4_1 : Int) := of_decide_eq_true bb13_4
                  have q290 : x4_1 < (l0.length : Int) := of_decide_eq_true bb13_4
                  obtain ⟨ad290, e290, hx290_0, hx290_1, hx290_2, hx290_3, hx290_4⟩ := at_T48 HR0.out x4_1 p290 q290
                  have hw290_4 := hx290_4
                  have hw290_3 := hx290_3
                  have hw290_2 := hx290_2
                  have hw290_1 := hx290_1
                  have hw290_0 := hx290_0
                  cases e290
                  replace hx290_0 := (HB.out.cell (World.block_lt_of_cell? w _ hx290_0)).trans hx290_0
                  replace hx290_1 := (HB.out.cell (World.block_lt_of_cell? w _ hx290_1)).trans hx290_1
                  replace hx290_2 := (HB.out.cell (World.block_lt_of_cell? w _ hx290_2)).trans hx290_2
                  replace hx290_3 := (HB.out.cell (World.block_lt_of_cell? w _ hx290_3)).trans hx290_3
                  replace hx290_4 := (HB.out.cell (World.block_lt_of_cell? w _ hx290_4)).trans hx290_4
                  replace p290 := eq_true p290
                  replace q290 := eq_true q290
                  refine start_ (n := 16) (S := fun w' => w'.cell? (ad289.add (x5_3).toNat) = some (.int .i64 (rd x3_1 x5_3)) ∧ w'.cell? (ad290.add ((x4_1).toNat * 5)) = some (.int .i64 ((rd_T48 l0 x4_1).f0)) ∧ w'.cell? ⟨(ad290.add ((x4_1).toNat * 5)).block, (ad290.add ((x4_1).toNat * 5)).off + 1, none⟩ = some (.int .i64 ((rd_T48 l0 x4_1).f1)) ∧ w'.cell? ⟨(ad290.add ((x4_1).toNat * 5)).block, (ad290.add ((x4_1).toNat * 5)).off + 2, none⟩ = some (.int .i64 ((rd_T48 l0 x4_1).f2)) ∧ w'.cell? ⟨(ad290.add ((x4_1).toNat * 5)).block, (ad290.add ((x4_1).toNat * 5)).off + 3, none⟩ = some (.int .i64 ((rd_T48 l0 x4_1).f3)) ∧ w'.cell? ⟨(ad290.add ((x4_1).toNat * 5)).block, (ad290.add ((x4_1).toNat * 5)).off + 4, none⟩ = some (.int .u64 ((rd_T48 l0 x4_1).f4))) (ds := []) #[false, false, false, false, false, false, false, false, false, false, false, false, false, false, false, false] (by kernel_rfl) rfl rfl ⟨hx289_0, ((HB.out.cell (World.block_lt_of_cell? w _ hw290_0)).trans hw290_0), ((HB.out.cell (World.block_lt_of_cell? w _ hw290_1)).trans hw290_1), ((HB.out.cell (World.block_lt_of_cell? w _ hw290_2)).trans hw290_2), ((HB.out.cell (World.block_lt_of_cell? w _ hw290_3)).trans hw290_3), ((HB.out.cell (World.block_lt_of_cell? w _ hw290_4)).trans hw290_4)⟩ (fun hHeld => ?_); refine with_tabW remontoirref27_Jobs.tab7 remontoirref27_Jobs.bits7 (fun HT_ HW_ => ?_)
                  generalize wr.drew = w16 at HO_3 HB hx289_0 hx290_0 hx290_1 hx290_2 hx290_3 hx290_4 hHeld ⊢
                  refine pv_ 0 23 HT_ ?_; refine pv_ 1 24 HT_ ?_; refine pv_ 2 25 HT_ ?_; refine pv_ 3 26 HT_ ?_; refine pv_ 4 27 HT_ ?_; refine pv_ 5 28 HT_ ?_; refine pv_ 6 29 HT_ ?_; refine pv_ 7 30 HT_ ?_; refine pv_ 9 32 HT_ ?_; refine pv_ 10 33 HT_ ?_; refine pv_ 11 34 HT_ ?_; refine pv_ 12 35 HT_ ?_; refine tk_ 8 31 HT_ HW_ hHeld ?_; refine tk_ 13 36 HT_ HW_ hHeld ?_; refine pv_ 14 37 HT_ ?_; refine pv_ 15 38 HT_ ?_; refine dn_ HT_ ?_
                  try go_wp2
                  go_meet
                  case rel => exact ⟨_, (x5_3), bd13_5, H', ⟨by have := HK1.out; have := HJ2.out; have := HK3.out; first | omega | exact Nat.le_refl _⟩, ⟨by (with_reducible repeat (first | apply Kd.R_alloc | apply Kd.R_drewN | apply Kd.R_drew)); exact HO_3.out⟩, ⟨by repeat (first | (with_reducible first | exact HB.out | apply below_alloc | apply pw_below_drewN | apply below_drew1) | exact HB.out)⟩⟩
                rw [if_pos c13] at H
                have c13b0 := decide_eq_true c13
                clear c13
                have H' := Aside0.mk H
                clear H
                try go_wp2
                replace HO_3 := Aside0.mk (Kd.R_drew HO_3.out)
                replace HB := Aside0.mk (below_drew1 HB.out)
                obtain ⟨Ao15, co15, eo15⟩ := Kd.R_slice HO_3.out
                (first | subst eo15 | (injection eo15 with f1_ f2_ f3_; have f4_ := f1_.symm; have f5_ := f3_.symm; clear f1_ f2_ f3_; subst f4_; subst f5_))
                have p289 : 0 ≤ (x5_3 : Int) := of_decide_eq_true bb13_4
                have q289 : x5_3 < (x3_1.length : Int) := of_decide_eq_true bb13_4
                obtain ⟨ad289, e289, hx289_0⟩ := Kd.at_int (Kd.R_reads' HO_3.out).2.2 x5_3 p289 q289
                cases e289
                replace p289 := eq_true p289
                replace q289 := eq_true q289
                have p290 : 0 ≤ (x4_1 : Int) := of_decide_eq_true bb13_4
                have q290 : x4_1 < (l0.length : Int) := of_decide_eq_true bb13_4
                obtain ⟨ad290, e290, hx290_0, hx290_1, hx290_2, hx290_3, hx290_4⟩ := at_T48 HR0.out x4_1 p290 q290
                have hw290_4 := hx290_4
                have hw290_3 := hx290_3
                have hw290_2 := hx290_2
                have hw290_1 := hx290_1
                have hw290_0 := hx290_0
                cases e290
                replace hx290_0 := (HB.out.cell (World.block_lt_of_cell? w _ hx290_0)).trans hx290_0
                replace hx290_1 := (HB.out.cell (World.block_lt_of_cell? w _ hx290_1)).trans hx290_1
                replace hx290_2 := (HB.out.cell (World.block_lt_of_cell? w _ hx290_2)).trans hx290_2
                replace hx290_3 := (HB.out.cell (World.block_lt_of_cell? w _ hx290_3)).trans hx290_3
                replace hx290_4 := (HB.out.cell (World.block_lt_of_cell? w _ hx290_4)).trans hx290_4
                replace p290 := eq_true p290
                replace q290 := eq_true q290
                refine start_ (n := 16) (S := fun w' => w'.cell? (ad289.add (x5_3).toNat) = some (.int .i64 (rd x3_1 x5_3)) ∧ w'.cell? (ad290.add ((x4_1).toNat * 5)) = some (.int .i64 ((rd_T48 l0 x4_1).f0)) ∧ w'.cell? ⟨(ad290.add ((x4_1).toNat * 5)).block, (ad290.add ((x4_1).toNat * 5)).off + 1, none⟩ = some (.int .i64 ((rd_T48 l0 x4_1).f1)) ∧ w'.cell? ⟨(ad290.add ((x4_1).toNat * 5)).block, (ad290.add ((x4_1).toNat * 5)).off + 2, none⟩ = some (.int .i64 ((rd_T48 l0 x4_1).f2)) ∧ w'.cell? ⟨(ad290.add ((x4_1).toNat * 5)).block, (ad290.add ((x4_1).toNat * 5)).off + 3, none⟩ = some (.int .i64 ((rd_T48 l0 x4_1).f3)) ∧ w'.cell? ⟨(ad290.add ((x4_1).toNat * 5)).block, (ad290.add ((x4_1).toNat * 5)).off + 4, none⟩ = some (.int .u64 ((rd_T48 l0 x4_1).f4))) (ds := []) #[false, false, false, false, false, false, false, false, false, false, false, false, false, false, false, false] (by kernel_rfl) rfl rfl ⟨hx289_0, ((HB.out.cell (World.block_lt_of_cell? w _ hw290_0)).trans hw290_0), ((HB.out.cell (World.block_lt_of_cell? w _ hw290_1)).trans hw290_1), ((HB.out.cell (World.block_lt_of_cell? w _ hw290_2)).trans hw290_2), ((HB.out.cell (World.block_lt_of_cell? w _ hw290_3)).trans hw290_3), ((HB.out.cell (World.block_lt_of_cell? w _ hw290_4)).trans hw290_4)⟩ (fun hHeld => ?_); refine with_tabW remontoirref27_Jobs.tab7 remontoirref27_Jobs.bits7 (fun HT_ HW_ => ?_)
                generalize wr.drew = w14 at HO_3 HB hx289_0 hx290_0 hx290_1 hx290_2 hx290_3 hx290_4 hHeld ⊢
                refine pv_ 0 23 HT_ ?_; refine pv_ 1 24 HT_ ?_; refine pv_ 2 25 HT_ ?_; refine pv_ 3 26 HT_ ?_; refine pv_ 4 27 HT_ ?_; refine pv_ 5 28 HT_ ?_; refine pv_ 6 29 HT_ ?_; refine pv_ 7 30 HT_ ?_; refine pv_ 9 32 HT_ ?_; refine pv_ 10 33 HT_ ?_; refine pv_ 11 34 HT_ ?_; refine pv_ 12 35 HT_ ?_; refine tk_ 8 31 HT_ HW_ hHeld ?_; refine tk_ 13 36 HT_ HW_ hHeld ?_; refine pv_ 14 37 HT_ ?_; refine pv_ 15 38 HT_ ?_; refine dn_ HT_ ?_
                try go_wp2
                go_roundg k3
                case measure => have := HK1.out; have := HJ2.out; have := HK3.out; omega
                case rel => exact ⟨(wrap64 (x5_3 + 1)), bd13_5, H', ⟨by have := HK1.out; have := HJ2.out; have := HK3.out; omega⟩, ⟨by (with_reducible repeat (first | apply Kd.R_alloc | apply Kd.R_drewN | apply Kd.R_drew)); exact HO_3.out⟩, ⟨by repeat (first | (with_reducible first | exact HB.out | apply below_alloc | apply pw_below_drewN | apply below_drew1) | exact HB.out)⟩⟩
          case rest =>
            clear HC8
            try clear c1
            try clear c2
            try clear c2b0
            try clear p2
            try clear q2
            try clear hx2
            try clear c4
            try clear c4b0
            try clear c5
            try clear c5b0
            try clear c5b1
            try clear p6
            try clear c7
            try clear c9
            try clear c9b0
            try clear c10
            try clear c10b0
            try clear c11
            try clear c11b0
            try clear c12
            try clear c12b0
            try clear c13
            try clear c13b0
            try clear hx287_0
            try clear hx287_1
            try clear hx287_2
            try clear hx287_3
            try clear hx287_4
            try clear hx289_0
            try clear hx290_0
            try clear hx290_1
            try clear hx290_2
            try clear hx290_3
            try clear hx290_4
            try clear p2
            try clear p287
            try clear p289
            try clear p290
            try clear p6
            try clear q2
            try clear q287
            try clear q289
            try clear q290
            obtain ⟨kq, x5_7, rfl, HA, HJ7, HO_3, HB⟩ := hcut
            cases kq with
            | zero => exact absurd HA.out (by simp [remontoirref27_Jobs.j3])
            | succ kj7 =>
              have H := HA.out
              clear HA
              simp only [remontoirref27_Jobs.j3] at H
              by_cases c20 : x5_7 = (x3_1.length : Int)
              · rw [if_pos c20] at H
                have c20b0 := beq_iff_eq.mpr c20
                have c20b1 := bne_eq_false_iff_eq.mpr c20
                clear c20
                obtain ⟨c21b0, c21b1, H⟩ := itF H
                obtain ⟨c22b0, c22b1, H⟩ := itF H
                obtain ⟨y293, hy293⟩ : ∃ y_ : List Int, y_ = (x3_1.take (x5_7 : Int).toNat) := ⟨_, rfl⟩
                replace H : (if 0 ≤ x4_1 then (if x4_1 < (l0.length : Int) then ((some (([(rd_T48 l0 x4_1).f1] : List Int) : List Int)).bind fun y298 => ((some (x3_1.drop (x5_7 : Int).toNat : List Int)).bind fun y301 => (if y298.length + y301.length < 17592186044416 then ((some (y298 ++ y301 : List Int)).bind fun y305 => (if 0 < (y305.length : Int) then (if y293.length + y305.length < 17592186044416 then (remontoirref27_Jobs.l0 kj7 l0 (y293 ++ y305) (wrap64 (x4_1 + 1))) else (none)) else (none))) else (none)))) else (none)) else (none)) = some r := by first | (rw [hy293]; with_reducible exact H) | (have H2_ := (Option.bind_some _ _).symm.trans H; rw [hy293]; with_reducible exact H2_) | (have H2_ := (Option.bind_some _ _).symm.trans H; with_reducible exact H2_) | with_reducible exact H | (rw [hy293]; exact H) | exact H
                have Ny293 := Aside0.mk hy293
                clear hy293
                obtain ⟨c23, H⟩ := itS H
                have c23b0 := decide_eq_true c23
                clear c23
                obtain ⟨c24, H⟩ := itS H
                have c24b0 := decide_eq_true c24
                clear c24
                obtain ⟨y298, Ny298, H⟩ := nmA H
                have c25b0 := eq_true (of_decide_eq_true bb13_4 : 0 ≤ x5_7)
                have c26b0 := eq_true (of_decide_eq_true bb13_4 : x5_7 ≤ (x3_1.length : Int))
                obtain ⟨y301, Ny301, H⟩ := nmA H
                obtain ⟨LMc27, H⟩ := itL H
                obtain ⟨y305, Ny305, H⟩ := nmA H
                obtain ⟨c28b0, c28b1, H⟩ := itF H
                obtain ⟨LMc29, H⟩ := itL H
                obtain ⟨y308, hy308⟩ : ∃ y_ : List Int, y_ = (y293 ++ y305) := ⟨_, rfl⟩
                replace H : (remontoirref27_Jobs.l0 kj7 l0 y308 (wrap64 (x4_1 + 1))) = some r := by first | (rw [hy308]; with_reducible exact H) | (have H2_ := (Option.bind_some _ _).symm.trans H; rw [hy308]; with_reducible exact H2_) | (have H2_ := (Option.bind_some _ _).symm.trans H; with_reducible exact H2_) | with_reducible exact H | (rw [hy308]; exact H) | exact H
                have Ny308 := Aside0.mk hy308
                clear hy308
                have H' := Aside0.mk H
                clear H
                try go_wp2
                replace HO_3 := Aside0.mk (Kd.R_drew HO_3.out)
                replace HB := Aside0.mk (below_drew1 HB.out)
                obtain ⟨Ao31, co31, eo31⟩ := Kd.R_slice HO_3.out
                (first | subst eo31 | (injection eo31 with f1_ f2_ f3_; have f4_ := f1_.symm; have f5_ := f3_.symm; clear f1_ f2_ f3_; subst f4_; subst f5_))
                refine start_ (n := 16) (S := fun w' => True) (ds := []) #[false, false, false, false, false, false, false, false, false, false, false, false, false, false, false, false] (by kernel_rfl) rfl rfl trivial (fun hHeld => ?_); refine with_tabW remontoirref27_Jobs.tab9 remontoirref27_Jobs.bits9 (fun HT_ HW_ => ?_)
                generalize wc.drew = w30 at HO_3 HB hHeld ⊢
                refine pv_ 0 41 HT_ ?_; refine pv_ 1 42 HT_ ?_; refine pv_ 2 43 HT_ ?_; refine pv_ 3 44 HT_ ?_; refine pv_ 4 45 HT_ ?_; refine pu_ 5 46 HT_ ?_; refine pu_ 6 47 HT_ ?_; refine pu_ 7 48 HT_ ?_; refine pu_ 8 49 HT_ ?_; refine pu_ 9 50 HT_ ?_; refine pu_ 10 51 HT_ ?_; refine pu_ 11 52 HT_ ?_; refine pu_ 12 53 HT_ ?_; refine pu_ 13 54 HT_ ?_; refine pu_ 14 55 HT_ ?_; refine pv_ 15 56 HT_ ?_; refine dn_ HT_ ?_
                try go_wp2
                replace HO_3 := Aside0.mk (Kd.R_drew HO_3.out)
                replace HB := Aside0.mk (below_drew1 HB.out)
                have q33 : (x5_7 : Int) ≤ ((x3_1.length : Int) : Int) := of_decide_eq_true bb13_4
                obtain ⟨i033, hi033, _, hsz33, _⟩ := info_parts info3
                have hroom33 : x3_1.length ≤ co31 := (Kd.R_reads' HO_3.out).2.1
                have hC33 : Kd.C (Kd.int .i64) _ Ao31 x3_1.length x3_1 := (Kd.R_reads' HO_3.out).2.2
                have hcut33 := cut_to3 (P := Tryz.prog) 34 3 .i64 Tryz.underlying34 hi033 Ao31 x3_1.length co31 x5_7 (of_decide_eq_true bb13_4) q33 hroom33
                have hr33 := Kd.C_take (m := (x5_7 : Int).toNat) hC33 (by omega)
                have hy33 : y293.length = (x5_7 : Int).toNat := (by rw [Ny293.out, List.length_take]; omega)
                rw [← Ny293.out] at hr33
                rw [← hy33] at hcut33
                have HR296 := Aside0.mk hr33
                have HC296 := Aside0.mk (show y293.length ≤ y293.length from by omega)
                clear hr33 hC33 hroom33 hi033 hsz33
                have KY33 := Aside0.mk hy33
                clear hy33
                have KL33 := Aside0.mk (show (x5_7 : Int).toNat ≤ x3_1.length from by omega)
                replace q33 := eq_true q33
                have p297 : 0 ≤ (x4_1 : Int) := of_decide_eq_true bb13_4
                have q297 : x4_1 < (l0.length : Int) := of_decide_eq_true bb13_4
                obtain ⟨ad297, e297, hx297_0, hx297_1, hx297_2, hx297_3, hx297_4⟩ := at_T48 HR0.out x4_1 p297 q297
                have hw297_4 := hx297_4
                have hw297_3 := hx297_3
                have hw297_2 := hx297_2
                have hw297_1 := hx297_1
                have hw297_0 := hx297_0
                cases e297
                replace hx297_0 := (HB.out.cell (World.block_lt_of_cell? w _ hx297_0)).trans hx297_0
                replace hx297_1 := (HB.out.cell (World.block_lt_of_cell? w _ hx297_1)).trans hx297_1
                replace hx297_2 := (HB.out.cell (World.block_lt_of_cell? w _ hx297_2)).trans hx297_2
                replace hx297_3 := (HB.out.cell (World.block_lt_of_cell? w _ hx297_3)).trans hx297_3
                replace hx297_4 := (HB.out.cell (World.block_lt_of_cell? w _ hx297_4)).trans hx297_4
                replace p297 := eq_true p297
                replace q297 := eq_true q297
                have q34 : (x5_7 : Int) ≤ ((x3_1.length : Int) : Int) := of_decide_eq_true bb13_4
                obtain ⟨i034, hi034, _, hsz34, _⟩ := info_parts info3
                have hroom34 : x3_1.length ≤ co31 := (Kd.R_reads' HO_3.out).2.1
                have hC34 : Kd.C (Kd.int .i64) _ Ao31 x3_1.length x3_1 := (Kd.R_reads' HO_3.out).2.2
                have q034 : (0 : Int) ≤ (x5_7 : Int) := of_decide_eq_true bb13_4
                have hcut34 := cut_from (P := Tryz.prog) 34 3 .i64 Tryz.underlying34 hi034 1 hsz34 Ao31 x3_1.length co31 x5_7 q034 q34
                have hr34 := Kd.C_drop (m := (x5_7 : Int).toNat) (c := co31) hC34 (by omega) hroom34
                obtain ⟨A34, hA34⟩ : ∃ A1_, A1_ = (if co31 = (x5_7 : Int).toNat then Ao31 else (Ao31 : Option Addr).map (·.add ((x5_7 : Int).toNat * 1))) := ⟨_, rfl⟩
                obtain ⟨c34, hc34⟩ : ∃ c1_, c1_ = co31 - (x5_7 : Int).toNat := ⟨_, rfl⟩
                have hy34 : y301.length = x3_1.length - (x5_7 : Int).toNat := (by rw [Ny301.out, List.length_drop] <;> omega)
                rw [show (x3_1).drop (x5_7 : Int).toNat = y301 from Ny301.out.symm] at hr34
                replace hr34 : Kd.C (Kd.int .i64) _ A34 y301.length y301 := (by rw [hA34]; exact hr34)
                rw [← hy34, ← hA34, ← hc34] at hcut34
                have HR304 := Aside0.mk hr34
                have HC304 := Aside0.mk (show y301.length ≤ c34 from by rw [hy34, hc34]; exact Nat.sub_le_sub_right hroom34 _)
                clear hr34 hC34 hroom34 hi034 hsz34 hc34
                have KY34 := Aside0.mk hy34
                have KA34 := Aside0.mk hA34
                clear hy34 hA34
                have KL34 := Aside0.mk (show (x5_7 : Int).toNat ≤ x3_1.length from by omega)
                replace q34 := eq_true q34
                refine start_ (n := 16) (S := fun w' => w'.cell? (ad297.add ((x4_1).toNat * 5)) = some (.int .i64 ((rd_T48 l0 x4_1).f0)) ∧ w'.cell? ⟨(ad297.add ((x4_1).toNat * 5)).block, (ad297.add ((x4_1).toNat * 5)).off + 1, none⟩ = some (.int .i64 ((rd_T48 l0 x4_1).f1)) ∧ w'.cell? ⟨(ad297.add ((x4_1).toNat * 5)).block, (ad297.add ((x4_1).toNat * 5)).off + 2, none⟩ = some (.int .i64 ((rd_T48 l0 x4_1).f2)) ∧ w'.cell? ⟨(ad297.add ((x4_1).toNat * 5)).block, (ad297.add ((x4_1).toNat * 5)).off + 3, none⟩ = some (.int .i64 ((rd_T48 l0 x4_1).f3)) ∧ w'.cell? ⟨(ad297.add ((x4_1).toNat * 5)).block, (ad297.add ((x4_1).toNat * 5)).off + 4, none⟩ = some (.int .u64 ((rd_T48 l0 x4_1).f4))) (ds := []) #[false, false, false, false, false, false, false, false, false, false, false, false, false, false, false, false] (by kernel_rfl) rfl rfl ⟨((HB.out.cell (World.block_lt_of_cell? w _ hw297_0)).trans hw297_0), ((HB.out.cell (World.block_lt_of_cell? w _ hw297_1)).trans hw297_1), ((HB.out.cell (World.block_lt_of_cell? w _ hw297_2)).trans hw297_2), ((HB.out.cell (World.block_lt_of_cell? w _ hw297_3)).trans hw297_3), ((HB.out.cell (World.block_lt_of_cell? w _ hw297_4)).trans hw297_4)⟩ (fun hHeld => ?_); refine with_tabW remontoirref27_Jobs.tab10 remontoirref27_Jobs.bits10 (fun HT_ HW_ => ?_)
                generalize w30.drew = w32 at HO_3 HB HR296 HR304 hx297_0 hx297_1 hx297_2 hx297_3 hx297_4 hHeld ⊢
                refine pv_ 0 57 HT_ ?_; refine pv_ 1 58 HT_ ?_; refine pv_ 2 59 HT_ ?_; refine pv_ 3 60 HT_ ?_; refine pv_ 4 61 HT_ ?_; refine pv_ 5 62 HT_ ?_; refine pv_ 6 63 HT_ ?_; refine pv_ 7 64 HT_ ?_; refine pv_ 10 67 HT_ ?_; refine pv_ 11 68 HT_ ?_; refine pv_ 12 69 HT_ ?_; refine tk_ 8 65 HT_ HW_ hHeld ?_
                refine on_ 9 66 HT_ (fun K hK => ?_)
                refine Kd.R_lit_step (Kd.int .i64) _ 3 ?hg (N := 66) ?hd (xs := ([(rd_T48 l0 x4_1).f1] : List Int)) (inner := [.int .i64 ((rd_T48 l0 x4_1).f1)]) (ok := fun _ => True) (okp := fun _ => True) ?hr ?hp (fun _ hk => hk) trivial (Below.refl _ _) (Nat.le_refl _) (by simp) ?_; (case hd => rfl); (case hg => rfl); (case hr => first | (go_simp; done) | (go_simp; rfl)); (case hp => exact (Reps.one (show Kd.M (Kd.int .i64) _ _ _ ((rd_T48 l0 x4_1).f1) [.int .i64 ((rd_T48 l0 x4_1).f1)] from rfl) (Reps.none _ _)))
                intro v299 w35 ho36 hb hg_ hnew_
                clear hg_ hnew_
                (first | rw [← Ny298.out] at ho36 | (simp only [Int.reduceToNat] at ho36; rw [← Ny298.out] at ho36))
                have HO300 := Aside0.mk (Kd.R_lower (Kd.R_new' ho36 (Kd.R_lt (by (with_reducible repeat (first | apply Kd.R_alloc | apply Kd.R_drewN | apply Kd.R_drew)); exact HO_3.out))) bz13_1)
                replace HO_3 := Aside0.mk (Kd.R_elder' (by (with_reducible repeat (first | apply Kd.R_alloc | apply Kd.R_drewN | apply Kd.R_drew)); exact HO_3.out) (Kd.R_base ho36) hb)
                replace HR296 := Aside0.mk (Kd.C_below (by repeat (first | (with_reducible exact HR296.out) | (with_reducible refine Kd.C_alloc ?_ _) | (with_reducible refine Kd.C_drewN ?_ _) | (with_reducible refine Kd.C_drew ?_) | exact HR296.out)) hb)
                replace HR304 := Aside0.mk (Kd.C_below (by repeat (first | (with_reducible exact HR304.out) | (with_reducible refine Kd.C_alloc ?_ _) | (with_reducible refine Kd.C_drewN ?_ _) | (with_reducible refine Kd.C_drew ?_) | exact HR304.out)) hb)
                replace HB := Aside0.mk (bs13_0 hb)
                clear hb ho36
                refine hK.out _ _ ⟨((HB.out.cell (World.block_lt_of_cell? w _ hw297_0)).trans hw297_0), ((HB.out.cell (World.block_lt_of_cell? w _ hw297_1)).trans hw297_1), ((HB.out.cell (World.block_lt_of_cell? w _ hw297_2)).trans hw297_2), ((HB.out.cell (World.block_lt_of_cell? w _ hw297_3)).trans hw297_3), ((HB.out.cell (World.block_lt_of_cell? w _ hw297_4)).trans hw297_4)⟩ (fun hHeld => ?_)
                clear hK K
                refine nm_ ?_
                refine on_ 13 70 HT_ (fun K hK => ?_)
                refine Kd.R_append_rows_step (Kd.int .i64) (w0 := w) w.heap.size (by rfl) (.tmp 66) (.tmp 69) 34 3 (.int .i64 0) 8 rfl Tryz.underlying34 info3 rfl (by decide) (by omega) v299 y298 y301 _ _ _ (fun k_ => some k_ ≠ (.slice Ao31 x3_1.length co31 : Value).ownBlock) (fun _ => False) rfl rfl ?aO ?aR (fun _ _ h => h) (fun _ h => h.elim) ?aF ?aB ?aS ?aL ?_
                (case aR => repeat (first | exact (by repeat (first | (with_reducible exact HR304.out) | (with_reducible refine Kd.C_alloc ?_ _) | (with_reducible refine Kd.C_drewN ?_ _) | (with_reducible refine Kd.C_drew ?_) | exact HR304.out)) | (with_reducible refine Kd.C_alloc ?_ _) | (with_reducible refine Kd.C_drewN ?_ _) | (with_reducible refine Kd.C_drew ?_)))
                (case aB => exact bh13_6)
                (case aF => exact (fun k_ hk => Kd.fresh' (Kd.R_lt (by (with_reducible repeat (first | apply Kd.R_alloc | apply Kd.R_drewN | apply Kd.R_drew)); exact HO_3.out)) k_ hk))
                (case aO => exact (by (with_reducible repeat (first | apply Kd.R_alloc | apply Kd.R_drewN | apply Kd.R_drew)); exact Kd.R_mono HO300.out (fun _ hk => hk.2)))
                (case aS => exact bz13_1)
                (case aL => have := LMc27.out; omega)
                intro v306 w37 ho hb hg hat
                rw [← Ny305.out] at ho
                have n0_ := Aside0.mk (Kd.R_after (ok := (fun _ => True)) (by (with_reducible repeat (first | apply Kd.R_alloc | apply Kd.R_drewN | apply Kd.R_drew)); exact HO_3.out) hg hat)
                have n1_ := Aside0.mk (hb)
                have n2_ := Aside0.mk ((show Kd.C (Kd.int .i64) w37 Ao31 y293.length y293 from by rw [Ny293.out]; exact Kd.C_take (m := (x5_7 : Int).toNat) ((Kd.R_reads' (Kd.R_after (ok := (fun _ => True)) (by (with_reducible repeat (first | apply Kd.R_alloc | apply Kd.R_drewN | apply Kd.R_drew)); exact HO_3.out) hg hat)).2.2) KL33.out))
                have n3_ := Aside0.mk ((show Kd.C (Kd.int .i64) w37 A34 y301.length y301 from by rw [Ny301.out, KA34.out]; exact Kd.C_drop (m := (x5_7 : Int).toNat) (c := co31) ((Kd.R_reads' (Kd.R_after (ok := (fun _ => True)) (by (with_reducible repeat (first | apply Kd.R_alloc | apply Kd.R_drewN | apply Kd.R_drew)); exact HO_3.out) hg hat)).2.2) KL34.out ((Kd.R_reads' (Kd.R_after (ok := (fun _ => True)) (by (with_reducible repeat (first | apply Kd.R_alloc | apply Kd.R_drewN | apply Kd.R_drew)); exact HO_3.out) hg hat)).2.1)))
                have n4_ := Aside0.mk (ho)
                clear HO_3
                clear HB
                clear HR296
                clear HR304
                clear HO300
                have HO_3 := n0_
                have HB := n1_
                have HR296 := n2_
                have HR304 := n3_
                have HO307 := n4_
                clear n0_ n1_ n2_ n3_ n4_
                clear ho hb hg hat
                obtain ⟨Ao39, co39, eo39⟩ := Kd.R_slice HO307.out
                (first | subst eo39 | (injection eo39 with f1_ f2_ f3_; have f4_ := f1_.symm; have f5_ := f3_.symm; clear f1_ f2_ f3_; subst f4_; subst f5_))
                refine hK.out _ _ ⟨((HB.out.cell (World.block_lt_of_cell? w _ hw297_0)).trans hw297_0), ((HB.out.cell (World.block_lt_of_cell? w _ hw297_1)).trans hw297_1), ((HB.out.cell (World.block_lt_of_cell? w _ hw297_2)).trans hw297_2), ((HB.out.cell (World.block_lt_of_cell? w _ hw297_3)).trans hw297_3), ((HB.out.cell (World.block_lt_of_cell? w _ hw297_4)).trans hw297_4)⟩ (fun hHeld => ?_)
                clear hK K
                refine nm_ ?_
                refine on_ 14 71 HT_ (fun K hK => ?_)
                refine Kd.R_append_cut_step (Kd.int .i64) (w0 := w) w.heap.size (by rfl) (.tmp 60) (.tmp 70) 34 3 (.int .i64 0) 8 rfl Tryz.underlying34 info3 rfl (by decide) (by omega) _ _ y293 y305 _ _ _ (fun k_ => some k_ ≠ (.slice Ao31 x3_1.length co31 : Value).ownBlock ∧ some k_ ≠ (.slice Ao39 y305.length co39 : Value).ownBlock) (fun _ => False) rfl rfl ?aX (fun _ _ h => h) ?aR (fun _ _ h => h) (fun _ h => h.elim) ?aF ?aN ?aB ?aS ?aL ?_
                (case aX => repeat (first | exact (by repeat (first | (with_reducible exact HR296.out) | (with_reducible refine Kd.C_alloc ?_ _) | (with_reducible refine Kd.C_drewN ?_ _) | (with_reducible refine Kd.C_drew ?_) | exact HR296.out)) | (with_reducible refine Kd.C_alloc ?_ _) | (with_reducible refine Kd.C_drewN ?_ _) | (with_reducible refine Kd.C_drew ?_)))
                (case aN => have h_ := (of_decide_eq_true bb13_4 : (0 : Int) < (y305.length : Int)); omega)
                (case aR => repeat (first | exact (Kd.R_reads' HO307.out).2.2 | (with_reducible refine Kd.C_alloc ?_ _) | (with_reducible refine Kd.C_drewN ?_ _) | (with_reducible refine Kd.C_drew ?_)))
                (case aB => exact bh13_6)
                (case aF => exact (fun k_ hk => ⟨Kd.fresh' (Kd.R_lt (by (with_reducible repeat (first | apply Kd.R_alloc | apply Kd.R_drewN | apply Kd.R_drew)); exact HO_3.out)) k_ hk, Kd.fresh' (Kd.R_lt br13_2) k_ hk⟩))
                (case aS => exact bz13_1)
                (case aL => have := LMc29.out; omega)
                intro v309 w38 ho hb hg hat
                rw [← Ny308.out] at ho
                replace HO307 := Aside0.mk (Kd.R_after (Kd.R_apart_nil br13_2) hg hat)
                replace HB := Aside0.mk (hb)
                replace HR296 := Aside0.mk ((show Kd.C (Kd.int .i64) w38 Ao31 y293.length y293 from by rw [Ny293.out]; exact Kd.C_take (m := (x5_7 : Int).toNat) ((Kd.R_reads' (Kd.R_after (Kd.R_apart_nil (by (with_reducible repeat (first | apply Kd.R_alloc | apply Kd.R_drewN | apply Kd.R_drew)); exact HO_3.out)) hg hat)).2.2) KL33.out))
                replace HR304 := Aside0.mk ((show Kd.C (Kd.int .i64) w38 A34 y301.length y301 from by rw [Ny301.out, KA34.out]; exact Kd.C_drop (m := (x5_7 : Int).toNat) (c := co31) ((Kd.R_reads' (Kd.R_after (Kd.R_apart_nil (by (with_reducible repeat (first | apply Kd.R_alloc | apply Kd.R_drewN | apply Kd.R_drew)); exact HO_3.out)) hg hat)).2.2) KL34.out ((Kd.R_reads' (Kd.R_after (Kd.R_apart_nil (by (with_reducible repeat (first | apply Kd.R_alloc | apply Kd.R_drewN | apply Kd.R_drew)); exact HO_3.out)) hg hat)).2.1)))
                replace HO_3 := Aside0.mk (Kd.R_after (Kd.R_apart_nil (by (with_reducible repeat (first | apply Kd.R_alloc | apply Kd.R_drewN | apply Kd.R_drew)); exact HO_3.out)) hg hat)
                have HO310 := Aside0.mk (ho)
                clear ho hb hg hat
                refine hK.out _ _ ⟨((HB.out.cell (World.block_lt_of_cell? w _ hw297_0)).trans hw297_0), ((HB.out.cell (World.block_lt_of_cell? w _ hw297_1)).trans hw297_1), ((HB.out.cell (World.block_lt_of_cell? w _ hw297_2)).trans hw297_2), ((HB.out.cell (World.block_lt_of_cell? w _ hw297_3)).trans hw297_3), ((HB.out.cell (World.block_lt_of_cell? w _ hw297_4)).trans hw297_4)⟩ (fun hHeld => ?_)
                clear hK K
                refine nm_ ?_; refine pv_ 15 3 HT_ ?_; refine dn_ HT_ ?_
                try go_wp2
                go_roundg kj7
                case measure => have := HK1.out; have := HJ2.out; have := HJ7.out; omega
                case rel => exact ⟨(y308), (wrap64 (x4_1 + 1)), bd13_5, H', ⟨by have := HK1.out; have := HJ2.out; have := HJ7.out; omega⟩, ⟨by (with_reducible repeat (first | apply Kd.R_alloc | apply Kd.R_drewN | apply Kd.R_drew)); exact Kd.R_mono HO310.out (fun _ hk => trivial)⟩, ⟨by repeat (first | (with_reducible first | exact HB.out | apply below_alloc | apply pw_below_drewN | apply below_drew1) | exact HB.out)⟩⟩
              rw [if_neg c20] at H
              have c20b0 := beq_eq_false_iff_ne.mpr c20
              have c20b1 := bne_iff_ne.mpr c20
              obtain ⟨c40, H⟩ := itS H
              have c40b0 := decide_eq_true c40
              clear c40
              obtain ⟨c41, H⟩ := itS H
              have c41b0 := decide_eq_true c41
              clear c41
              obtain ⟨c42, H⟩ := itS H
              have c42b0 := decide_eq_true c42
              clear c42
              obtain ⟨c43, H⟩ := itS H
              have c43b0 := decide_eq_true c43
              clear c43
              by_cases c44 : (rd x3_1 x5_7) = ((rd_T48 l0 x4_1).f1)
              · rw [if_pos c44] at H
                have c44b0 := beq_iff_eq.mpr c44
                have c44b1 := bne_eq_false_iff_eq.mpr c44
                clear c44
                have H' := Aside0.mk H
                clear H
                try go_wp2
                replace HO_3 := Aside0.mk (Kd.R_drew HO_3.out)
                replace HB := Aside0.mk (below_drew1 HB.out)
                obtain ⟨Ao46, co46, eo46⟩ := Kd.R_slice HO_3.out
                (first | subst eo46 | (injection eo46 with f1_ f2_ f3_; have f4_ := f1_.symm; have f5_ := f3_.symm; clear f1_ f2_ f3_; subst f4_; subst f5_))
                have p291 : 0 ≤ (x5_7 : Int) := of_decide_eq_true bb13_4
                have q291 : x5_7 < (x3_1.length : Int) := of_decide_eq_true bb13_4
                obtain ⟨ad291, e291, hx291_0⟩ := Kd.at_int (Kd.R_reads' HO_3.out).2.2 x5_7 p291 q291
                cases e291
                replace p291 := eq_true p291
                replace q291 := eq_true q291
                have p292 : 0 ≤ (x4_1 : Int) := of_decide_eq_true bb13_4
                have q292 : x4_1 < (l0.length : Int) := of_decide_eq_true bb13_4
                obtain ⟨ad292, e292, hx292_0, hx292_1, hx292_2, hx292_3, hx292_4⟩ := at_T48 HR0.out x4_1 p292 q292
                have hw292_4 := hx292_4
                have hw292_3 := hx292_3
                have hw292_2 := hx292_2
                have hw292_1 := hx292_1
                have hw292_0 := hx292_0
                cases e292
                replace hx292_0 := (HB.out.cell (World.block_lt_of_cell? w _ hx292_0)).trans hx292_0
                replace hx292_1 := (HB.out.cell (World.block_lt_of_cell? w _ hx292_1)).trans hx292_1
                replace hx292_2 := (HB.out.cell (World.block_lt_of_cell? w _ hx292_2)).trans hx292_2
                replace hx292_3 := (HB.out.cell (World.block_lt_of_cell? w _ hx292_3)).trans hx292_3
                replace hx292_4 := (HB.out.cell (World.block_lt_of_cell? w _ hx292_4)).trans hx292_4
                replace p292 := eq_true p292
                replace q292 := eq_true q292
                refine start_ (n := 16) (S := fun w' => w'.cell? (ad291.add (x5_7).toNat) = some (.int .i64 (rd x3_1 x5_7)) ∧ w'.cell? (ad292.add ((x4_1).toNat * 5)) = some (.int .i64 ((rd_T48 l0 x4_1).f0)) ∧ w'.cell? ⟨(ad292.add ((x4_1).toNat * 5)).block, (ad292.add ((x4_1).toNat * 5)).off + 1, none⟩ = some (.int .i64 ((rd_T48 l0 x4_1).f1)) ∧ w'.cell? ⟨(ad292.add ((x4_1).toNat * 5)).block, (ad292.add ((x4_1).toNat * 5)).off + 2, none⟩ = some (.int .i64 ((rd_T48 l0 x4_1).f2)) ∧ w'.cell? ⟨(ad292.add ((x4_1).toNat * 5)).block, (ad292.add ((x4_1).toNat * 5)).off + 3, none⟩ = some (.int .i64 ((rd_T48 l0 x4_1).f3)) ∧ w'.cell? ⟨(ad292.add ((x4_1).toNat * 5)).block, (ad292.add ((x4_1).toNat * 5)).off + 4, none⟩ = some (.int .u64 ((rd_T48 l0 x4_1).f4))) (ds := []) #[false, false, false, false, false, false, false, false, false, false, false, false, false, false, false, false] (by kernel_rfl) rfl rfl ⟨hx291_0, ((HB.out.cell (World.block_lt_of_cell? w _ hw292_0)).trans hw292_0), ((HB.out.cell (World.block_lt_of_cell? w _ hw292_1)).trans hw292_1), ((HB.out.cell (World.block_lt_of_cell? w _ hw292_2)).trans hw292_2), ((HB.out.cell (World.block_lt_of_cell? w _ hw292_3)).trans hw292_3), ((HB.out.cell (World.block_lt_of_cell? w _ hw292_4)).trans hw292_4)⟩ (fun hHeld => ?_); refine with_tabW remontoirref27_Jobs.tab9 remontoirref27_Jobs.bits9 (fun HT_ HW_ => ?_)
                generalize wc.drew = w45 at HO_3 HB hx291_0 hx292_0 hx292_1 hx292_2 hx292_3 hx292_4 hHeld ⊢
                refine pv_ 0 41 HT_ ?_; refine pv_ 1 42 HT_ ?_; refine pv_ 2 43 HT_ ?_; refine pv_ 3 44 HT_ ?_; refine pv_ 4 45 HT_ ?_; refine pv_ 5 46 HT_ ?_; refine pv_ 6 47 HT_ ?_; refine pv_ 7 48 HT_ ?_; refine pv_ 9 50 HT_ ?_; refine pv_ 10 51 HT_ ?_; refine pv_ 11 52 HT_ ?_; refine pv_ 12 53 HT_ ?_; refine tk_ 8 49 HT_ HW_ hHeld ?_; refine tk_ 13 54 HT_ HW_ hHeld ?_; refine pv_ 14 55 HT_ ?_; refine pv_ 15 56 HT_ ?_; refine dn_ HT_ ?_
                try go_wp2
                go_roundg kj7
                case measure => have := HK1.out; have := HJ2.out; have := HJ7.out; omega
                case rel => exact ⟨(x3_1), (wrap64 (x4_1 + 1)), bd13_5, H', ⟨by have := HK1.out; have := HJ2.out; have := HJ7.out; omega⟩, ⟨by (with_reducible repeat (first | apply Kd.R_alloc | apply Kd.R_drewN | apply Kd.R_drew)); exact HO_3.out⟩, ⟨by repeat (first | (with_reducible first | exact HB.out | apply below_alloc | apply pw_below_drewN | apply below_drew1) | exact HB.out)⟩⟩
              rw [if_neg c44] at H
              have c44b0 := beq_eq_false_iff_ne.mpr c44
              have c44b1 := bne_iff_ne.mpr c44
              have c47b0 := eq_true (of_decide_eq_true bb13_4 : 0 ≤ x5_7)
              obtain ⟨c48b0, c48b1, H⟩ := itF H
              obtain ⟨y311, hy311⟩ : ∃ y_ : List Int, y_ = (x3_1.take (x5_7 : Int).toNat) := ⟨_, rfl⟩
              replace H : ((some (([(rd_T48 l0 x4_1).f1] : List Int) : List Int)).bind fun y316 => ((some (x3_1.drop (x5_7 : Int).toNat : List Int)).bind fun y319 => (if y316.length + y319.length < 17592186044416 then ((some (y316 ++ y319 : List Int)).bind fun y323 => (if 0 < (y323.length : Int) then (if y311.length + y323.length < 17592186044416 then (remontoirref27_Jobs.l0 kj7 l0 (y311 ++ y323) (wrap64 (x4_1 + 1))) else (none)) else (none))) else (none)))) = some r := by first | (rw [hy311]; with_reducible exact H) | (have H2_ := (Option.bind_some _ _).symm.trans H; rw [hy311]; with_reducible exact H2_) | (have H2_ := (Option.bind_some _ _).symm.trans H; with_reducible exact H2_) | with_reducible exact H | (rw [hy311]; exact H) | exact H
              have Ny311 := Aside0.mk hy311
              clear hy311
              obtain ⟨y316, Ny316, H⟩ := nmA H
              have c49b0 := eq_true (of_decide_eq_true bb13_4 : 0 ≤ x5_7)
              have c50b0 := eq_true (of_decide_eq_true bb13_4 : x5_7 ≤ (x3_1.length : Int))
              obtain ⟨y319, Ny319, H⟩ := nmA H
              obtain ⟨LMc51, H⟩ := itL H
              obtain ⟨y323, Ny323, H⟩ := nmA H
              obtain ⟨c52b0, c52b1, H⟩ := itF H
              obtain ⟨LMc53, H⟩ := itL H
              obtain ⟨y326, hy326⟩ : ∃ y_ : List Int, y_ = (y311 ++ y323) := ⟨_, rfl⟩
              replace H : (remontoirref27_Jobs.l0 kj7 l0 y326 (wrap64 (x4_1 + 1))) = some r := by first | (rw [hy326]; with_reducible exact H) | (have H2_ := (Option.bind_some _ _).symm.trans H; rw [hy326]; with_reducible exact H2_) | (have H2_ := (Option.bind_some _ _).symm.trans H; with_reducible exact H2_) | with_reducible exact H | (rw [hy326]; exact H) | exact H
              have Ny326 := Aside0.mk hy326
              clear hy326
              have H' := Aside0.mk H
              clear H
              try go_wp2
              replace HO_3 := Aside0.mk (Kd.R_drew HO_3.out)
              replace HB := Aside0.mk (below_drew1 HB.out)
              obtain ⟨Ao55, co55, eo55⟩ := Kd.R_slice HO_3.out
              (first | subst eo55 | (injection eo55 with f1_ f2_ f3_; have f4_ := f1_.symm; have f5_ := f3_.symm; clear f1_ f2_ f3_; subst f4_; subst f5_))
              have p291 : 0 ≤ (x5_7 : Int) := of_decide_eq_true bb13_4
              have q291 : x5_7 < (x3_1.length : Int) := of_decide_eq_true bb13_4
              obtain ⟨ad291, e291, hx291_0⟩ := Kd.at_int (Kd.R_reads' HO_3.out).2.2 x5_7 p291 q291
              cases e291
              replace p291 := eq_true p291
              replace q291 := eq_true q291
              have p292 : 0 ≤ (x4_1 : Int) := of_decide_eq_true bb13_4
              have q292 : x4_1 < (l0.length : Int) := of_decide_eq_true bb13_4
              obtain ⟨ad292, e292, hx292_0, hx292_1, hx292_2, hx292_3, hx292_4⟩ := at_T48 HR0.out x4_1 p292 q292
              have hw292_4 := hx292_4
              have hw292_3 := hx292_3
              have hw292_2 := hx292_2
              have hw292_1 := hx292_1
              have hw292_0 := hx292_0
              cases e292
              replace hx292_0 := (HB.out.cell (World.block_lt_of_cell? w _ hx292_0)).trans hx292_0
              replace hx292_1 := (HB.out.cell (World.block_lt_of_cell? w _ hx292_1)).trans hx292_1
              replace hx292_2 := (HB.out.cell (World.block_lt_of_cell? w _ hx292_2)).trans hx292_2
              replace hx292_3 := (HB.out.cell (World.block_lt_of_cell? w _ hx292_3)).trans hx292_3
              replace hx292_4 := (HB.out.cell (World.block_lt_of_cell? w _ hx292_4)).trans hx292_4
              replace p292 := eq_true p292
              replace q292 := eq_true q292
              refine start_ (n := 16) (S := fun w' => w'.cell? (ad291.add (x5_7).toNat) = some (.int .i64 (rd x3_1 x5_7)) ∧ w'.cell? (ad292.add ((x4_1).toNat * 5)) = some (.int .i64 ((rd_T48 l0 x4_1).f0)) ∧ w'.cell? ⟨(ad292.add ((x4_1).toNat * 5)).block, (ad292.add ((x4_1).toNat * 5)).off + 1, none⟩ = some (.int .i64 ((rd_T48 l0 x4_1).f1)) ∧ w'.cell? ⟨(ad292.add ((x4_1).toNat * 5)).block, (ad292.add ((x4_1).toNat * 5)).off + 2, none⟩ = some (.int .i64 ((rd_T48 l0 x4_1).f2)) ∧ w'.cell? ⟨(ad292.add ((x4_1).toNat * 5)).block, (ad292.add ((x4_1).toNat * 5)).off + 3, none⟩ = some (.int .i64 ((rd_T48 l0 x4_1).f3)) ∧ w'.cell? ⟨(ad292.add ((x4_1).toNat * 5)).block, (ad292.add ((x4_1).toNat * 5)).off + 4, none⟩ = some (.int .u64 ((rd_T48 l0 x4_1).f4))) (ds := []) #[false, false, false, false, false, false, false, false, false, false, false, false, false, false, false, false] (by kernel_rfl) rfl rfl ⟨hx291_0, ((HB.out.cell (World.block_lt_of_cell? w _ hw292_0)).trans hw292_0), ((HB.out.cell (World.block_lt_of_cell? w _ hw292_1)).trans hw292_1), ((HB.out.cell (World.block_lt_of_cell? w _ hw292_2)).trans hw292_2), ((HB.out.cell (World.block_lt_of_cell? w _ hw292_3)).trans hw292_3), ((HB.out.cell (World.block_lt_of_cell? w _ hw292_4)).trans hw292_4)⟩ (fun hHeld => ?_); refine with_tabW remontoirref27_Jobs.tab9 remontoirref27_Jobs.bits9 (fun HT_ HW_ => ?_)
              generalize wc.drew = w54 at HO_3 HB hx291_0 hx292_0 hx292_1 hx292_2 hx292_3 hx292_4 hHeld ⊢
              refine pv_ 0 41 HT_ ?_; refine pv_ 1 42 HT_ ?_; refine pv_ 2 43 HT_ ?_; refine pv_ 3 44 HT_ ?_; refine pv_ 4 45 HT_ ?_; refine pv_ 5 46 HT_ ?_; refine pv_ 6 47 HT_ ?_; refine pv_ 7 48 HT_ ?_; refine pv_ 9 50 HT_ ?_; refine pv_ 10 51 HT_ ?_; refine pv_ 11 52 HT_ ?_; refine pv_ 12 53 HT_ ?_; refine tk_ 8 49 HT_ HW_ hHeld ?_; refine tk_ 13 54 HT_ HW_ hHeld ?_; refine pv_ 14 55 HT_ ?_; refine pv_ 15 56 HT_ ?_; refine dn_ HT_ ?_
              try go_wp2
              replace HO_3 := Aside0.mk (Kd.R_drew HO_3.out)
              replace HB := Aside0.mk (below_drew1 HB.out)
              have q57 : (x5_7 : Int) ≤ ((x3_1.length : Int) : Int) := of_decide_eq_true bb13_4
              obtain ⟨i057, hi057, _, hsz57, _⟩ := info_parts info3
              have hroom57 : x3_1.length ≤ co55 := (Kd.R_reads' HO_3.out).2.1
              have hC57 : Kd.C (Kd.int .i64) _ (some ad291) x3_1.length x3_1 := (Kd.R_reads' HO_3.out).2.2
              have hcut57 := cut_to3 (P := Tryz.prog) 34 3 .i64 Tryz.underlying34 hi057 (some ad291) x3_1.length co55 x5_7 (of_decide_eq_true bb13_4) q57 hroom57
              have hr57 := Kd.C_take (m := (x5_7 : Int).toNat) hC57 (by omega)
              have hy57 : y311.length = (x5_7 : Int).toNat := (by rw [Ny311.out, List.length_take]; omega)
              rw [← Ny311.out] at hr57
              rw [← hy57] at hcut57
              have HR314 := Aside0.mk hr57
              have HC314 := Aside0.mk (show y311.length ≤ y311.length from by omega)
              clear hr57 hC57 hroom57 hi057 hsz57
              have KY57 := Aside0.mk hy57
              clear hy57
              have KL57 := Aside0.mk (show (x5_7 : Int).toNat ≤ x3_1.length from by omega)
              replace q57 := eq_true q57
              have p315 : 0 ≤ (x4_1 : Int) := of_decide_eq_true bb13_4
              have q315 : x4_1 < (l0.length : Int) := of_decide_eq_true bb13_4
              obtain ⟨ad315, e315, hx315_0, hx315_1, hx315_2, hx315_3, hx315_4⟩ := at_T48 HR0.out x4_1 p315 q315
              have hw315_4 := hx315_4
              have hw315_3 := hx315_3
              have hw315_2 := hx315_2
              have hw315_1 := hx315_1
              have hw315_0 := hx315_0
              obtain rfl : ad292 = ad315 := (by injection e315)
              replace hx315_0 := (HB.out.cell (World.block_lt_of_cell? w _ hx315_0)).trans hx315_0
              replace hx315_1 := (HB.out.cell (World.block_lt_of_cell? w _ hx315_1)).trans hx315_1
              replace hx315_2 := (HB.out.cell (World.block_lt_of_cell? w _ hx315_2)).trans hx315_2
              replace hx315_3 := (HB.out.cell (World.block_lt_of_cell? w _ hx315_3)).trans hx315_3
              replace hx315_4 := (HB.out.cell (World.block_lt_of_cell? w _ hx315_4)).trans hx315_4
              replace p315 := eq_true p315
              replace q315 := eq_true q315
              have q58 : (x5_7 : Int) ≤ ((x3_1.length : Int) : Int) := of_decide_eq_true bb13_4
              obtain ⟨i058, hi058, _, hsz58, _⟩ := info_parts info3
              have hroom58 : x3_1.length ≤ co55 := (Kd.R_reads' HO_3.out).2.1
              have hC58 : Kd.C (Kd.int .i64) _ (some ad291) x3_1.length x3_1 := (Kd.R_reads' HO_3.out).2.2
              have q058 : (0 : Int) ≤ (x5_7 : Int) := of_decide_eq_true bb13_4
              have hcut58 := cut_from (P := Tryz.prog) 34 3 .i64 Tryz.underlying34 hi058 1 hsz58 (some ad291) x3_1.length co55 x5_7 q058 q58
              have hr58 := Kd.C_drop (m := (x5_7 : Int).toNat) (c := co55) hC58 (by omega) hroom58
              obtain ⟨A58, hA58⟩ : ∃ A1_, A1_ = (if co55 = (x5_7 : Int).toNat then (some ad291) else ((some ad291) : Option Addr).map (·.add ((x5_7 : Int).toNat * 1))) := ⟨_, rfl⟩
              obtain ⟨c58, hc58⟩ : ∃ c1_, c1_ = co55 - (x5_7 : Int).toNat := ⟨_, rfl⟩
              have hy58 : y319.length = x3_1.length - (x5_7 : Int).toNat := (by rw [Ny319.out, List.length_drop] <;> omega)
              rw [show (x3_1).drop (x5_7 : Int).toNat = y319 from Ny319.out.symm] at hr58
              replace hr58 : Kd.C (Kd.int .i64) _ A58 y319.length y319 := (by rw [hA58]; exact hr58)
              rw [← hy58, ← hA58, ← hc58] at hcut58
              have HR322 := Aside0.mk hr58
              have HC322 := Aside0.mk (show y319.length ≤ c58 from by rw [hy58, hc58]; exact Nat.sub_le_sub_right hroom58 _)
              clear hr58 hC58 hroom58 hi058 hsz58 hc58
              have KY58 := Aside0.mk hy58
              have KA58 := Aside0.mk hA58
              clear hy58 hA58
              have KL58 := Aside0.mk (show (x5_7 : Int).toNat ≤ x3_1.length from by omega)
              replace q58 := eq_true q58
              refine start_ (n := 16) (S := fun w' => w'.cell? (ad292.add ((x4_1).toNat * 5)) = some (.int .i64 ((rd_T48 l0 x4_1).f0)) ∧ w'.cell? ⟨(ad292.add ((x4_1).toNat * 5)).block, (ad292.add ((x4_1).toNat * 5)).off + 1, none⟩ = some (.int .i64 ((rd_T48 l0 x4_1).f1)) ∧ w'.cell? ⟨(ad292.add ((x4_1).toNat * 5)).block, (ad292.add ((x4_1).toNat * 5)).off + 2, none⟩ = some (.int .i64 ((rd_T48 l0 x4_1).f2)) ∧ w'.cell? ⟨(ad292.add ((x4_1).toNat * 5)).block, (ad292.add ((x4_1).toNat * 5)).off + 3, none⟩ = some (.int .i64 ((rd_T48 l0 x4_1).f3)) ∧ w'.cell? ⟨(ad292.add ((x4_1).toNat * 5)).block, (ad292.add ((x4_1).toNat * 5)).off + 4, none⟩ = some (.int .u64 ((rd_T48 l0 x4_1).f4))) (ds := []) #[false, false, false, false, false, false, false, false, false, false, false, false, false, false, false, false] (by kernel_rfl) rfl rfl ⟨((HB.out.cell (World.block_lt_of_cell? w _ hw315_0)).trans hw315_0), ((HB.out.cell (World.block_lt_of_cell? w _ hw315_1)).trans hw315_1), ((HB.out.cell (World.block_lt_of_cell? w _ hw315_2)).trans hw315_2), ((HB.out.cell (World.block_lt_of_cell? w _ hw315_3)).trans hw315_3), ((HB.out.cell (World.block_lt_of_cell? w _ hw315_4)).trans hw315_4)⟩ (fun hHeld => ?_); refine with_tabW remontoirref27_Jobs.tab10 remontoirref27_Jobs.bits10 (fun HT_ HW_ => ?_)
              generalize w54.drew = w56 at HO_3 HB HR314 HR322 hx315_0 hx315_1 hx315_2 hx315_3 hx315_4 hHeld ⊢
              refine pv_ 0 57 HT_ ?_; refine pv_ 1 58 HT_ ?_; refine pv_ 2 59 HT_ ?_; refine pv_ 3 60 HT_ ?_; refine pv_ 4 61 HT_ ?_; refine pv_ 5 62 HT_ ?_; refine pv_ 6 63 HT_ ?_; refine pv_ 7 64 HT_ ?_; refine pv_ 10 67 HT_ ?_; refine pv_ 11 68 HT_ ?_; refine pv_ 12 69 HT_ ?_; refine tk_ 8 65 HT_ HW_ hHeld ?_
              refine on_ 9 66 HT_ (fun K hK => ?_)
              refine Kd.R_lit_step (Kd.int .i64) _ 3 ?hg (N := 66) ?hd (xs := ([(rd_T48 l0 x4_1).f1] : List Int)) (inner := [.int .i64 ((rd_T48 l0 x4_1).f1)]) (ok := fun _ => True) (okp := fun _ => True) ?hr ?hp (fun _ hk => hk) trivial (Below.refl _ _) (Nat.le_refl _) (by simp) ?_; (case hd => rfl); (case hg => rfl); (case hr => first | (go_simp; done) | (go_simp; rfl)); (case hp => exact (Reps.one (show Kd.M (Kd.int .i64) _ _ _ ((rd_T48 l0 x4_1).f1) [.int .i64 ((rd_T48 l0 x4_1).f1)] from rfl) (Reps.none _ _)))
              intro v317 w59 ho60 hb hg_ hnew_
              clear hg_ hnew_
              (first | rw [← Ny316.out] at ho60 | (simp only [Int.reduceToNat] at ho60; rw [← Ny316.out] at ho60))
              have HO318 := Aside0.mk (Kd.R_lower (Kd.R_new' ho60 (Kd.R_lt (by (with_reducible repeat (first | apply Kd.R_alloc | apply Kd.R_drewN | apply Kd.R_drew)); exact HO_3.out))) bz13_1)
              replace HO_3 := Aside0.mk (Kd.R_elder' (by (with_reducible repeat (first | apply Kd.R_alloc | apply Kd.R_drewN | apply Kd.R_drew)); exact HO_3.out) (Kd.R_base ho60) hb)
              replace HR314 := Aside0.mk (Kd.C_below (by repeat (first | (with_reducible exact HR314.out) | (with_reducible refine Kd.C_alloc ?_ _) | (with_reducible refine Kd.C_drewN ?_ _) | (with_reducible refine Kd.C_drew ?_) | exact HR314.out)) hb)
              replace HR322 := Aside0.mk (Kd.C_below (by repeat (first | (with_reducible exact HR322.out) | (with_reducible refine Kd.C_alloc ?_ _) | (with_reducible refine Kd.C_drewN ?_ _) | (with_reducible refine Kd.C_drew ?_) | exact HR322.out)) hb)
              replace HB := Aside0.mk (bs13_0 hb)
              clear hb ho60
              refine hK.out _ _ ⟨((HB.out.cell (World.block_lt_of_cell? w _ hw315_0)).trans hw315_0), ((HB.out.cell (World.block_lt_of_cell? w _ hw315_1)).trans hw315_1), ((HB.out.cell (World.block_lt_of_cell? w _ hw315_2)).trans hw315_2), ((HB.out.cell (World.block_lt_of_cell? w _ hw315_3)).trans hw315_3), ((HB.out.cell (World.block_lt_of_cell? w _ hw315_4)).trans hw315_4)⟩ (fun hHeld => ?_)
              clear hK K
              refine nm_ ?_
              refine on_ 13 70 HT_ (fun K hK => ?_)
              refine Kd.R_append_rows_step (Kd.int .i64) (w0 := w) w.heap.size (by rfl) (.tmp 66) (.tmp 69) 34 3 (.int .i64 0) 8 rfl Tryz.underlying34 info3 rfl (by decide) (by omega) v317 y316 y319 _ _ _ (fun k_ => some k_ ≠ (.slice (some ad291) x3_1.length co55 : Value).ownBlock) (fun _ => False) rfl rfl ?aO ?aR (fun _ _ h => h) (fun _ h => h.elim) ?aF ?aB ?aS ?aL ?_
              (case aR => repeat (first | exact (by repeat (first | (with_reducible exact HR322.out) | (with_reducible refine Kd.C_alloc ?_ _) | (with_reducible refine Kd.C_drewN ?_ _) | (with_reducible refine Kd.C_drew ?_) | exact HR322.out)) | (with_reducible refine Kd.C_alloc ?_ _) | (with_reducible refine Kd.C_drewN ?_ _) | (with_reducible refine Kd.C_drew ?_)))
              (case aB => exact bh13_6)
              (case aF => exact (fun k_ hk => Kd.fresh' (Kd.R_lt (by (with_reducible repeat (first | apply Kd.R_alloc | apply Kd.R_drewN | apply Kd.R_drew)); exact HO_3.out)) k_ hk))
              (case aO => exact (by (with_reducible repeat (first | apply Kd.R_alloc | apply Kd.R_drewN | apply Kd.R_drew)); exact Kd.R_mono HO318.out (fun _ hk => hk.2)))
              (case aS => exact bz13_1)
              (case aL => have := LMc51.out; omega)
              intro v324 w61 ho hb hg hat
              rw [← Ny323.out] at ho
              have n0_ := Aside0.mk (Kd.R_after (ok := (fun _ => True)) (by (with_reducible repeat (first | apply Kd.R_alloc | apply Kd.R_drewN | apply Kd.R_drew)); exact HO_3.out) hg hat)
              have n1_ := Aside0.mk (hb)
              have n2_ := Aside0.mk ((show Kd.C (Kd.int .i64) w61 (some ad291) y311.length y311 from by rw [Ny311.out]; exact Kd.C_take (m := (x5_7 : Int).toNat) ((Kd.R_reads' (Kd.R_after (ok := (fun _ => True)) (by (with_reducible repeat (first | apply Kd.R_alloc | apply Kd.R_drewN | apply Kd.R_drew)); exact HO_3.out) hg hat)).2.2) KL57.out))
              have n3_ := Aside0.mk ((show Kd.C (Kd.int .i64) w61 A58 y319.length y319 from by rw [Ny319.out, KA58.out]; exact Kd.C_drop (m := (x5_7 : Int).toNat) (c := co55) ((Kd.R_reads' (Kd.R_after (ok := (fun _ => True)) (by (with_reducible repeat (first | apply Kd.R_alloc | apply Kd.R_drewN | apply Kd.R_drew)); exact HO_3.out) hg hat)).2.2) KL58.out ((Kd.R_reads' (Kd.R_after (ok := (fun _ => True)) (by (with_reducible repeat (first | apply Kd.R_alloc | apply Kd.R_drewN | apply Kd.R_drew)); exact HO_3.out) hg hat)).2.1)))
              have n4_ := Aside0.mk (ho)
              clear HO_3
              clear HB
              clear HR314
              clear HR322
              clear HO318
              have HO_3 := n0_
              have HB := n1_
              have HR314 := n2_
              have HR322 := n3_
              have HO325 := n4_
              clear n0_ n1_ n2_ n3_ n4_
              clear ho hb hg hat
              obtain ⟨Ao63, co63, eo63⟩ := Kd.R_slice HO325.out
              (first | subst eo63 | (injection eo63 with f1_ f2_ f3_; have f4_ := f1_.symm; have f5_ := f3_.symm; clear f1_ f2_ f3_; subst f4_; subst f5_))
              refine hK.out _ _ ⟨((HB.out.cell (World.block_lt_of_cell? w _ hw315_0)).trans hw315_0), ((HB.out.cell (World.block_lt_of_cell? w _ hw315_1)).trans hw315_1), ((HB.out.cell (World.block_lt_of_cell? w _ hw315_2)).trans hw315_2), ((HB.out.cell (World.block_lt_of_cell? w _ hw315_3)).trans hw315_3), ((HB.out.cell (World.block_lt_of_cell? w _ hw315_4)).trans hw315_4)⟩ (fun hHeld => ?_)
              clear hK K
              refine nm_ ?_
              refine on_ 14 71 HT_ (fun K hK => ?_)
              refine Kd.R_append_cut_step (Kd.int .i64) (w0 := w) w.heap.size (by rfl) (.tmp 60) (.tmp 70) 34 3 (.int .i64 0) 8 rfl Tryz.underlying34 info3 rfl (by decide) (by omega) _ _ y311 y323 _ _ _ (fun k_ => some k_ ≠ (.slice (some ad291) x3_1.length co55 : Value).ownBlock ∧ some k_ ≠ (.slice Ao63 y323.length co63 : Value).ownBlock) (fun _ => False) rfl rfl ?aX (fun _ _ h => h) ?aR (fun _ _ h => h) (fun _ h => h.elim) ?aF ?aN ?aB ?aS ?aL ?_
              (case aX => repeat (first | exact (by repeat (first | (with_reducible exact HR314.out) | (with_reducible refine Kd.C_alloc ?_ _) | (with_reducible refine Kd.C_drewN ?_ _) | (with_reducible refine Kd.C_drew ?_) | exact HR314.out)) | (with_reducible refine Kd.C_alloc ?_ _) | (with_reducible refine Kd.C_drewN ?_ _) | (with_reducible refine Kd.C_drew ?_)))
              (case aN => have h_ := (of_decide_eq_true bb13_4 : (0 : Int) < (y323.length : Int)); omega)
              (case aR => repeat (first | exact (Kd.R_reads' HO325.out).2.2 | (with_reducible refine Kd.C_alloc ?_ _) | (with_reducible refine Kd.C_drewN ?_ _) | (with_reducible refine Kd.C_drew ?_)))
              (case aB => exact bh13_6)
              (case aF => exact (fun k_ hk => ⟨Kd.fresh' (Kd.R_lt (by (with_reducible repeat (first | apply Kd.R_alloc | apply Kd.R_drewN | apply Kd.R_drew)); exact HO_3.out)) k_ hk, Kd.fresh' (Kd.R_lt br13_3) k_ hk⟩))
              (case aS => exact bz13_1)
              (case aL => have := LMc53.out; omega)
              intro v327 w62 ho hb hg hat
              rw [← Ny326.out] at ho
              replace HO325 := Aside0.mk (Kd.R_after (Kd.R_apart_nil br13_3) hg hat)
              replace HB := Aside0.mk (hb)
              replace HR314 := Aside0.mk ((show Kd.C (Kd.int .i64) w62 (some ad291) y311.length y311 from by rw [Ny311.out]; exact Kd.C_take (m := (x5_7 : Int).toNat) ((Kd.R_reads' (Kd.R_after (Kd.R_apart_nil (by (with_reducible repeat (first | apply Kd.R_alloc | apply Kd.R_drewN | apply Kd.R_drew)); exact HO_3.out)) hg hat)).2.2) KL57.out))
              replace HR322 := Aside0.mk ((show Kd.C (Kd.int .i64) w62 A58 y319.length y319 from by rw [Ny319.out, KA58.out]; exact Kd.C_drop (m := (x5_7 : Int).toNat) (c := co55) ((Kd.R_reads' (Kd.R_after (Kd.R_apart_nil (by (with_reducible repeat (first | apply Kd.R_alloc | apply Kd.R_drewN | apply Kd.R_drew)); exact HO_3.out)) hg hat)).2.2) KL58.out ((Kd.R_reads' (Kd.R_after (Kd.R_apart_nil (by (with_reducible repeat (first | apply Kd.R_alloc | apply Kd.R_drewN | apply Kd.R_drew)); exact HO_3.out)) hg hat)).2.1)))
              replace HO_3 := Aside0.mk (Kd.R_after (Kd.R_apart_nil (by (with_reducible repeat (first | apply Kd.R_alloc | apply Kd.R_drewN | apply Kd.R_drew)); exact HO_3.out)) hg hat)
              have HO328 := Aside0.mk (ho)
              clear ho hb hg hat
              refine hK.out _ _ ⟨((HB.out.cell (World.block_lt_of_cell? w _ hw315_0)).trans hw315_0), ((HB.out.cell (World.block_lt_of_cell? w _ hw315_1)).trans hw315_1), ((HB.out.cell (World.block_lt_of_cell? w _ hw315_2)).trans hw315_2), ((HB.out.cell (World.block_lt_of_cell? w _ hw315_3)).trans hw315_3), ((HB.out.cell (World.block_lt_of_cell? w _ hw315_4)).trans hw315_4)⟩ (fun hHeld => ?_)
              clear hK K
              refine nm_ ?_; refine pv_ 15 3 HT_ ?_; refine dn_ HT_ ?_
              try go_wp2
              go_roundg kj7
              case measure => have := HK1.out; have := HJ2.out; have := HJ7.out; omega
              case rel => exact ⟨(y326), (wrap64 (x4_1 + 1)), bd13_5, H', ⟨by have := HK1.out; have := HJ2.out; have := HJ7.out; omega⟩, ⟨by (with_reducible repeat (first | apply Kd.R_alloc | apply Kd.R_drewN | apply Kd.R_drew)); exact Kd.R_mono HO328.out (fun _ hk => trivial)⟩, ⟨by repeat (first | (with_reducible first | exact HB.out | apply below_alloc | apply pw_below_drewN | apply below_drew1) | exact HB.out)⟩⟩

end Go.Proofs.YtflnkchpfbcgiaaGreatDoor.Q
