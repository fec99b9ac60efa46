-- Written by this session's program xprint.py (which runs the kit's print with some functions given by hand). Lean checks it.
import Derived.Test.YtflnkchpfbcgiaaGreatDoorQx0
import Derived.Test.YtflnkchpfbcgiaaGreatDoorQx3
import Derived.Test.YtflnkchpfbcgiaaGreatDoorQx6
import Derived.Test.YtflnkchpfbcgiaaGreatDoorQx11
import Derived.Test.YtflnkchpfbcgiaaGreatDoorQx13
import Derived.Test.YtflnkchpfbcgiaaGreatDoorQx14
namespace Go.Proofs.YtflnkchpfbcgiaaGreatDoor.Q
open Go.RowKit Go.Proofs.YtflnkchpfbcgiaaGreatDoorW.PrintWords Go.Proofs.YtflnkchpfbcgiaaGreatDoorW.PrintLast Go.Proofs.YtflnkchpfbcgiaaGreatDoorW.PrintMore
attribute [local go_sem] max2_int min2_int max_two min_two max_three min_three max_four min_four   -- for this text's walks alone
set_option linter.unusedVariables false
set_option linter.unusedSimpArgs false
theorem bs15_0 {w W w2 : World} (k : Below W.heap.size W w2) (h : Below w.heap.size w W := by repeat (first | (with_reducible first | exact HB.out | apply below_alloc | apply pw_below_drewN | apply below_drew1) | exact HB.out)) : Below w.heap.size w w2 := below_step h k
theorem bs15_1 {w W w2 : World} (k : Below W.heap.size W w2) (h : Below w.heap.size w W := by repeat (first | (with_reducible first | exact HB.out | apply below_alloc | apply pw_below_drewN | apply below_drew1 | refine below_set ?_ GE335.out) | exact HB.out)) : Below w.heap.size w w2 := below_step h k
theorem bz15_2 {w W : World} (h : Below w.heap.size w W := by repeat (first | (with_reducible first | exact HB.out | apply below_alloc | apply pw_below_drewN | apply below_drew1) | exact HB.out)) : w.heap.size ≤ W.heap.size := below_size h
theorem bz15_3 {w W : World} (h : Below w.heap.size w W := by repeat (first | (with_reducible first | exact HB.out | apply below_alloc | apply pw_below_drewN | apply below_drew1 | refine below_set ?_ GE335.out) | exact HB.out)) : w.heap.size ≤ W.heap.size := below_size h
theorem bk15_4 {w w1 : World} {g : Nat} {o : Obj} (hb : Below w.heap.size w w1) (h : w.heap[g]? = some o := by (with_reducible repeat (first | refine blk_drewN ?_ _ | refine blk_drew ?_ | refine blk_alloc ?_ _)); exact BK335.out) : w1.heap[g]? = some o := blk_below h hb
theorem br15_5 {α : Type} {d : Kd α} {e : Nat} {w : World} {base : Nat} {ok : Nat → Prop} {v : Value} {xs : List α} (h : d.R e w base ok v xs := by (with_reducible repeat (first | apply Kd.R_alloc | apply Kd.R_drewN | apply Kd.R_drew)); exact HO340.out) : d.R e w base ok v xs := h
theorem br15_6 {α : Type} {d : Kd α} {e : Nat} {w : World} {base : Nat} {ok : Nat → Prop} {v : Value} {xs : List α} (h : d.R e w base ok v xs := by (with_reducible repeat (first | apply Kd.R_alloc | apply Kd.R_drewN | apply Kd.R_drew)); exact HO343.out) : d.R e w base ok v xs := h
theorem br15_7 {α : Type} {d : Kd α} {e : Nat} {w : World} {base : Nat} {ok : Nat → Prop} {v : Value} {xs : List α} (h : d.R e w base ok v xs := by (with_reducible repeat (first | apply Kd.R_alloc | apply Kd.R_drewN | apply Kd.R_drew)); exact HO347.out) : d.R e w base ok v xs := h
theorem br15_8 {α : Type} {d : Kd α} {e : Nat} {w : World} {base : Nat} {ok : Nat → Prop} {v : Value} {xs : List α} (h : d.R e w base ok v xs := by (with_reducible repeat (first | apply Kd.R_alloc | apply Kd.R_drewN | apply Kd.R_drew)); exact HO350.out) : d.R e w base ok v xs := h
theorem br15_9 {α : Type} {d : Kd α} {e : Nat} {w : World} {base : Nat} {ok : Nat → Prop} {v : Value} {xs : List α} (h : d.R e w base ok v xs := by (with_reducible repeat (first | apply Kd.R_alloc | apply Kd.R_drewN | apply Kd.R_drew)); exact HO354.out) : d.R e w base ok v xs := h
theorem br15_10 {α : Type} {d : Kd α} {e : Nat} {w : World} {base : Nat} {ok : Nat → Prop} {v : Value} {xs : List α} (h : d.R e w base ok v xs := by (with_reducible repeat (first | apply Kd.R_alloc | apply Kd.R_drewN | apply Kd.R_drew)); exact HO357.out) : d.R e w base ok v xs := h
theorem ba15_11 {p : Prop} (h : p := by (try simp only [List.map_toArray, List.map_cons, List.map_nil]); first | done | rfl | (simp only [List.length_drop, List.length_take]; rfl)) : p := h
theorem bh15_12 {w W : World} (h : Below w.heap.size w W := by repeat (first | (with_reducible first | exact HB.out | apply below_alloc | apply pw_below_drewN | apply below_drew1 | refine below_set ?_ GE335.out) | exact HB.out)) : Below w.heap.size w W := h


/-! ### remontoirlaw27_OrdersTell: function 3 -/
def remontoirlaw27_OrdersTell.j0 : Nat → List (S45) → List (S48) → Bool → ByteArray → List (S41) → List (S43) → Option (Bool)
  | 0, _, _, _, _, _, _ => none
  | k + 1, x1, x2, x19, x336000, x336001, x336002 => if x19 = true then ((remontoirlaw27_wakes.f k).bind fun t337 => (some t337)) else ((orders_Of.f k x336000 x336001 x336002 x1).bind fun t338 => ((remontoirref27_Of.f k x336000 x336001 x336002 x1).bind fun t341 => ((remontoirkeep_Orders.f k t338 t341).bind fun t344 => (if t344 = true then ((orders_Jobs.f k x2).bind fun t345 => ((remontoirref27_Jobs.f k x2).bind fun t348 => ((remontoirkeep_Ints.f k t345 t348).bind fun t351 => (if t351 = true then ((orders_Timers.f x2).bind fun t352 => ((remontoirref27_Timers.f k x2).bind fun t355 => ((remontoirkeep_Orders.f k t352 t355).bind fun t358 => (if t358 = true then ((remontoirlaw27_wakes.f k).bind fun t359 => (some t359)) else (none))))) else (none))))) else (none)))))
def remontoirlaw27_OrdersTell.f (k : Nat) (a0_0 : ByteArray) (l0_1 : List (S41)) (l0_2 : List (S43)) (l1 : List (S45)) (l2 : List (S48)) : Option (Bool) := (remontoirkeep_LightDef.f k a0_0 l0_1 l0_2).bind fun t336 => (if t336 = true then (if (l1.length : Int) > 80 then (remontoirlaw27_OrdersTell.j0 k l1 l2 true a0_0 l0_1 l0_2) else (remontoirlaw27_OrdersTell.j0 k l1 l2 (decide ((l2.length : Int) > 80)) a0_0 l0_1 l0_2)) else (remontoirlaw27_OrdersTell.j0 k l1 l2 true a0_0 l0_1 l0_2))
theorem remontoirlaw27_OrdersTell.mono_l : ∀ k, (∀ y0 y1 y2 y3 y4 y5, LeO (remontoirlaw27_OrdersTell.j0 k y0 y1 y2 y3 y4 y5) (remontoirlaw27_OrdersTell.j0 (k + 1) y0 y1 y2 y3 y4 y5))
  | 0 => fun _ _ _ _ _ _ r h => by simp [remontoirlaw27_OrdersTell.j0] at h
  | k + 1 => by
    have ih0 := remontoirlaw27_OrdersTell.mono_l k
    · intro y0 y1 y2 y3 y4 y5
      unfold remontoirlaw27_OrdersTell.j0
      repeat' first
      | (with_reducible exact ih0 _ _ _ _ _ _)
      | (with_reducible exact orders_Jobs.mono _ _)
      | (with_reducible exact orders_Of.mono _ _ _ _ _)
      | (with_reducible exact remontoirkeep_Ints.mono _ _ _)
      | (with_reducible exact remontoirkeep_LightDef.mono _ _ _ _)
      | (with_reducible exact remontoirkeep_Orders.mono _ _ _)
      | (with_reducible exact remontoirlaw27_wakes.mono _)
      | (with_reducible exact remontoirref27_Jobs.mono _ _)
      | (with_reducible exact remontoirref27_Of.mono _ _ _ _ _)
      | (with_reducible exact remontoirref27_Timers.mono _ _)
      | (with_reducible exact LeO.refl _)
      | (with_reducible exact LeO.none _)
      | (with_reducible refine LeO.ite ?_ ?_)
      | (with_reducible refine LeO.bind ?_ (fun _ => ?_))
      | exact ih0 _ _ _ _ _ _
      | exact orders_Jobs.mono _ _
      | exact orders_Of.mono _ _ _ _ _
      | exact remontoirkeep_Ints.mono _ _ _
      | exact remontoirkeep_LightDef.mono _ _ _ _
      | exact remontoirkeep_Orders.mono _ _ _
      | exact remontoirlaw27_wakes.mono _
      | exact remontoirref27_Jobs.mono _ _
      | exact remontoirref27_Of.mono _ _ _ _ _
      | exact remontoirref27_Timers.mono _ _
      | exact LeO.none _
      | refine LeO.ite ?_ ?_
      | refine LeO.bind ?_ (fun _ => ?_)
theorem remontoirlaw27_OrdersTell.mono : ∀ a0 a1 a2 a3 a4 k, LeO (remontoirlaw27_OrdersTell.f k a0 a1 a2 a3 a4) (remontoirlaw27_OrdersTell.f (k + 1) a0 a1 a2 a3 a4) := by
  intro a0 a1 a2 a3 a4 k
  have ih0 := remontoirlaw27_OrdersTell.mono_l k
  unfold remontoirlaw27_OrdersTell.f
  repeat' first
      | (with_reducible exact ih0 _ _ _ _ _ _)
      | (with_reducible exact orders_Jobs.mono _ _)
      | (with_reducible exact orders_Of.mono _ _ _ _ _)
      | (with_reducible exact remontoirkeep_Ints.mono _ _ _)
      | (with_reducible exact remontoirkeep_LightDef.mono _ _ _ _)
      | (with_reducible exact remontoirkeep_Orders.mono _ _ _)
      | (with_reducible exact remontoirlaw27_wakes.mono _)
      | (with_reducible exact remontoirref27_Jobs.mono _ _)
      | (with_reducible exact remontoirref27_Of.mono _ _ _ _ _)
      | (with_reducible exact remontoirref27_Timers.mono _ _)
      | (with_reducible exact LeO.refl _)
      | (with_reducible exact LeO.none _)
      | (with_reducible refine LeO.ite ?_ ?_)
      | (with_reducible refine LeO.bind ?_ (fun _ => ?_))
      | exact ih0 _ _ _ _ _ _
      | exact orders_Jobs.mono _ _
      | exact orders_Of.mono _ _ _ _ _
      | exact remontoirkeep_Ints.mono _ _ _
      | exact remontoirkeep_LightDef.mono _ _ _ _
      | exact remontoirkeep_Orders.mono _ _ _
      | exact remontoirlaw27_wakes.mono _
      | exact remontoirref27_Jobs.mono _ _
      | exact remontoirref27_Of.mono _ _ _ _ _
      | exact remontoirref27_Timers.mono _ _
      | exact LeO.none _
      | refine LeO.ite ?_ ?_
      | refine LeO.bind ?_ (fun _ => ?_)
def remontoirlaw27_OrdersTell.T3 : Bool × List (List Nat × List Nat) := (true, [([], []), ([], []), ([0, 1], [0, 1]), ([], []), ([], []), ([3, 4, 2], [3, 4]), ([2, 5, 5], [2, 5]), ([6, 6], [6]), ([7], [7]), ([8, 7, 7], [7, 8]), ([7], [7]), ([10, 9, 7], [7, 10]), ([9, 11, 11, 7], [7, 9, 11]), ([7, 12], [7, 12]), ([13, 12], [13]), ([14], [14]), ([15, 14, 14], [14, 15]), ([14], [14]), ([17, 16, 14], [14, 17]), ([16, 18, 18, 14], [14, 16, 18]), ([14, 19], [14, 19]), ([20, 19], [20]), ([21, 21], [21]), ([21, 22], [21, 22]), ([23, 22, 0, 1, 2, 3, 4, 5, 6, 7, 8, 9, 10, 11, 12, 13, 14, 15, 16, 17, 18, 19, 20, 21, 22, 23], [23])])
def remontoirlaw27_OrdersTell.B3 : List Nat := [0, 0, 3, 0, 0, 31, 63, 127, 255, 511, 255, 2047, 4095, 8191, 16383, 32767, 65535, 32767, 262143, 524287, 1048575, 2097151, 4194303, 8388607, 16777215]
theorem remontoirlaw27_OrdersTell.tab3 : rtab .any (opsOf Tryz.f3 3) = remontoirlaw27_OrdersTell.T3 := by kernel_rfl
theorem remontoirlaw27_OrdersTell.bits3 : waitsOk remontoirlaw27_OrdersTell.T3.2 remontoirlaw27_OrdersTell.B3 = true := by kernel_rfl
set_option maxHeartbeats 8000000 in
set_option maxRecDepth 100000 in
theorem remontoirlaw27_OrdersTell.calls (k : Nat) (a0_0 : ByteArray) (A0_1 : Option Addr) (c0_1 : Nat) (l0_1 : List (S41)) (A0_2 : Option Addr) (c0_2 : Nat) (l0_2 : List (S43)) (A1 : Option Addr) (c1 : Nat) (l1 : List (S45)) (A2 : Option Addr) (c2 : Nat) (l2 : List (S48)) (r : Bool) (w : World) (hr0_1 : Kd.C k41 w A0_1 l0_1.length l0_1) (hc0_1 : l0_1.length ≤ c0_1) (hr0_2 : Kd.C k43 w A0_2 l0_2.length l0_2) (hc0_2 : l0_2.length ≤ c0_2) (hr1 : Kd.C k45 w A1 l1.length l1) (hc1 : l1.length ≤ c1) (hr2 : Kd.C k48 w A2 l2.length l2) (hc2 : l2.length ≤ c2) (h : remontoirlaw27_OrdersTell.f k a0_0 l0_1 l0_2 l1 l2 = some r) :
    Calls Tryz.prog 3 #[.agg #[.string a0_0, .slice A0_1 l0_1.length c0_1, .slice A0_2 l0_2.length c0_2], .slice A1 l1.length c1, .slice A2 l2.length c2] w fun e w' => e = .returned (.bool r) ∧ Below w.heap.size w w' := by
  have hu25 := Tryz.underlying25
  have HR0_1 := Aside0.mk hr0_1
  have HC0_1 := Aside0.mk hc0_1
  clear hr0_1 hc0_1
  have HR0_2 := Aside0.mk hr0_2
  have HC0_2 := Aside0.mk hc0_2
  clear hr0_2 hc0_2
  have HR1 := Aside0.mk hr1
  have HC1 := Aside0.mk hc1
  clear hr1 hc1
  have HR2 := Aside0.mk hr2
  have HC2 := Aside0.mk hc2
  clear hr2 hc2
  have HB := Aside0.mk (Below.refl w.heap.size w)
  unfold remontoirlaw27_OrdersTell.f at h
  have H := h
  clear h
  have HC4 := Aside0.mk H
  clear H
  go_enter Tryz.func3, Tryz.ntmps3
  go_upto_region 1 with (first | ((with_reducible refine gate_dst (N := 3) rfl ?_); (try (refine gate_guard (by rfl) ?_; dsimp only)); refine box_event ?hg (N := 3) ?hd (cs := #[.string a0_0, .slice A0_1 l0_1.length c0_1, .slice A0_2 l0_2.length c0_2]) (t := 25) ?hr ?_; (case hd => rfl); (case hg => rfl); (case hr => first | (go_simp; done) | (go_simp; rfl)); intro gb335 hg w5 hbox hb; have BK335 := Aside0.mk (hbox); have GW335 := Aside0.mk ((by rw [hg]; exact bz15_2 : w.heap.size ≤ gb335)); have GE335 := Aside0.mk ((by rw [hg]; exact bz15_2 : w.heap.size ≤ gb335)); replace HB := Aside0.mk (bs15_0 hb); clear hb hbox hg))
  (try simp only [Act.put, List.setIfInBounds_toArray, List.set_cons_zero, List.set_cons_succ])
  go_cut [19] (fun v19 wc => ∃ (kq : Nat) (x19_3 : Bool), v19 = .bool x19_3 ∧ Aside0 (remontoirlaw27_OrdersTell.j0 kq l1 l2 x19_3 a0_0 l0_1 l0_2 = some r) ∧ Aside0 (kq ≤ k) ∧ Aside0 (wc.heap[gb335]? = some (.cells #[.string a0_0, (.slice A0_1 l0_1.length c0_1), (.slice A0_2 l0_2.length c0_2)] 25 (0, 0))) ∧ Aside0 (Below w.heap.size w wc))
  case first =>
    have H := HC4.out
    clear HC4
    obtain ⟨t336, A6, H⟩ := bdA H
    by_cases c7 : t336 = true
    rotate_left
    · replace c7 := Bool.eq_false_iff.mpr c7
      subst c7
      rw [if_neg nft] at H
      have H' := Aside0.mk H
      clear H
      have hcz13_0 : w5.cell? ⟨gb335, 0, none⟩ = some (.string a0_0) := (blk_cell BK335.out 0).trans rfl
      have hcz13_1 : w5.cell? ⟨gb335, 1, none⟩ = some (.slice A0_1 l0_1.length c0_1) := (blk_cell BK335.out 1).trans rfl
      have hcz13_2 : w5.cell? ⟨gb335, 2, none⟩ = some (.slice A0_2 l0_2.length c0_2) := (blk_cell BK335.out 2).trans rfl
      have hfz13_0 := blk_frozen BK335.out 0
      have hfz13_1 := blk_frozen BK335.out 1
      have hfz13_2 := blk_frozen BK335.out 2
      go_wp2_with (first | ((with_reducible refine gate_callee (f := 4) rfl ?_); refine goesL_ (some 8) rfl rfl Tryz.func4 (by kernel_rfl) rfl #[.agg #[.string a0_0, .slice A0_1 l0_1.length c0_1, .slice A0_2 l0_2.length c0_2]] rfl ba15_11 ?_; (with_reducible refine (remontoirkeep_LightDef.calls k a0_0 _ _ l0_1 _ _ l0_2 false _ ?side1 ?side2 ?side3 ?side4 A6.out).mono ?_); (case side1 => repeat (first | exact (Kd.C_below HR0_1.out HB.out) | (with_reducible refine Kd.C_alloc ?_ _) | (with_reducible refine Kd.C_drewN ?_ _) | (with_reducible refine Kd.C_drew ?_))); (case side2 => exact HC0_1.out); (case side3 => repeat (first | exact (Kd.C_below HR0_2.out HB.out) | (with_reducible refine Kd.C_alloc ?_ _) | (with_reducible refine Kd.C_drewN ?_ _) | (with_reducible refine Kd.C_drew ?_))); (case side4 => exact HC0_2.out); rintro e w14 ⟨rfl, hb⟩; refine ⟨_, rfl, ?_⟩; replace BK335 := Aside0.mk (bk15_4 (g := gb335) (o := .cells #[.string a0_0, .slice A0_1 l0_1.length c0_1, .slice A0_2 l0_2.length c0_2] 25 (0, 0)) hb); replace HB := Aside0.mk (bs15_1 hb); (try clear hb); (try clear hb2); (try clear hk); (try clear hi)))
      go_meet
      case rel => exact ⟨_, (true), (by first | rfl | (simp; done) | (simp [*]; done)), H', ⟨by first | omega | exact Nat.le_refl _⟩, ⟨by (with_reducible repeat (first | refine blk_drewN ?_ _ | refine blk_drew ?_ | refine blk_alloc ?_ _)); exact BK335.out⟩, ⟨by repeat (first | (with_reducible first | exact HB.out | apply below_alloc | apply pw_below_drewN | apply below_drew1 | refine below_set ?_ GE335.out) | exact HB.out)⟩⟩
    subst c7
    rw [if_pos rfl] at H
    by_cases c8 : (l1.length : Int) > 80
    · rw [if_pos c8] at H
      have c8b0 : decide (80 < (l1.length : Int)) = true := decide_eq_true c8
      have c8b1 : decide (80 < l1.length) = true := decide_eq_true (by omega)
      clear c8
      (first | rw [c8b0] | (simp only [i64_w, i32_w]; rw [c8b0]) | skip)
      have H' := Aside0.mk H
      clear H
      have hcz9_0 : w5.cell? ⟨gb335, 0, none⟩ = some (.string a0_0) := (blk_cell BK335.out 0).trans rfl
      have hcz9_1 : w5.cell? ⟨gb335, 1, none⟩ = some (.slice A0_1 l0_1.length c0_1) := (blk_cell BK335.out 1).trans rfl
      have hcz9_2 : w5.cell? ⟨gb335, 2, none⟩ = some (.slice A0_2 l0_2.length c0_2) := (blk_cell BK335.out 2).trans rfl
      have hfz9_0 := blk_frozen BK335.out 0
      have hfz9_1 := blk_frozen BK335.out 1
      have hfz9_2 := blk_frozen BK335.out 2
      go_wp2_with (first | ((with_reducible refine gate_callee (f := 4) rfl ?_); refine goesL_ (some 8) rfl rfl Tryz.func4 (by kernel_rfl) rfl #[.agg #[.string a0_0, .slice A0_1 l0_1.length c0_1, .slice A0_2 l0_2.length c0_2]] rfl ba15_11 ?_; (with_reducible refine (remontoirkeep_LightDef.calls k a0_0 _ _ l0_1 _ _ l0_2 true _ ?side1 ?side2 ?side3 ?side4 A6.out).mono ?_); (case side1 => repeat (first | exact (Kd.C_below HR0_1.out HB.out) | (with_reducible refine Kd.C_alloc ?_ _) | (with_reducible refine Kd.C_drewN ?_ _) | (with_reducible refine Kd.C_drew ?_))); (case side2 => exact HC0_1.out); (case side3 => repeat (first | exact (Kd.C_below HR0_2.out HB.out) | (with_reducible refine Kd.C_alloc ?_ _) | (with_reducible refine Kd.C_drewN ?_ _) | (with_reducible refine Kd.C_drew ?_))); (case side4 => exact HC0_2.out); rintro e w10 ⟨rfl, hb⟩; refine ⟨_, rfl, ?_⟩; replace BK335 := Aside0.mk (bk15_4 (g := gb335) (o := .cells #[.string a0_0, .slice A0_1 l0_1.length c0_1, .slice A0_2 l0_2.length c0_2] 25 (0, 0)) hb); replace HB := Aside0.mk (bs15_1 hb); (try clear hb); (try clear hb2); (try clear hk); (try clear hi)))
      go_meet
      case rel => exact ⟨_, (true), (by first | rfl | (simp; done) | (simp [*]; done)), H', ⟨by first | omega | exact Nat.le_refl _⟩, ⟨by (with_reducible repeat (first | refine blk_drewN ?_ _ | refine blk_drew ?_ | refine blk_alloc ?_ _)); exact BK335.out⟩, ⟨by repeat (first | (with_reducible first | exact HB.out | apply below_alloc | apply pw_below_drewN | apply below_drew1 | refine below_set ?_ GE335.out) | exact HB.out)⟩⟩
    rw [if_neg c8] at H
    have c8b0 : decide (80 < (l1.length : Int)) = false := decide_eq_false c8
    have c8b1 : decide (80 < l1.length) = false := decide_eq_false (by omega)
    clear c8
    (first | rw [c8b0] | (simp only [i64_w, i32_w]; rw [c8b0]) | skip)
    have H' := Aside0.mk H
    clear H
    have hcz11_0 : w5.cell? ⟨gb335, 0, none⟩ = some (.string a0_0) := (blk_cell BK335.out 0).trans rfl
    have hcz11_1 : w5.cell? ⟨gb335, 1, none⟩ = some (.slice A0_1 l0_1.length c0_1) := (blk_cell BK335.out 1).trans rfl
    have hcz11_2 : w5.cell? ⟨gb335, 2, none⟩ = some (.slice A0_2 l0_2.length c0_2) := (blk_cell BK335.out 2).trans rfl
    have hfz11_0 := blk_frozen BK335.out 0
    have hfz11_1 := blk_frozen BK335.out 1
    have hfz11_2 := blk_frozen BK335.out 2
    go_wp2_with (first | ((with_reducible refine gate_callee (f := 4) rfl ?_); refine goesL_ (some 8) rfl rfl Tryz.func4 (by kernel_rfl) rfl #[.agg #[.string a0_0, .slice A0_1 l0_1.length c0_1, .slice A0_2 l0_2.length c0_2]] rfl ba15_11 ?_; (with_reducible refine (remontoirkeep_LightDef.calls k a0_0 _ _ l0_1 _ _ l0_2 true _ ?side1 ?side2 ?side3 ?side4 A6.out).mono ?_); (case side1 => repeat (first | exact (Kd.C_below HR0_1.out HB.out) | (with_reducible refine Kd.C_alloc ?_ _) | (with_reducible refine Kd.C_drewN ?_ _) | (with_reducible refine Kd.C_drew ?_))); (case side2 => exact HC0_1.out); (case side3 => repeat (first | exact (Kd.C_below HR0_2.out HB.out) | (with_reducible refine Kd.C_alloc ?_ _) | (with_reducible refine Kd.C_drewN ?_ _) | (with_reducible refine Kd.C_drew ?_))); (case side4 => exact HC0_2.out); rintro e w12 ⟨rfl, hb⟩; refine ⟨_, rfl, ?_⟩; replace BK335 := Aside0.mk (bk15_4 (g := gb335) (o := .cells #[.string a0_0, .slice A0_1 l0_1.length c0_1, .slice A0_2 l0_2.length c0_2] 25 (0, 0)) hb); replace HB := Aside0.mk (bs15_1 hb); (try clear hb); (try clear hb2); (try clear hk); (try clear hi)))
    go_meet
    case rel => exact ⟨_, (decide ((l2.length : Int) > 80)), (by first | rfl | (simp; done) | (simp [*]; done)), H', ⟨by first | omega | exact Nat.le_refl _⟩, ⟨by (with_reducible repeat (first | refine blk_drewN ?_ _ | refine blk_drew ?_ | refine blk_alloc ?_ _)); exact BK335.out⟩, ⟨by repeat (first | (with_reducible first | exact HB.out | apply below_alloc | apply pw_below_drewN | apply below_drew1 | refine below_set ?_ GE335.out) | exact HB.out)⟩⟩
  case rest =>
    clear HC4
    try clear c1
    try clear c2
    try clear p2
    try clear c3
    try clear c4
    try clear c7
    try clear c8
    try clear c8b0
    try clear c8b1
    try clear hcz11_0
    try clear hcz11_1
    try clear hcz11_2
    try clear hcz13_0
    try clear hcz13_1
    try clear hcz13_2
    try clear hcz9_0
    try clear hcz9_1
    try clear hcz9_2
    try clear hfz11_0
    try clear hfz11_1
    try clear hfz11_2
    try clear hfz13_0
    try clear hfz13_1
    try clear hfz13_2
    try clear hfz9_0
    try clear hfz9_1
    try clear hfz9_2
    obtain ⟨kq, x19_3, rfl, HA, HJ3, BK335, HB⟩ := hcut
    cases kq with
    | zero => exact absurd HA.out (by simp [remontoirlaw27_OrdersTell.j0])
    | succ kj3 =>
      have H := HA.out
      clear HA
      simp only [remontoirlaw27_OrdersTell.j0] at H
      by_cases c15 : x19_3 = true
      · subst c15
        rw [if_pos rfl] at H
        obtain ⟨t337, A16, H⟩ := bdA H
        obtain rfl := Option.some.inj H
        go_wp2_with (first | ((with_reducible refine gate_callee (f := 5) rfl ?_); refine goesL_ (some 20) rfl rfl Tryz.func5 (by kernel_rfl) rfl #[] rfl ba15_11 ?_; (with_reducible refine (remontoirlaw27_wakes.calls kj3  t337 _ A16.out).mono ?_); rintro e w17 ⟨rfl, hb⟩; refine ⟨_, rfl, ?_⟩; replace BK335 := Aside0.mk (bk15_4 (g := gb335) (o := .cells #[.string a0_0, .slice A0_1 l0_1.length c0_1, .slice A0_2 l0_2.length c0_2] 25 (0, 0)) hb); replace HB := Aside0.mk (bs15_1 hb); (try clear hb); (try clear hb2); (try clear hk); (try clear hi)))
        go_ret
        exact ⟨by first | rfl | (simp [errW_none, errW_some] <;> rfl) | (simp [*, errW_none, errW_some] <;> rfl), by repeat (first | (with_reducible first | exact HB.out | apply below_alloc | apply pw_below_drewN | apply below_drew1 | refine below_set ?_ GE335.out) | exact HB.out)⟩
      replace c15 := Bool.eq_false_iff.mpr c15
      subst c15
      rw [if_neg nft] at H
      obtain ⟨t338, A18, H⟩ := bdA H
      obtain ⟨t341, A19, H⟩ := bdA H
      obtain ⟨t344, A20, H⟩ := bdA H
      by_cases c21 : t344 = true
      rotate_left
      · replace c21 := Bool.eq_false_iff.mpr c21
        subst c21
        rw [if_neg nft] at H
        exact absurd H (by simp)
      subst c21
      rw [if_pos rfl] at H
      obtain ⟨t345, A22, H⟩ := bdA H
      obtain ⟨t348, A23, H⟩ := bdA H
      obtain ⟨t351, A24, H⟩ := bdA H
      by_cases c25 : t351 = true
      rotate_left
      · replace c25 := Bool.eq_false_iff.mpr c25
        subst c25
        rw [if_neg nft] at H
        exact absurd H (by simp)
      subst c25
      rw [if_pos rfl] at H
      obtain ⟨t352, A26, H⟩ := bdA H
      obtain ⟨t355, A27, H⟩ := bdA H
      obtain ⟨t358, A28, H⟩ := bdA H
      by_cases c29 : t358 = true
      rotate_left
      · replace c29 := Bool.eq_false_iff.mpr c29
        subst c29
        rw [if_neg nft] at H
        exact absurd H (by simp)
      subst c29
      rw [if_pos rfl] at H
      obtain ⟨t359, A30, H⟩ := bdA H
      obtain rfl := Option.some.inj H
      try go_wp2
      replace BK335 := Aside0.mk (blk_drew BK335.out)
      replace HB := Aside0.mk (below_drew1 HB.out)
      refine start_ (n := 25) (S := fun w' => w'.cell? ⟨gb335, 0, none⟩ = some (.string a0_0) ∧ w'.cell? ⟨gb335, 1, none⟩ = some (.slice A0_1 l0_1.length c0_1) ∧ w'.cell? ⟨gb335, 2, none⟩ = some (.slice A0_2 l0_2.length c0_2)) (ds := []) #[false, false, false, false, false, false, false, false, false, false, false, false, false, false, false, false, false, false, false, false, false, false, false, false, false] (by kernel_rfl) rfl rfl ⟨(blk_cell BK335.out 0).trans rfl, (blk_cell BK335.out 1).trans rfl, (blk_cell BK335.out 2).trans rfl⟩ (fun hHeld => ?_); refine with_tabW remontoirlaw27_OrdersTell.tab3 remontoirlaw27_OrdersTell.bits3 (fun HT_ HW_ => ?_)
      generalize wc.drew = w31 at BK335 HB hHeld ⊢
      refine pv_ 1 22 HT_ ?_; refine pv_ 4 25 HT_ ?_; refine tk_ 0 21 HT_ HW_ hHeld ?_; refine tk_ 3 24 HT_ HW_ hHeld ?_
      refine on_ 2 23 HT_ (fun K hK => ?_)
      refine goes_ Tryz.func7 (by kernel_rfl) rfl #[.agg #[.string a0_0, .slice A0_1 l0_1.length c0_1, .slice A0_2 l0_2.length c0_2], .slice A1 l1.length c1] (by rfl) rfl rfl ba15_11 ?_
      with_reducible refine (orders_Of.calls kj3 a0_0 _ _ l0_1 _ _ l0_2 _ _ l1 t338 _ ?side1 ?side2 ?side3 ?side4 ?side5 ?side6 A18.out).mono ?_
      (case side1 => repeat (first | exact (Kd.C_below HR0_1.out HB.out) | (with_reducible refine Kd.C_alloc ?_ _) | (with_reducible refine Kd.C_drewN ?_ _) | (with_reducible refine Kd.C_drew ?_)))
      (case side2 => exact HC0_1.out)
      (case side3 => repeat (first | exact (Kd.C_below HR0_2.out HB.out) | (with_reducible refine Kd.C_alloc ?_ _) | (with_reducible refine Kd.C_drewN ?_ _) | (with_reducible refine Kd.C_drew ?_)))
      (case side4 => exact HC0_2.out)
      (case side5 => repeat (first | exact (Kd.C_below HR1.out HB.out) | (with_reducible refine Kd.C_alloc ?_ _) | (with_reducible refine Kd.C_drewN ?_ _) | (with_reducible refine Kd.C_drew ?_)))
      (case side6 => exact HC1.out)
      rintro e w32 ⟨v339, rfl, ho0, hb⟩
      refine ⟨_, rfl, ?_⟩
      have HO340 := Aside0.mk (Kd.R_lower ho0 bz15_3)
      replace BK335 := Aside0.mk (bk15_4 (g := gb335) (o := .cells #[.string a0_0, .slice A0_1 l0_1.length c0_1, .slice A0_2 l0_2.length c0_2] 25 (0, 0)) hb)
      replace HB := Aside0.mk (bs15_1 hb)
      (try clear hb)
      (try clear hb2)
      (try clear hk)
      (try clear hi)
      (try clear ho0)
      refine hK.out _ _ ⟨(blk_cell BK335.out 0).trans rfl, (blk_cell BK335.out 1).trans rfl, (blk_cell BK335.out 2).trans rfl⟩ (fun hHeld => ?_)
      clear hK K
      refine nm_ ?_
      refine on_ 5 26 HT_ (fun K hK => ?_)
      refine goes_ Tryz.func8 (by kernel_rfl) rfl #[.agg #[.string a0_0, .slice A0_1 l0_1.length c0_1, .slice A0_2 l0_2.length c0_2], .slice A1 l1.length c1] (by rfl) rfl rfl ba15_11 ?_
      with_reducible refine (remontoirref27_Of.calls kj3 a0_0 _ _ l0_1 _ _ l0_2 _ _ l1 t341 _ ?side1 ?side2 ?side3 ?side4 ?side5 ?side6 A19.out).mono ?_
      (case side1 => repeat (first | exact (Kd.C_below HR0_1.out HB.out) | (with_reducible refine Kd.C_alloc ?_ _) | (with_reducible refine Kd.C_drewN ?_ _) | (with_reducible refine Kd.C_drew ?_)))
      (case side2 => exact HC0_1.out)
      (case side3 => repeat (first | exact (Kd.C_below HR0_2.out HB.out) | (with_reducible refine Kd.C_alloc ?_ _) | (with_reducible refine Kd.C_drewN ?_ _) | (with_reducible refine Kd.C_drew ?_)))
      (case side4 => exact HC0_2.out)
      (case side5 => repeat (first | exact (Kd.C_below HR1.out HB.out) | (with_reducible refine Kd.C_alloc ?_ _) | (with_reducible refine Kd.C_drewN ?_ _) | (with_reducible refine Kd.C_drew ?_)))
      (case side6 => exact HC1.out)
      rintro e w33 ⟨v342, rfl, ho0, hb⟩
      refine ⟨_, rfl, ?_⟩
      have HO343 := Aside0.mk (Kd.R_lower (Kd.R_new' ho0 (Kd.R_lt br15_5)) bz15_3)
      replace HO340 := Aside0.mk (Kd.R_elder' br15_5 (Kd.R_base ho0) hb)
      replace BK335 := Aside0.mk (bk15_4 (g := gb335) (o := .cells #[.string a0_0, .slice A0_1 l0_1.length c0_1, .slice A0_2 l0_2.length c0_2] 25 (0, 0)) hb)
      replace HB := Aside0.mk (bs15_1 hb)
      (try clear hb)
      (try clear hb2)
      (try clear hk)
      (try clear hi)
      (try clear ho0)
      obtain ⟨Ao34, co34, eo34⟩ := Kd.R_slice HO340.out
      (first | subst eo34 | (injection eo34 with f1_ f2_ f3_; have f4_ := f1_.symm; have f5_ := f3_.symm; clear f1_ f2_ f3_; subst f4_; subst f5_))
      obtain ⟨Ao35, co35, eo35⟩ := Kd.R_slice HO343.out
      (first | subst eo35 | (injection eo35 with f1_ f2_ f3_; have f4_ := f1_.symm; have f5_ := f3_.symm; clear f1_ f2_ f3_; subst f4_; subst f5_))
      refine hK.out _ _ ⟨(blk_cell BK335.out 0).trans rfl, (blk_cell BK335.out 1).trans rfl, (blk_cell BK335.out 2).trans rfl⟩ (fun hHeld => ?_)
      clear hK K
      refine nm_ ?_
      refine on_ 6 27 HT_ (fun K hK => ?_)
      refine goes_ Tryz.func6 (by kernel_rfl) rfl #[.slice Ao34 t338.length co34, .slice Ao35 t341.length co35] (by rfl) rfl rfl ba15_11 ?_
      with_reducible refine (remontoirkeep_Orders.calls kj3 _ _ t338 _ _ t341 true _ ?side1 ?side2 ?side3 ?side4 A20.out).mono ?_
      (case side1 => repeat (first | exact (Kd.R_reads' HO340.out).2.2 | (with_reducible refine Kd.C_alloc ?_ _) | (with_reducible refine Kd.C_drewN ?_ _) | (with_reducible refine Kd.C_drew ?_)))
      (case side2 => exact (Kd.R_reads' HO340.out).2.1)
      (case side3 => repeat (first | exact (Kd.R_reads' HO343.out).2.2 | (with_reducible refine Kd.C_alloc ?_ _) | (with_reducible refine Kd.C_drewN ?_ _) | (with_reducible refine Kd.C_drew ?_)))
      (case side4 => exact (Kd.R_reads' HO343.out).2.1)
      rintro e w' ⟨rfl, ⟨nd, rfl⟩⟩
      refine ⟨_, rfl, ?_⟩
      refine hK.out _ _ ⟨(blk_cell BK335.out 0).trans rfl, (blk_cell BK335.out 1).trans rfl, (blk_cell BK335.out 2).trans rfl⟩ (fun hHeld => ?_)
      clear hK K
      refine nm_ ?_; refine pv_ 7 28 HT_ ?_; refine pv_ 8 29 HT_ ?_; refine pv_ 10 31 HT_ ?_
      refine on_ 9 30 HT_ (fun K hK => ?_)
      refine goes_ Tryz.func10 (by kernel_rfl) rfl #[.slice A2 l2.length c2] (by rfl) rfl rfl ba15_11 ?_
      with_reducible refine (orders_Jobs.calls kj3 _ _ l2 t345 _ ?side1 ?side2 A22.out).mono ?_
      (case side1 => repeat (first | exact (Kd.C_below HR2.out bh15_12) | (with_reducible refine Kd.C_alloc ?_ _) | (with_reducible refine Kd.C_drewN ?_ _) | (with_reducible refine Kd.C_drew ?_)))
      (case side2 => exact HC2.out)
      rintro e w36 ⟨v346, rfl, ho0, hb⟩
      refine ⟨_, rfl, ?_⟩
      replace HO340 := Aside0.mk (Kd.R_below br15_5 hb)
      replace HO343 := Aside0.mk (Kd.R_below br15_6 hb)
      have HO347 := Aside0.mk (Kd.R_lower ho0 bz15_3)
      replace BK335 := Aside0.mk (bk15_4 (g := gb335) (o := .cells #[.string a0_0, .slice A0_1 l0_1.length c0_1, .slice A0_2 l0_2.length c0_2] 25 (0, 0)) hb)
      replace HB := Aside0.mk (bs15_1 hb)
      (try clear hb)
      (try clear hb2)
      (try clear hk)
      (try clear hi)
      (try clear ho0)
      refine hK.out _ _ ⟨(blk_cell BK335.out 0).trans rfl, (blk_cell BK335.out 1).trans rfl, (blk_cell BK335.out 2).trans rfl⟩ (fun hHeld => ?_)
      clear hK K
      refine nm_ ?_
      refine on_ 11 32 HT_ (fun K hK => ?_)
      refine goes_ Tryz.func11 (by kernel_rfl) rfl #[.slice A2 l2.length c2] (by rfl) rfl rfl ba15_11 ?_
      with_reducible refine (remontoirref27_Jobs.calls kj3 _ _ l2 t348 _ ?side1 ?side2 A23.out).mono ?_
      (case side1 => repeat (first | exact (Kd.C_below HR2.out HB.out) | (with_reducible refine Kd.C_alloc ?_ _) | (with_reducible refine Kd.C_drewN ?_ _) | (with_reducible refine Kd.C_drew ?_)))
      (case side2 => exact HC2.out)
      rintro e w37 ⟨v349, rfl, ho0, hb⟩
      refine ⟨_, rfl, ?_⟩
      replace HO340 := Aside0.mk (Kd.R_below br15_5 hb)
      replace HO343 := Aside0.mk (Kd.R_below br15_6 hb)
      have HO350 := Aside0.mk (Kd.R_lower (Kd.R_new' ho0 (Kd.R_lt br15_7)) bz15_3)
      replace HO347 := Aside0.mk (Kd.R_elder' br15_7 (Kd.R_base ho0) hb)
      replace BK335 := Aside0.mk (bk15_4 (g := gb335) (o := .cells #[.string a0_0, .slice A0_1 l0_1.length c0_1, .slice A0_2 l0_2.length c0_2] 25 (0, 0)) hb)
      replace HB := Aside0.mk (bs15_1 hb)
      (try clear hb)
      (try clear hb2)
      (try clear hk)
      (try clear hi)
      (try clear ho0)
      obtain ⟨Ao38, co38, eo38⟩ := Kd.R_slice HO347.out
      (first | subst eo38 | (injection eo38 with f1_ f2_ f3_; have f4_ := f1_.symm; have f5_ := f3_.symm; clear f1_ f2_ f3_; subst f4_; subst f5_))
      obtain ⟨Ao39, co39, eo39⟩ := Kd.R_slice HO350.out
      (first | subst eo39 | (injection eo39 with f1_ f2_ f3_; have f4_ := f1_.symm; have f5_ := f3_.symm; clear f1_ f2_ f3_; subst f4_; subst f5_))
      refine hK.out _ _ ⟨(blk_cell BK335.out 0).trans rfl, (blk_cell BK335.out 1).trans rfl, (blk_cell BK335.out 2).trans rfl⟩ (fun hHeld => ?_)
      clear hK K
      refine nm_ ?_
      refine on_ 12 33 HT_ (fun K hK => ?_)
      refine goes_ Tryz.func9 (by kernel_rfl) rfl #[.slice Ao38 t345.length co38, .slice Ao39 t348.length co39] (by rfl) rfl rfl ba15_11 ?_
      with_reducible refine (remontoirkeep_Ints.calls kj3 _ _ t345 _ _ t348 true _ ?side1 ?side2 ?side3 ?side4 A24.out).mono ?_
      (case side1 => repeat (first | exact (Kd.R_reads' HO347.out).2.2 | (with_reducible refine Kd.C_alloc ?_ _) | (with_reducible refine Kd.C_drewN ?_ _) | (with_reducible refine Kd.C_drew ?_)))
      (case side2 => exact (Kd.R_reads' HO347.out).2.1)
      (case side3 => repeat (first | exact (Kd.R_reads' HO350.out).2.2 | (with_reducible refine Kd.C_alloc ?_ _) | (with_reducible refine Kd.C_drewN ?_ _) | (with_reducible refine Kd.C_drew ?_)))
      (case side4 => exact (Kd.R_reads' HO350.out).2.1)
      rintro e w' ⟨rfl, ⟨nd, rfl⟩⟩
      refine ⟨_, rfl, ?_⟩
      refine hK.out _ _ ⟨(blk_cell BK335.out 0).trans rfl, (blk_cell BK335.out 1).trans rfl, (blk_cell BK335.out 2).trans rfl⟩ (fun hHeld => ?_)
      clear hK K
      refine nm_ ?_; refine pv_ 13 34 HT_ ?_; refine pv_ 14 35 HT_ ?_; refine pv_ 15 36 HT_ ?_; refine pv_ 17 38 HT_ ?_
      refine on_ 16 37 HT_ (fun K hK => ?_)
      refine goes_ Tryz.func12 (by kernel_rfl) rfl #[.slice A2 l2.length c2] (by rfl) rfl rfl ba15_11 ?_
      with_reducible refine (orders_Timers.calls _ _ l2 t352 _ ?side1 ?side2 A26.out).mono ?_
      (case side1 => repeat (first | exact (Kd.C_below HR2.out bh15_12) | (with_reducible refine Kd.C_alloc ?_ _) | (with_reducible refine Kd.C_drewN ?_ _) | (with_reducible refine Kd.C_drew ?_)))
      (case side2 => exact HC2.out)
      rintro e w40 ⟨v353, rfl, ho0, hb⟩
      refine ⟨_, rfl, ?_⟩
      replace HO347 := Aside0.mk (Kd.R_below br15_7 hb)
      replace HO350 := Aside0.mk (Kd.R_below br15_8 hb)
      have HO354 := Aside0.mk (Kd.R_lower (Kd.R_new' (Kd.R_new' ho0 (Kd.R_lt br15_5)) (Kd.R_lt br15_6)) bz15_3)
      replace HO340 := Aside0.mk (Kd.R_elder' br15_5 (Kd.R_base ho0) hb)
      replace HO343 := Aside0.mk (Kd.R_elder' br15_6 (Kd.R_base ho0) hb)
      replace BK335 := Aside0.mk (bk15_4 (g := gb335) (o := .cells #[.string a0_0, .slice A0_1 l0_1.length c0_1, .slice A0_2 l0_2.length c0_2] 25 (0, 0)) hb)
      replace HB := Aside0.mk (bs15_1 hb)
      (try clear hb)
      (try clear hb2)
      (try clear hk)
      (try clear hi)
      (try clear ho0)
      refine hK.out _ _ ⟨(blk_cell BK335.out 0).trans rfl, (blk_cell BK335.out 1).trans rfl, (blk_cell BK335.out 2).trans rfl⟩ (fun hHeld => ?_)
      clear hK K
      refine nm_ ?_
      refine on_ 18 39 HT_ (fun K hK => ?_)
      refine goes_ Tryz.func13 (by kernel_rfl) rfl #[.slice A2 l2.length c2] (by rfl) rfl rfl ba15_11 ?_
      with_reducible refine (remontoirref27_Timers.calls kj3 _ _ l2 t355 _ ?side1 ?side2 A27.out).mono ?_
      (case side1 => repeat (first | exact (Kd.C_below HR2.out HB.out) | (with_reducible refine Kd.C_alloc ?_ _) | (with_reducible refine Kd.C_drewN ?_ _) | (with_reducible refine Kd.C_drew ?_)))
      (case side2 => exact HC2.out)
      rintro e w41 ⟨v356, rfl, ho0, hb⟩
      refine ⟨_, rfl, ?_⟩
      replace HO347 := Aside0.mk (Kd.R_below br15_7 hb)
      replace HO350 := Aside0.mk (Kd.R_below br15_8 hb)
      have HO357 := Aside0.mk (Kd.R_lower (Kd.R_new' (Kd.R_new' (Kd.R_new' ho0 (Kd.R_lt br15_5)) (Kd.R_lt br15_6)) (Kd.R_lt br15_9)) bz15_3)
      replace HO340 := Aside0.mk (Kd.R_elder' br15_5 (Kd.R_base ho0) hb)
      replace HO343 := Aside0.mk (Kd.R_elder' br15_6 (Kd.R_base ho0) hb)
      replace HO354 := Aside0.mk (Kd.R_elder' br15_9 (Kd.R_base ho0) hb)
      replace BK335 := Aside0.mk (bk15_4 (g := gb335) (o := .cells #[.string a0_0, .slice A0_1 l0_1.length c0_1, .slice A0_2 l0_2.length c0_2] 25 (0, 0)) hb)
      replace HB := Aside0.mk (bs15_1 hb)
      (try clear hb)
      (try clear hb2)
      (try clear hk)
      (try clear hi)
      (try clear ho0)
      obtain ⟨Ao42, co42, eo42⟩ := Kd.R_slice HO354.out
      (first | subst eo42 | (injection eo42 with f1_ f2_ f3_; have f4_ := f1_.symm; have f5_ := f3_.symm; clear f1_ f2_ f3_; subst f4_; subst f5_))
      obtain ⟨Ao43, co43, eo43⟩ := Kd.R_slice HO357.out
      (first | subst eo43 | (injection eo43 with f1_ f2_ f3_; have f4_ := f1_.symm; have f5_ := f3_.symm; clear f1_ f2_ f3_; subst f4_; subst f5_))
      refine hK.out _ _ ⟨(blk_cell BK335.out 0).trans rfl, (blk_cell BK335.out 1).trans rfl, (blk_cell BK335.out 2).trans rfl⟩ (fun hHeld => ?_)
      clear hK K
      refine nm_ ?_
      refine on_ 19 40 HT_ (fun K hK => ?_)
      refine goes_ Tryz.func6 (by kernel_rfl) rfl #[.slice Ao42 t352.length co42, .slice Ao43 t355.length co43] (by rfl) rfl rfl ba15_11 ?_
      with_reducible refine (remontoirkeep_Orders.calls kj3 _ _ t352 _ _ t355 true _ ?side1 ?side2 ?side3 ?side4 A28.out).mono ?_
      (case side1 => repeat (first | exact (Kd.R_reads' HO354.out).2.2 | (with_reducible refine Kd.C_alloc ?_ _) | (with_reducible refine Kd.C_drewN ?_ _) | (with_reducible refine Kd.C_drew ?_)))
      (case side2 => exact (Kd.R_reads' HO354.out).2.1)
      (case side3 => repeat (first | exact (Kd.R_reads' HO357.out).2.2 | (with_reducible refine Kd.C_alloc ?_ _) | (with_reducible refine Kd.C_drewN ?_ _) | (with_reducible refine Kd.C_drew ?_)))
      (case side4 => exact (Kd.R_reads' HO357.out).2.1)
      rintro e w' ⟨rfl, ⟨nd, rfl⟩⟩
      refine ⟨_, rfl, ?_⟩
      refine hK.out _ _ ⟨(blk_cell BK335.out 0).trans rfl, (blk_cell BK335.out 1).trans rfl, (blk_cell BK335.out 2).trans rfl⟩ (fun hHeld => ?_)
      clear hK K
      refine nm_ ?_; refine pv_ 20 41 HT_ ?_; refine pv_ 21 42 HT_ ?_
      refine on_ 22 43 HT_ (fun K hK => ?_)
      refine goes_ Tryz.func5 (by kernel_rfl) rfl #[] (by rfl) rfl rfl ba15_11 ?_
      with_reducible refine (remontoirlaw27_wakes.calls kj3  t359 _ A30.out).mono ?_
      rintro e w44 ⟨rfl, hb⟩
      refine ⟨_, rfl, ?_⟩
      replace HO340 := Aside0.mk (Kd.R_below br15_5 hb)
      replace HO343 := Aside0.mk (Kd.R_below br15_6 hb)
      replace HO347 := Aside0.mk (Kd.R_below br15_7 hb)
      replace HO350 := Aside0.mk (Kd.R_below br15_8 hb)
      replace HO354 := Aside0.mk (Kd.R_below br15_9 hb)
      replace HO357 := Aside0.mk (Kd.R_below br15_10 hb)
      replace BK335 := Aside0.mk (bk15_4 (g := gb335) (o := .cells #[.string a0_0, .slice A0_1 l0_1.length c0_1, .slice A0_2 l0_2.length c0_2] 25 (0, 0)) hb)
      replace HB := Aside0.mk (bs15_1 hb)
      (try clear hb)
      (try clear hb2)
      (try clear hk)
      (try clear hi)
      refine hK.out _ _ ⟨(blk_cell BK335.out 0).trans rfl, (blk_cell BK335.out 1).trans rfl, (blk_cell BK335.out 2).trans rfl⟩ (fun hHeld => ?_)
      clear hK K
      refine nm_ ?_; refine pv_ 23 44 HT_ ?_; refine pv_ 24 6 HT_ ?_; refine dn_ HT_ ?_
      try go_wp2
      go_ret
      exact ⟨by first | rfl | (simp [errW_none, errW_some] <;> rfl) | (simp [*, errW_none, errW_some] <;> rfl), by repeat (first | (with_reducible first | exact HB.out | apply below_alloc | apply pw_below_drewN | apply below_drew1 | refine below_set ?_ GE335.out) | exact HB.out)⟩

end Go.Proofs.YtflnkchpfbcgiaaGreatDoor.Q
