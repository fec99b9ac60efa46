-- Written by this session's program xprint.py (which runs the kit's print with some functions given by hand). Lean checks it.
import Derived.Test.YtflnkchpfbcgiaaGreatDoorQx0
import Derived.Test.YtflnkchpfbcgiaaGreatDoorQx6
import Derived.Test.YtflnkchpfbcgiaaGreatDoorQx7
import Derived.Test.YtflnkchpfbcgiaaGreatDoorQx9
import Derived.Test.YtflnkchpfbcgiaaGreatDoorQx10
namespace Go.Proofs.YtflnkchpfbcgiaaGreatDoor.Q
open Go.RowKit Go.Proofs.YtflnkchpfbcgiaaGreatDoorW.PrintWords Go.Proofs.YtflnkchpfbcgiaaGreatDoorW.PrintLast Go.Proofs.YtflnkchpfbcgiaaGreatDoorW.PrintMore
attribute [local go_sem] max2_int min2_int max_two min_two max_three min_three max_four min_four   -- for this text's walks alone
set_option linter.unusedVariables false
set_option linter.unusedSimpArgs false
theorem bs11_0 {w W w2 : World} (k : Below W.heap.size W w2) (h : Below w.heap.size w W := by repeat (first | (with_reducible first | exact HB.out | apply below_alloc | apply pw_below_drewN | apply below_drew1) | exact HB.out)) : Below w.heap.size w w2 := below_step h k
theorem bs11_1 {w W w2 : World} (k : Below W.heap.size W w2) (h : Below w.heap.size w W := by repeat (first | (with_reducible first | exact HB.out | apply below_alloc | apply pw_below_drewN | apply below_drew1 | refine below_set ?_ GE249.out) | exact HB.out)) : Below w.heap.size w w2 := below_step h k
theorem bs11_2 {w W w2 : World} (k : Below W.heap.size W w2) (h : Below w.heap.size w W := by repeat (first | (with_reducible first | exact HB.out | apply below_alloc | apply pw_below_drewN | apply below_drew1 | refine below_set ?_ GE249.out | refine below_set ?_ GE250.out) | exact HB.out)) : Below w.heap.size w w2 := below_step h k
theorem bs11_3 {w W w2 : World} (k : Below W.heap.size W w2) (h : Below w.heap.size w W := by repeat (first | (with_reducible first | exact HB.out | apply below_alloc | apply pw_below_drewN | apply below_drew1 | refine below_set ?_ GE249.out | refine below_set ?_ GE250.out | refine below_set ?_ GE256.out) | exact HB.out)) : Below w.heap.size w w2 := below_step h k
theorem bs11_4 {w W w2 : World} (k : Below W.heap.size W w2) (h : Below w.heap.size w W := by repeat (first | (with_reducible first | exact HB.out | apply below_alloc | apply pw_below_drewN | apply below_drew1 | refine below_set ?_ GE260.out) | exact HB.out)) : Below w.heap.size w w2 := below_step h k
theorem bs11_5 {w W w2 : World} (k : Below W.heap.size W w2) (h : Below w.heap.size w W := by repeat (first | (with_reducible first | exact HB.out | apply below_alloc | apply pw_below_drewN | apply below_drew1 | refine below_set ?_ GE260.out | refine below_set ?_ GE262.out) | exact HB.out)) : Below w.heap.size w w2 := below_step h k
theorem bs11_6 {w W w2 : World} (k : Below W.heap.size W w2) (h : Below w.heap.size w W := by repeat (first | (with_reducible first | exact HB.out | apply below_alloc | apply pw_below_drewN | apply below_drew1 | refine below_set ?_ GE260.out | refine below_set ?_ GE262.out | refine below_set ?_ GE263.out) | exact HB.out)) : Below w.heap.size w w2 := below_step h k
theorem bz11_7 {w W : World} (h : Below w.heap.size w W := by repeat (first | (with_reducible first | exact HB.out | apply below_alloc | apply pw_below_drewN | apply below_drew1) | exact HB.out)) : w.heap.size ≤ W.heap.size := below_size h
theorem bz11_8 {w W : World} (h : Below w.heap.size w W := by repeat (first | (with_reducible first | exact HB.out | apply below_alloc | apply pw_below_drewN | apply below_drew1 | refine below_set ?_ GE249.out) | exact HB.out)) : w.heap.size ≤ W.heap.size := below_size h
theorem bz11_9 {w W : World} (h : Below w.heap.size w W := by repeat (first | (with_reducible first | exact HB.out | apply below_alloc | apply pw_below_drewN | apply below_drew1 | refine below_set ?_ GE249.out | refine below_set ?_ GE250.out) | exact HB.out)) : w.heap.size ≤ W.heap.size := below_size h
theorem bz11_10 {w W : World} (h : Below w.heap.size w W := by repeat (first | (with_reducible first | exact HB.out | apply below_alloc | apply pw_below_drewN | apply below_drew1 | refine below_set ?_ GE260.out) | exact HB.out)) : w.heap.size ≤ W.heap.size := below_size h
theorem bz11_11 {w W : World} (h : Below w.heap.size w W := by repeat (first | (with_reducible first | exact HB.out | apply below_alloc | apply pw_below_drewN | apply below_drew1 | refine below_set ?_ GE260.out | refine below_set ?_ GE262.out) | exact HB.out)) : w.heap.size ≤ W.heap.size := below_size h
theorem bz11_12 {w W : World} (h : Below w.heap.size w W := by repeat (first | (with_reducible first | exact HB.out | apply below_alloc | apply pw_below_drewN | apply below_drew1 | refine below_set ?_ GE260.out | refine below_set ?_ GE262.out | refine below_set ?_ GE263.out) | exact HB.out)) : w.heap.size ≤ W.heap.size := below_size h
theorem bz11_13 {w W : World} (h : Below w.heap.size w W := by repeat (first | (with_reducible first | exact HB.out | apply below_alloc | apply pw_below_drewN | apply below_drew1 | refine below_set ?_ GE260.out | refine below_set ?_ GE262.out | refine below_set ?_ GE275.out) | exact HB.out)) : w.heap.size ≤ W.heap.size := below_size h
theorem bk11_14 {w w1 : World} {g : Nat} {o : Obj} (hb : Below w.heap.size w w1) (h : w.heap[g]? = some o := by (with_reducible repeat (first | refine blk_drewN ?_ _ | refine blk_drew ?_ | refine blk_alloc ?_ _)); exact BK249.out) : w1.heap[g]? = some o := blk_below h hb
theorem bk11_15 {w w1 : World} {g : Nat} {o : Obj} (hb : Below w.heap.size w w1) (h : w.heap[g]? = some o := by (with_reducible repeat (first | refine blk_drewN ?_ _ | refine blk_drew ?_ | refine blk_alloc ?_ _)); exact BK250.out) : w1.heap[g]? = some o := blk_below h hb
theorem bk11_16 {w w1 : World} {g : Nat} {o : Obj} (hb : Below w.heap.size w w1) (h : w.heap[g]? = some o := by (with_reducible repeat (first | refine blk_drewN ?_ _ | refine blk_drew ?_ | refine blk_alloc ?_ _)); exact BK256.out) : w1.heap[g]? = some o := blk_below h hb
theorem bk11_17 {w w1 : World} {g : Nat} {o : Obj} (hb : Below w.heap.size w w1) (h : w.heap[g]? = some o := by (with_reducible repeat (first | refine blk_drewN ?_ _ | refine blk_drew ?_ | refine blk_alloc ?_ _)); exact BK260.out) : w1.heap[g]? = some o := blk_below h hb
theorem bk11_18 {w w1 : World} {g : Nat} {o : Obj} (hb : Below w.heap.size w w1) (h : w.heap[g]? = some o := by (with_reducible repeat (first | refine blk_drewN ?_ _ | refine blk_drew ?_ | refine blk_alloc ?_ _)); exact BK262.out) : w1.heap[g]? = some o := blk_below h hb
theorem bb11_19 {w : World} {g : Nat} {o : Obj} (h : w.heap[g]? = some o := by (with_reducible repeat (first | refine blk_drewN ?_ _ | refine blk_drew ?_ | refine blk_alloc ?_ _)); exact BK249.out) : w.heap[g]? = some o := h
theorem bb11_20 {w : World} {g : Nat} {o : Obj} (h : w.heap[g]? = some o := by (with_reducible repeat (first | refine blk_drewN ?_ _ | refine blk_drew ?_ | refine blk_alloc ?_ _)); exact BK250.out) : w.heap[g]? = some o := h
theorem bb11_21 {w : World} {g : Nat} {o : Obj} (h : w.heap[g]? = some o := by (with_reducible repeat (first | refine blk_drewN ?_ _ | refine blk_drew ?_ | refine blk_alloc ?_ _)); exact BK260.out) : w.heap[g]? = some o := h
theorem bb11_22 {w : World} {g : Nat} {o : Obj} (h : w.heap[g]? = some o := by (with_reducible repeat (first | refine blk_drewN ?_ _ | refine blk_drew ?_ | refine blk_alloc ?_ _)); exact BK263.out) : w.heap[g]? = some o := h
theorem bb11_23 {w : World} {g : Nat} {o : Obj} (h : w.heap[g]? = some o := by (with_reducible repeat (first | refine blk_drewN ?_ _ | refine blk_drew ?_ | refine blk_alloc ?_ _)); exact BK262.out) : w.heap[g]? = some o := h
theorem ba11_24 {p : Prop} (h : p := by (try simp only [List.map_toArray, List.map_cons, List.map_nil]); first | done | rfl | (simp only [List.length_drop, List.length_take]; rfl)) : p := h
theorem bb11_25 {p : Prop} (h : p := by first | (with_reducible assumption) | assumption) : p := h
theorem bd11_26 {p : Prop} (h : p := by first | rfl | (simp; done) | (simp [*]; done)) : p := h
theorem bh11_27 {w W : World} (h : Below w.heap.size w W := by repeat (first | (with_reducible first | exact HB.out | apply below_alloc | apply pw_below_drewN | apply below_drew1 | refine below_set ?_ GE260.out | refine below_set ?_ GE262.out | refine below_set ?_ GE263.out) | exact HB.out)) : Below w.heap.size w W := h
theorem bh11_28 {w W : World} (h : Below w.heap.size w W := by repeat (first | (with_reducible first | exact HB.out | apply below_alloc | apply pw_below_drewN | apply below_drew1 | refine below_set ?_ GE260.out | refine below_set ?_ GE262.out) | exact HB.out)) : Below w.heap.size w W := h
theorem bh11_29 {w W : World} (h : Below w.heap.size w W := by repeat (first | (with_reducible first | exact HB.out | apply below_alloc | apply pw_below_drewN | apply below_drew1 | refine below_set ?_ GE260.out | refine below_set ?_ GE262.out | refine below_set ?_ GE275.out) | exact HB.out)) : Below w.heap.size w W := h


/-! ### remontoirref18_Time: function 17 -/
mutual
def remontoirref18_Time.j0 : Nat → Int → Int → Bool → ByteArray → List (S41) → List (S43) → Option (Int × Int × Bool)
  | 0, _, _, _, _, _, _ => none
  | k + 1, x1, x6, x23, x250000, x250001, x250002 => if x23 = true then (some (0, 0, false)) else (if 0 ≤ (wrap64 (x1 - 1)) then (if (wrap64 (x1 - 1)) < (x250001.length : Int) then ((remontoirref18_once.f k ((rd_T41 x250001 (wrap64 (x1 - 1))).f4)).bind fun bt253 => (if bt253.2.2 = true then (remontoirref18_Time.j1 k ((rd_T41 x250001 (wrap64 (x1 - 1))).f4) bt253.2.2 true bt253.1 bt253.2.1) else (remontoirref18_Time.j1 k ((rd_T41 x250001 (wrap64 (x1 - 1))).f4) bt253.2.2 (x6 != 9) bt253.1 bt253.2.1))) else (none)) else (none))
def remontoirref18_Time.j1 : Nat → ByteArray → Bool → Bool → Int → Int → Option (Int × Int × Bool)
  | 0, _, _, _, _, _ => none
  | k + 1, x7, x9, x41, x257000, x257001 => if x41 = true then (some (x257000, x257001, x9)) else ((remontoirref03_Parse.f k x7).bind fun bt257 => (if bt257.2.2 = 0 then (if bt257.1 > 9 then (some (0, 0, false)) else (some (bt257.1, bt257.2.1, true))) else (some (0, 0, false))))
end
def remontoirref18_Time.f (k : Nat) (a0_0 : ByteArray) (l0_1 : List (S41)) (l0_2 : List (S43)) (a1 : Int) : Option (Int × Int × Bool) := (remontoirref18_Kind.f a0_0 l0_1 l0_2 a1).bind fun t251 => (if t251 = 4 then (remontoirref18_Time.j0 k a1 t251 false a0_0 l0_1 l0_2) else (if t251 = 8 then (remontoirref18_Time.j0 k a1 t251 false a0_0 l0_1 l0_2) else (remontoirref18_Time.j0 k a1 t251 (t251 != 9) a0_0 l0_1 l0_2)))
theorem remontoirref18_Time.mono_l : ∀ k, (∀ y0 y1 y2 y3 y4 y5, LeO (remontoirref18_Time.j0 k y0 y1 y2 y3 y4 y5) (remontoirref18_Time.j0 (k + 1) y0 y1 y2 y3 y4 y5)) ∧ (∀ y0 y1 y2 y3 y4, LeO (remontoirref18_Time.j1 k y0 y1 y2 y3 y4) (remontoirref18_Time.j1 (k + 1) y0 y1 y2 y3 y4))
  | 0 => ⟨fun _ _ _ _ _ _ r h => by simp [remontoirref18_Time.j0] at h, fun _ _ _ _ _ r h => by simp [remontoirref18_Time.j1] at h⟩
  | k + 1 => by
    obtain ⟨ih0, ih1⟩ := remontoirref18_Time.mono_l k
    refine ⟨?_, ?_⟩
    · intro y0 y1 y2 y3 y4 y5
      unfold remontoirref18_Time.j0
      repeat' first
      | (with_reducible exact ih0 _ _ _ _ _ _)
      | (with_reducible exact ih1 _ _ _ _ _)
      | (with_reducible exact remontoirref03_Parse.mono _ _)
      | (with_reducible exact remontoirref18_once.mono _ _)
      | (with_reducible exact LeO.refl _)
      | (with_reducible exact LeO.none _)
      | (with_reducible refine LeO.ite ?_ ?_)
      | (with_reducible refine LeO.bind ?_ (fun _ => ?_))
      | exact ih0 _ _ _ _ _ _
      | exact ih1 _ _ _ _ _
      | exact remontoirref03_Parse.mono _ _
      | exact remontoirref18_once.mono _ _
      | exact LeO.none _
      | refine LeO.ite ?_ ?_
      | refine LeO.bind ?_ (fun _ => ?_)
    · intro y0 y1 y2 y3 y4
      unfold remontoirref18_Time.j1
      repeat' first
      | (with_reducible exact ih0 _ _ _ _ _ _)
      | (with_reducible exact ih1 _ _ _ _ _)
      | (with_reducible exact remontoirref03_Parse.mono _ _)
      | (with_reducible exact remontoirref18_once.mono _ _)
      | (with_reducible exact LeO.refl _)
      | (with_reducible exact LeO.none _)
      | (with_reducible refine LeO.ite ?_ ?_)
      | (with_reducible refine LeO.bind ?_ (fun _ => ?_))
      | exact ih0 _ _ _ _ _ _
      | exact ih1 _ _ _ _ _
      | exact remontoirref03_Parse.mono _ _
      | exact remontoirref18_once.mono _ _
      | exact LeO.none _
      | refine LeO.ite ?_ ?_
      | refine LeO.bind ?_ (fun _ => ?_)
theorem remontoirref18_Time.mono : ∀ a0 a1 a2 a3 k, LeO (remontoirref18_Time.f k a0 a1 a2 a3) (remontoirref18_Time.f (k + 1) a0 a1 a2 a3) := by
  intro a0 a1 a2 a3 k
  obtain ⟨ih0, ih1⟩ := remontoirref18_Time.mono_l k
  unfold remontoirref18_Time.f
  repeat' first
      | (with_reducible exact ih0 _ _ _ _ _ _)
      | (with_reducible exact ih1 _ _ _ _ _)
      | (with_reducible exact remontoirref03_Parse.mono _ _)
      | (with_reducible exact remontoirref18_once.mono _ _)
      | (with_reducible exact LeO.refl _)
      | (with_reducible exact LeO.none _)
      | (with_reducible refine LeO.ite ?_ ?_)
      | (with_reducible refine LeO.bind ?_ (fun _ => ?_))
      | exact ih0 _ _ _ _ _ _
      | exact ih1 _ _ _ _ _
      | exact remontoirref03_Parse.mono _ _
      | exact remontoirref18_once.mono _ _
      | exact LeO.none _
      | refine LeO.ite ?_ ?_
      | refine LeO.bind ?_ (fun _ => ?_)
set_option maxHeartbeats 8000000 in
set_option maxRecDepth 100000 in
theorem remontoirref18_Time.calls (k : Nat) (a0_0 : ByteArray) (A0_1 : Option Addr) (c0_1 : Nat) (l0_1 : List (S41)) (A0_2 : Option Addr) (c0_2 : Nat) (l0_2 : List (S43)) (a1 : Int) (r1 : Int) (r2 : Int) (r3 : Bool) (w : World) (hr0_1 : Kd.C k41 w A0_1 l0_1.length l0_1) (hc0_1 : l0_1.length ≤ c0_1) (hr0_2 : Kd.C k43 w A0_2 l0_2.length l0_2) (hc0_2 : l0_2.length ≤ c0_2) (h : remontoirref18_Time.f k a0_0 l0_1 l0_2 a1 = some (r1, r2, r3)) :
    Calls Tryz.prog 17 #[.agg #[.string a0_0, .slice A0_1 l0_1.length c0_1, .slice A0_2 l0_2.length c0_2], .int .i64 a1] w fun e w' => e = .returned (.tuple #[.agg #[.int .i64 r1, .int .u64 r2], .bool r3]) ∧ Below w.heap.size w w' := by
  have hu25 := Tryz.underlying25
  have hu51 := Tryz.underlying51
  have HR0_1 := Aside0.mk hr0_1
  have HC0_1 := Aside0.mk hc0_1
  clear hr0_1 hc0_1
  have HR0_2 := Aside0.mk hr0_2
  have HC0_2 := Aside0.mk hc0_2
  clear hr0_2 hc0_2
  have HB := Aside0.mk (Below.refl w.heap.size w)
  unfold remontoirref18_Time.f at h
  have H := h
  clear h
  obtain ⟨t251, A3, H⟩ := bdA H
  have HC4 := Aside0.mk H
  clear H
  go_enter Tryz.func17, Tryz.ntmps17
  go_upto_region 2 with (first | ((with_reducible refine gate_dst (N := 2) rfl ?_); refine box_event ?hg (N := 2) ?hd (cs := #[.string a0_0, .slice A0_1 l0_1.length c0_1, .slice A0_2 l0_2.length c0_2]) (t := 25) ?hr ?_; (case hd => rfl); (case hg => rfl); (case hr => first | (go_simp; done) | (go_simp; rfl)); intro gb249 hg w5 hbox hb; have BK249 := Aside0.mk (hbox); have GW249 := Aside0.mk ((by rw [hg]; exact bz11_7 : w.heap.size ≤ gb249)); have GE249 := Aside0.mk ((by rw [hg]; exact bz11_7 : w.heap.size ≤ gb249)); replace HB := Aside0.mk (bs11_0 hb); clear hb hbox hg) | ((with_reducible refine gate_dst (N := 4) rfl ?_); refine box_event ?hg (N := 4) ?hd (cs := #[.int .i64 0, .int .u64 0]) (t := 51) ?hr ?_; (case hd => rfl); (case hg => rfl); (case hr => first | (go_simp; done) | (go_simp; rfl)); intro gb250 hg w6 hbox hb; have BK250 := Aside0.mk (hbox); have GW250 := Aside0.mk ((by rw [hg]; exact bz11_8 : w.heap.size ≤ gb250)); have GE250 := Aside0.mk ((by rw [hg]; exact bz11_8 : w.heap.size ≤ gb250)); replace HB := Aside0.mk (bs11_1 hb); have NB249_250 := Aside0.mk ((by rw [hg]; exact Nat.ne_of_lt (blk_lt (g := gb249) (o := .cells #[.string a0_0, .slice A0_1 l0_1.length c0_1, .slice A0_2 l0_2.length c0_2] 25 (0, 0)) bb11_19) : gb249 ≠ gb250)); have NB250_249 := Aside0.mk ((by rw [hg]; exact Nat.ne_of_gt (blk_lt (g := gb249) (o := .cells #[.string a0_0, .slice A0_1 l0_1.length c0_1, .slice A0_2 l0_2.length c0_2] 25 (0, 0)) bb11_19) : gb250 ≠ gb249)); replace BK249 := Aside0.mk (bk11_14 (g := gb249) (o := .cells #[.string a0_0, .slice A0_1 l0_1.length c0_1, .slice A0_2 l0_2.length c0_2] 25 (0, 0)) hb); clear hb hbox hg; have hnb7 := NB249_250.out; have hnc7 := NB250_249.out; have hcz8_0 : w6.cell? ⟨gb249, 0, none⟩ = some (.string a0_0) := (blk_cell BK249.out 0).trans rfl; have hcz8_1 : w6.cell? ⟨gb249, 1, none⟩ = some (.slice A0_1 l0_1.length c0_1) := (blk_cell BK249.out 1).trans rfl; have hcz8_2 : w6.cell? ⟨gb249, 2, none⟩ = some (.slice A0_2 l0_2.length c0_2) := (blk_cell BK249.out 2).trans rfl; have hfz8_0 := blk_frozen BK249.out 0; have hfz8_1 := blk_frozen BK249.out 1; have hfz8_2 := blk_frozen BK249.out 2) | ((with_reducible refine gate_callee (f := 24) rfl ?_); refine goesL_ (some 13) rfl rfl Tryz.func24 (by kernel_rfl) rfl #[.agg #[.string a0_0, .slice A0_1 l0_1.length c0_1, .slice A0_2 l0_2.length c0_2], .int .i64 a1] rfl ba11_24 ?_; (with_reducible refine (remontoirref18_Kind.calls a0_0 _ _ l0_1 _ _ l0_2 a1 t251 _ ?side1 ?side2 ?side3 ?side4 A3.out).mono ?_); (case side1 => repeat (first | exact (Kd.C_below HR0_1.out HB.out) | (with_reducible refine Kd.C_alloc ?_ _) | (with_reducible refine Kd.C_drewN ?_ _) | (with_reducible refine Kd.C_drew ?_))); (case side2 => exact HC0_1.out); (case side3 => repeat (first | exact (Kd.C_below HR0_2.out HB.out) | (with_reducible refine Kd.C_alloc ?_ _) | (with_reducible refine Kd.C_drewN ?_ _) | (with_reducible refine Kd.C_drew ?_))); (case side4 => exact HC0_2.out); rintro e w9 ⟨rfl, hb⟩; refine ⟨_, rfl, ?_⟩; replace BK249 := Aside0.mk (bk11_14 (g := gb249) (o := .cells #[.string a0_0, .slice A0_1 l0_1.length c0_1, .slice A0_2 l0_2.length c0_2] 25 (0, 0)) hb); replace BK250 := Aside0.mk (bk11_15 (g := gb250) (o := .cells #[.int .i64 0, .int .u64 0] 51 (0, 0)) hb); replace HB := Aside0.mk (bs11_2 hb); (try clear hb); (try clear hb2); (try clear hk); (try clear hi)))
  (try simp only [Act.put, List.setIfInBounds_toArray, List.set_cons_zero, List.set_cons_succ])
  go_cut [23] (fun v23 wc => ∃ (kq : Nat) (x23_3 : Bool), v23 = .bool x23_3 ∧ Aside0 (remontoirref18_Time.j0 kq a1 t251 x23_3 a0_0 l0_1 l0_2 = some (r1, r2, r3)) ∧ Aside0 (kq ≤ k) ∧ Aside0 (wc.heap[gb249]? = some (.cells #[.string a0_0, (.slice A0_1 l0_1.length c0_1), (.slice A0_2 l0_2.length c0_2)] 25 (0, 0))) ∧ Aside0 (wc.heap[gb250]? = some (.cells #[.int .i64 0, .int .u64 0] 51 (0, 0))) ∧ Aside0 (Below w.heap.size w wc))
  case first =>
    have H := HC4.out
    clear HC4
    by_cases c10 : t251 = 4
    · rw [if_pos c10] at H
      have c10b0 := beq_iff_eq.mpr c10
      have c10b1 := bne_eq_false_iff_eq.mpr c10
      clear c10
      (first | rw [c10b0] | (simp only [i64_w, i32_w]; rw [c10b0]) | skip)
      have H' := Aside0.mk H
      clear H
      go_wp2
      go_meet
      case rel => exact ⟨_, (false), bd11_26, H', ⟨by first | omega | exact Nat.le_refl _⟩, ⟨by (with_reducible repeat (first | refine blk_drewN ?_ _ | refine blk_drew ?_ | refine blk_alloc ?_ _)); exact BK249.out⟩, ⟨by (with_reducible repeat (first | refine blk_drewN ?_ _ | refine blk_drew ?_ | refine blk_alloc ?_ _)); exact BK250.out⟩, ⟨by repeat (first | (with_reducible first | exact HB.out | apply below_alloc | apply pw_below_drewN | apply below_drew1 | refine below_set ?_ GE249.out | refine below_set ?_ GE250.out) | exact HB.out)⟩⟩
    rw [if_neg c10] at H
    have c10b0 := beq_eq_false_iff_ne.mpr c10
    have c10b1 := bne_iff_ne.mpr c10
    (first | rw [c10b0] | (simp only [i64_w, i32_w]; rw [c10b0]) | skip)
    by_cases c11 : t251 = 8
    rotate_left
    · rw [if_neg c11] at H
      have c11b0 := beq_eq_false_iff_ne.mpr c11
      have c11b1 := bne_iff_ne.mpr c11
      have H' := Aside0.mk H
      clear H
      go_wp2
      go_meet
      case rel => exact ⟨_, ((t251 != 9)), bd11_26, H', ⟨by first | omega | exact Nat.le_refl _⟩, ⟨by (with_reducible repeat (first | refine blk_drewN ?_ _ | refine blk_drew ?_ | refine blk_alloc ?_ _)); exact BK249.out⟩, ⟨by (with_reducible repeat (first | refine blk_drewN ?_ _ | refine blk_drew ?_ | refine blk_alloc ?_ _)); exact BK250.out⟩, ⟨by repeat (first | (with_reducible first | exact HB.out | apply below_alloc | apply pw_below_drewN | apply below_drew1 | refine below_set ?_ GE249.out | refine below_set ?_ GE250.out) | exact HB.out)⟩⟩
    rw [if_pos c11] at H
    have c11b0 := beq_iff_eq.mpr c11
    have c11b1 := bne_eq_false_iff_eq.mpr c11
    clear c11
    have H' := Aside0.mk H
    clear H
    go_wp2
    go_meet
    case rel => exact ⟨_, (false), bd11_26, H', ⟨by first | omega | exact Nat.le_refl _⟩, ⟨by (with_reducible repeat (first | refine blk_drewN ?_ _ | refine blk_drew ?_ | refine blk_alloc ?_ _)); exact BK249.out⟩, ⟨by (with_reducible repeat (first | refine blk_drewN ?_ _ | refine blk_drew ?_ | refine blk_alloc ?_ _)); exact BK250.out⟩, ⟨by repeat (first | (with_reducible first | exact HB.out | apply below_alloc | apply pw_below_drewN | apply below_drew1 | refine below_set ?_ GE249.out | refine below_set ?_ GE250.out) | exact HB.out)⟩⟩
  case rest =>
    clear HC4
    try clear c1
    try clear c2
    try clear p2
    try clear c7
    try clear c10
    try clear c10b0
    try clear c10b1
    try clear c11
    try clear c11b0
    try clear c11b1
    try clear hcz8_0
    try clear hcz8_1
    try clear hcz8_2
    try clear hfz8_0
    try clear hfz8_1
    try clear hfz8_2
    obtain ⟨kq, x23_3, rfl, HA, HJ3, BK249, BK250, HB⟩ := hcut
    cases kq with
    | zero => exact absurd HA.out (by simp [remontoirref18_Time.j0])
    | succ kj3 =>
      have H := HA.out
      clear HA
      simp only [remontoirref18_Time.j0] at H
      by_cases c12 : x23_3 = true
      · subst c12
        rw [if_pos rfl] at H
        simp only [Option.some.injEq, Prod.mk.injEq] at H
        obtain ⟨rfl, rfl, rfl⟩ := H
        have hnb13 := NB250_249.out
        have hnc13 := NB249_250.out
        have hcz14_0 : wc.cell? ⟨gb250, 0, none⟩ = some (.int .i64 0) := (blk_cell BK250.out 0).trans rfl
        have hcz14_1 : wc.cell? ⟨gb250, 1, none⟩ = some (.int .u64 0) := (blk_cell BK250.out 1).trans rfl
        have hfz14_0 := blk_frozen BK250.out 0
        have hfz14_1 := blk_frozen BK250.out 1
        go_wp2
        refine bodyPost_ret (results_ct rfl _ _ gb250 51 #[.int .i64 0, .int .u64 0] (0, 0) _ rfl (by (with_reducible repeat (first | refine blk_drewN ?_ _ | refine blk_drew ?_ | refine blk_alloc ?_ _)); refine blk_put (cs := #[.int .i64 0, .int .u64 0]) ?_ 1 _ rfl; (with_reducible repeat (first | refine blk_drewN ?_ _ | refine blk_drew ?_ | refine blk_alloc ?_ _)); refine blk_put (cs := #[.int .i64 0, .int .u64 0]) ?_ 0 _ rfl; (with_reducible repeat (first | refine blk_drewN ?_ _ | refine blk_drew ?_ | refine blk_alloc ?_ _)); exact BK250.out) Tryz.underlying51 rfl (by kernel_rfl)) rfl ?_
        exact ⟨by first | rfl | (simp [errW_none, errW_some] <;> rfl) | (simp [*, errW_none, errW_some] <;> rfl), by repeat (first | (with_reducible first | exact HB.out | apply below_alloc | apply pw_below_drewN | apply below_drew1 | refine below_set ?_ GE249.out | refine below_set ?_ GE250.out) | exact HB.out)⟩
      replace c12 := Bool.eq_false_iff.mpr c12
      subst c12
      rw [if_neg nft] at H
      obtain ⟨ji15, hji15⟩ : ∃ j_ : Int, (wrap64 (a1 - 1)) = j_ := ⟨_, rfl⟩
      replace H : (if 0 ≤ (ji15) then (if (ji15) < (l0_1.length : Int) then ((remontoirref18_once.f kj3 ((rd_T41 l0_1 (ji15)).f4)).bind fun bt253 => (if bt253.2.2 = true then (remontoirref18_Time.j1 kj3 ((rd_T41 l0_1 (ji15)).f4) bt253.2.2 true bt253.1 bt253.2.1) else (remontoirref18_Time.j1 kj3 ((rd_T41 l0_1 (ji15)).f4) bt253.2.2 (t251 != 9) bt253.1 bt253.2.1))) else (none)) else (none)) = some (r1, r2, r3) := by first | (rw [hji15] at H; exact H) | (simp only [hji15] at H ⊢; exact H)
      have hji15w : (IntKind.i64.wrap (a1 - 1)) = ji15 := (i64_w _).trans hji15
      obtain ⟨c16, H⟩ := itS H
      have c16b0 := decide_eq_true c16
      clear c16
      obtain ⟨c17, H⟩ := itS H
      have c17b0 := decide_eq_true c17
      clear c17
      obtain ⟨⟨t253, t254, t255⟩, A18, H⟩ := bdA H
      dsimp only at H
      have HC19 := Aside0.mk H
      clear H
      have hnb20 := NB249_250.out
      have hnc20 := NB250_249.out
      have hcz21_0 : wc.cell? ⟨gb249, 0, none⟩ = some (.string a0_0) := (blk_cell BK249.out 0).trans rfl
      have hcz21_1 : wc.cell? ⟨gb249, 1, none⟩ = some (.slice A0_1 l0_1.length c0_1) := (blk_cell BK249.out 1).trans rfl
      have hcz21_2 : wc.cell? ⟨gb249, 2, none⟩ = some (.slice A0_2 l0_2.length c0_2) := (blk_cell BK249.out 2).trans rfl
      have hfz21_0 := blk_frozen BK249.out 0
      have hfz21_1 := blk_frozen BK249.out 1
      have hfz21_2 := blk_frozen BK249.out 2
      have p252 : 0 ≤ ((ji15) : Int) := of_decide_eq_true bb11_25
      have q252 : (ji15) < (l0_1.length : Int) := of_decide_eq_true bb11_25
      obtain ⟨ad252, e252, hx252_0, hx252_1, hx252_2, hx252_3, hx252_4⟩ := at_T41 HR0_1.out (ji15) p252 q252
      cases e252
      replace hx252_0 := (HB.out.cell (World.block_lt_of_cell? w _ hx252_0)).trans hx252_0
      replace hx252_1 := (HB.out.cell (World.block_lt_of_cell? w _ hx252_1)).trans hx252_1
      replace hx252_2 := (HB.out.cell (World.block_lt_of_cell? w _ hx252_2)).trans hx252_2
      replace hx252_3 := (HB.out.cell (World.block_lt_of_cell? w _ hx252_3)).trans hx252_3
      replace hx252_4 := (HB.out.cell (World.block_lt_of_cell? w _ hx252_4)).trans hx252_4
      replace p252 := eq_true p252
      replace q252 := eq_true q252
      go_upto_region 6 with (first | ((with_reducible refine gate_callee (f := 25) rfl ?_); refine goesL_ (some 34) rfl rfl Tryz.func25 (by kernel_rfl) rfl #[.string ((rd_T41 l0_1 (ji15)).f4)] rfl (by (try simp only [List.map_toArray, List.map_cons, List.map_nil]); first | done | (simp only [hji15]; rfl) | rfl | (simp only [List.length_drop, List.length_take]; rfl)) ?_; (with_reducible refine (remontoirref18_once.calls kj3 ((rd_T41 l0_1 (ji15)).f4) t253 t254 t255 _ A18.out).mono ?_); rintro e w22 ⟨rfl, hb⟩; refine ⟨_, rfl, ?_⟩; replace BK249 := Aside0.mk (bk11_14 (g := gb249) (o := .cells #[.string a0_0, .slice (some ad252) l0_1.length c0_1, .slice A0_2 l0_2.length c0_2] 25 (0, 0)) hb); replace BK250 := Aside0.mk (bk11_15 (g := gb250) (o := .cells #[.int .i64 0, .int .u64 0] 51 (0, 0)) hb); replace HB := Aside0.mk (bs11_2 hb); (try clear hb); (try clear hb2); (try clear hk); (try clear hi)) | ((with_reducible refine gate_dst (N := 8) rfl ?_); refine box_event ?hg (N := 8) ?hd (cs := #[.int .i64 0, .int .u64 0]) (t := 51) ?hr ?_; (case hd => rfl); (case hg => rfl); (case hr => first | (go_simp; done) | (go_simp; rfl)); intro gb256 hg w23 hbox hb; have BK256 := Aside0.mk (hbox); have GW256 := Aside0.mk ((by rw [hg]; exact bz11_9 : w.heap.size ≤ gb256)); have GE256 := Aside0.mk ((by rw [hg]; exact bz11_9 : w.heap.size ≤ gb256)); replace HB := Aside0.mk (bs11_2 hb); have NB249_256 := Aside0.mk ((by rw [hg]; exact Nat.ne_of_lt (blk_lt (g := gb249) (o := .cells #[.string a0_0, .slice (some ad252) l0_1.length c0_1, .slice A0_2 l0_2.length c0_2] 25 (0, 0)) bb11_19) : gb249 ≠ gb256)); have NB256_249 := Aside0.mk ((by rw [hg]; exact Nat.ne_of_gt (blk_lt (g := gb249) (o := .cells #[.string a0_0, .slice (some ad252) l0_1.length c0_1, .slice A0_2 l0_2.length c0_2] 25 (0, 0)) bb11_19) : gb256 ≠ gb249)); replace BK249 := Aside0.mk (bk11_14 (g := gb249) (o := .cells #[.string a0_0, .slice (some ad252) l0_1.length c0_1, .slice A0_2 l0_2.length c0_2] 25 (0, 0)) hb); have NB250_256 := Aside0.mk ((by rw [hg]; exact Nat.ne_of_lt (blk_lt (g := gb250) (o := .cells #[.int .i64 0, .int .u64 0] 51 (0, 0)) bb11_20) : gb250 ≠ gb256)); have NB256_250 := Aside0.mk ((by rw [hg]; exact Nat.ne_of_gt (blk_lt (g := gb250) (o := .cells #[.int .i64 0, .int .u64 0] 51 (0, 0)) bb11_20) : gb256 ≠ gb250)); replace BK250 := Aside0.mk (bk11_15 (g := gb250) (o := .cells #[.int .i64 0, .int .u64 0] 51 (0, 0)) hb); clear hb hbox hg; have hnb24 := NB256_249.out; have hnc24 := NB249_256.out; have hnb25 := NB256_250.out; have hnc25 := NB250_256.out; have hcz26_0 : w23.cell? ⟨gb256, 0, none⟩ = some (.int .i64 0) := (blk_cell BK256.out 0).trans rfl; have hcz26_1 : w23.cell? ⟨gb256, 1, none⟩ = some (.int .u64 0) := (blk_cell BK256.out 1).trans rfl; have hfz26_0 := blk_frozen BK256.out 0; have hfz26_1 := blk_frozen BK256.out 1))
      (try simp only [Act.put, List.setIfInBounds_toArray, List.set_cons_zero, List.set_cons_succ])
      go_cut [41] (fun v41 wc => ∃ (kq : Nat) (x41_18 : Bool), v41 = .bool x41_18 ∧ Aside0 (remontoirref18_Time.j1 kq ((rd_T41 l0_1 (ji15)).f4) t255 x41_18 t253 t254 = some (r1, r2, r3)) ∧ Aside0 (kq ≤ kj3) ∧ Aside0 (wc.heap[gb249]? = some (.cells #[.string a0_0, (.slice (some ad252) l0_1.length c0_1), (.slice A0_2 l0_2.length c0_2)] 25 (0, 0))) ∧ Aside0 (wc.heap[gb250]? = some (.cells #[.int .i64 0, .int .u64 0] 51 (0, 0))) ∧ Aside0 (wc.heap[gb256]? = some (.cells #[.int .i64 t253, .int .u64 t254] 51 (0, 0))) ∧ Aside0 (Below w.heap.size w wc))
      case first =>
        have H := HC19.out
        clear HC19
        by_cases c27 : t255 = true
        · subst c27
          rw [if_pos rfl] at H
          have H' := Aside0.mk H
          clear H
          go_wp2
          go_meet
          case rel => exact ⟨_, (true), bd11_26, H', ⟨by have := HJ3.out; first | omega | exact Nat.le_refl _⟩, ⟨by (with_reducible repeat (first | refine blk_drewN ?_ _ | refine blk_drew ?_ | refine blk_alloc ?_ _)); refine blk_far ?_ NB249_256.out _; (with_reducible repeat (first | refine blk_drewN ?_ _ | refine blk_drew ?_ | refine blk_alloc ?_ _)); refine blk_far ?_ NB249_256.out _; (with_reducible repeat (first | refine blk_drewN ?_ _ | refine blk_drew ?_ | refine blk_alloc ?_ _)); exact BK249.out⟩, ⟨by (with_reducible repeat (first | refine blk_drewN ?_ _ | refine blk_drew ?_ | refine blk_alloc ?_ _)); refine blk_far ?_ NB250_256.out _; (with_reducible repeat (first | refine blk_drewN ?_ _ | refine blk_drew ?_ | refine blk_alloc ?_ _)); refine blk_far ?_ NB250_256.out _; (with_reducible repeat (first | refine blk_drewN ?_ _ | refine blk_drew ?_ | refine blk_alloc ?_ _)); exact BK250.out⟩, ⟨by (with_reducible repeat (first | refine blk_drewN ?_ _ | refine blk_drew ?_ | refine blk_alloc ?_ _)); refine blk_put (cs := #[.int .i64 t253, .int .u64 0]) ?_ 1 _ rfl; (with_reducible repeat (first | refine blk_drewN ?_ _ | refine blk_drew ?_ | refine blk_alloc ?_ _)); refine blk_put (cs := #[.int .i64 0, .int .u64 0]) ?_ 0 _ rfl; (with_reducible repeat (first | refine blk_drewN ?_ _ | refine blk_drew ?_ | refine blk_alloc ?_ _)); exact BK256.out⟩, ⟨by repeat (first | (with_reducible first | exact HB.out | apply below_alloc | apply pw_below_drewN | apply below_drew1 | refine below_set ?_ GE249.out | refine below_set ?_ GE250.out | refine below_set ?_ GE256.out) | exact HB.out)⟩⟩
        replace c27 := Bool.eq_false_iff.mpr c27
        subst c27
        rw [if_neg nft] at H
        have H' := Aside0.mk H
        clear H
        go_wp2
        go_meet
        case rel => exact ⟨_, ((t251 != 9)), bd11_26, H', ⟨by have := HJ3.out; first | omega | exact Nat.le_refl _⟩, ⟨by (with_reducible repeat (first | refine blk_drewN ?_ _ | refine blk_drew ?_ | refine blk_alloc ?_ _)); refine blk_far ?_ NB249_256.out _; (with_reducible repeat (first | refine blk_drewN ?_ _ | refine blk_drew ?_ | refine blk_alloc ?_ _)); refine blk_far ?_ NB249_256.out _; (with_reducible repeat (first | refine blk_drewN ?_ _ | refine blk_drew ?_ | refine blk_alloc ?_ _)); exact BK249.out⟩, ⟨by (with_reducible repeat (first | refine blk_drewN ?_ _ | refine blk_drew ?_ | refine blk_alloc ?_ _)); refine blk_far ?_ NB250_256.out _; (with_reducible repeat (first | refine blk_drewN ?_ _ | refine blk_drew ?_ | refine blk_alloc ?_ _)); refine blk_far ?_ NB250_256.out _; (with_reducible repeat (first | refine blk_drewN ?_ _ | refine blk_drew ?_ | refine blk_alloc ?_ _)); exact BK250.out⟩, ⟨by (with_reducible repeat (first | refine blk_drewN ?_ _ | refine blk_drew ?_ | refine blk_alloc ?_ _)); refine blk_put (cs := #[.int .i64 t253, .int .u64 0]) ?_ 1 _ rfl; (with_reducible repeat (first | refine blk_drewN ?_ _ | refine blk_drew ?_ | refine blk_alloc ?_ _)); refine blk_put (cs := #[.int .i64 0, .int .u64 0]) ?_ 0 _ rfl; (with_reducible repeat (first | refine blk_drewN ?_ _ | refine blk_drew ?_ | refine blk_alloc ?_ _)); exact BK256.out⟩, ⟨by repeat (first | (with_reducible first | exact HB.out | apply below_alloc | apply pw_below_drewN | apply below_drew1 | refine below_set ?_ GE249.out | refine below_set ?_ GE250.out | refine below_set ?_ GE256.out) | exact HB.out)⟩⟩
      case rest =>
        clear HC19
        try clear c1
        try clear c2
        try clear p2
        try clear q2
        try clear hx2
        try clear p6
        try clear c7
        try clear c10
        try clear c10b0
        try clear c10b1
        try clear c11
        try clear c11b0
        try clear c11b1
        try clear c12
        try clear c13
        try clear c16
        try clear c16b0
        try clear c17
        try clear c17b0
        try clear c20
        try clear c24
        try clear c25
        try clear p25
        try clear q25
        try clear hx25
        try clear c27
        try clear hcz14_0
        try clear hcz14_1
        try clear hcz21_0
        try clear hcz21_1
        try clear hcz21_2
        try clear hcz26_0
        try clear hcz26_1
        try clear hcz8_0
        try clear hcz8_1
        try clear hcz8_2
        try clear hfz14_0
        try clear hfz14_1
        try clear hfz21_0
        try clear hfz21_1
        try clear hfz21_2
        try clear hfz26_0
        try clear hfz26_1
        try clear hfz8_0
        try clear hfz8_1
        try clear hfz8_2
        try clear hx252_0
        try clear hx252_1
        try clear hx252_2
        try clear hx252_3
        try clear hx252_4
        try clear p2
        try clear p252
        try clear q252
        obtain ⟨kq, x41_18, rfl, HA, HJ18, BK249, BK250, BK256, HB⟩ := hcut
        cases kq with
        | zero => exact absurd HA.out (by simp [remontoirref18_Time.j1])
        | succ kj18 =>
          have H := HA.out
          clear HA
          simp only [remontoirref18_Time.j1] at H
          by_cases c28 : x41_18 = true
          · subst c28
            rw [if_pos rfl] at H
            simp only [Option.some.injEq, Prod.mk.injEq] at H
            obtain ⟨rfl, rfl, rfl⟩ := H
            have hnb29 := NB256_249.out
            have hnc29 := NB249_256.out
            have hnb30 := NB256_250.out
            have hnc30 := NB250_256.out
            have hcz31_0 : wc.cell? ⟨gb256, 0, none⟩ = some (.int .i64 t253) := (blk_cell BK256.out 0).trans rfl
            have hcz31_1 : wc.cell? ⟨gb256, 1, none⟩ = some (.int .u64 t254) := (blk_cell BK256.out 1).trans rfl
            have hfz31_0 := blk_frozen BK256.out 0
            have hfz31_1 := blk_frozen BK256.out 1
            have hnb32 := NB250_249.out
            have hnc32 := NB249_250.out
            have hcz33_0 : wc.cell? ⟨gb250, 0, none⟩ = some (.int .i64 0) := (blk_cell BK250.out 0).trans rfl
            have hcz33_1 : wc.cell? ⟨gb250, 1, none⟩ = some (.int .u64 0) := (blk_cell BK250.out 1).trans rfl
            have hfz33_0 := blk_frozen BK250.out 0
            have hfz33_1 := blk_frozen BK250.out 1
            go_wp2
            refine bodyPost_ret (results_ct rfl _ _ gb250 51 #[.int .i64 t253, .int .u64 t254] (0, 0) _ rfl (by (with_reducible repeat (first | refine blk_drewN ?_ _ | refine blk_drew ?_ | refine blk_alloc ?_ _)); refine blk_put (cs := #[.int .i64 t253, .int .u64 0]) ?_ 1 _ rfl; (with_reducible repeat (first | refine blk_drewN ?_ _ | refine blk_drew ?_ | refine blk_alloc ?_ _)); refine blk_put (cs := #[.int .i64 0, .int .u64 0]) ?_ 0 _ rfl; (with_reducible repeat (first | refine blk_drewN ?_ _ | refine blk_drew ?_ | refine blk_alloc ?_ _)); exact BK250.out) Tryz.underlying51 rfl (by kernel_rfl)) rfl ?_
            exact ⟨by first | rfl | (simp [errW_none, errW_some] <;> rfl) | (simp only [← hji15]; first | rfl | (simp [errW_none, errW_some] <;> rfl)) | (simp [*, errW_none, errW_some] <;> rfl), by repeat (first | (with_reducible first | exact HB.out | apply below_alloc | apply pw_below_drewN | apply below_drew1 | refine below_set ?_ GE249.out | refine below_set ?_ GE250.out | refine below_set ?_ GE256.out) | exact HB.out)⟩
          replace c28 := Bool.eq_false_iff.mpr c28
          subst c28
          rw [if_neg nft] at H
          obtain ⟨⟨t257, t258, t259⟩, A34, H⟩ := bdA H
          dsimp only at H
          by_cases c35 : t259 = 0
          rotate_left
          · rw [if_neg c35] at H
            have c35b0 := beq_eq_false_iff_ne.mpr c35
            have c35b1 := bne_iff_ne.mpr c35
            simp only [Option.some.injEq, Prod.mk.injEq] at H
            obtain ⟨rfl, rfl, rfl⟩ := H
            go_wp2_with (first | ((with_reducible refine gate_callee (f := 26) rfl ?_); refine goesL_ (some 46) rfl rfl Tryz.func26 (by kernel_rfl) rfl #[.string ((rd_T41 l0_1 (ji15)).f4)] rfl (by (try simp only [List.map_toArray, List.map_cons, List.map_nil]); first | done | (simp only [hji15]; rfl) | rfl | (simp only [List.length_drop, List.length_take]; rfl)) ?_; (with_reducible refine (remontoirref03_Parse.calls kj18 ((rd_T41 l0_1 (ji15)).f4) t257 t258 t259 _ A34.out).mono ?_); rintro e w49 ⟨rfl, hb⟩; refine ⟨_, rfl, ?_⟩; replace BK249 := Aside0.mk (bk11_14 (g := gb249) (o := .cells #[.string a0_0, .slice (some ad252) l0_1.length c0_1, .slice A0_2 l0_2.length c0_2] 25 (0, 0)) hb); replace BK250 := Aside0.mk (bk11_15 (g := gb250) (o := .cells #[.int .i64 0, .int .u64 0] 51 (0, 0)) hb); replace BK256 := Aside0.mk (bk11_16 (g := gb256) (o := .cells #[.int .i64 t253, .int .u64 t254] 51 (0, 0)) hb); replace HB := Aside0.mk (bs11_3 hb); (try clear hb); (try clear hb2); (try clear hk); (try clear hi); have hnb50 := NB256_249.out; have hnc50 := NB249_256.out; have hnb51 := NB256_250.out; have hnc51 := NB250_256.out; have hcz52_0 : w49.cell? ⟨gb256, 0, none⟩ = some (.int .i64 t253) := (blk_cell BK256.out 0).trans rfl; have hcz52_1 : w49.cell? ⟨gb256, 1, none⟩ = some (.int .u64 t254) := (blk_cell BK256.out 1).trans rfl; have hfz52_0 := blk_frozen BK256.out 0; have hfz52_1 := blk_frozen BK256.out 1; have hnb53 := NB250_249.out; have hnc53 := NB249_250.out; have hcz54_0 : w49.cell? ⟨gb250, 0, none⟩ = some (.int .i64 0) := (blk_cell BK250.out 0).trans rfl; have hcz54_1 : w49.cell? ⟨gb250, 1, none⟩ = some (.int .u64 0) := (blk_cell BK250.out 1).trans rfl; have hfz54_0 := blk_frozen BK250.out 0; have hfz54_1 := blk_frozen BK250.out 1))
            refine bodyPost_ret (results_ct rfl _ _ gb250 51 #[.int .i64 0, .int .u64 0] (0, 0) _ rfl (by (with_reducible repeat (first | refine blk_drewN ?_ _ | refine blk_drew ?_ | refine blk_alloc ?_ _)); refine blk_put (cs := #[.int .i64 0, .int .u64 0]) ?_ 1 _ rfl; (with_reducible repeat (first | refine blk_drewN ?_ _ | refine blk_drew ?_ | refine blk_alloc ?_ _)); refine blk_put (cs := #[.int .i64 0, .int .u64 0]) ?_ 0 _ rfl; (with_reducible repeat (first | refine blk_drewN ?_ _ | refine blk_drew ?_ | refine blk_alloc ?_ _)); refine blk_far ?_ NB250_256.out _; (with_reducible repeat (first | refine blk_drewN ?_ _ | refine blk_drew ?_ | refine blk_alloc ?_ _)); refine blk_far ?_ NB250_256.out _; (with_reducible repeat (first | refine blk_drewN ?_ _ | refine blk_drew ?_ | refine blk_alloc ?_ _)); exact BK250.out) Tryz.underlying51 rfl (by kernel_rfl)) rfl ?_
            exact ⟨by first | rfl | (simp [errW_none, errW_some] <;> rfl) | (simp only [← hji15]; first | rfl | (simp [errW_none, errW_some] <;> rfl)) | (simp [*, errW_none, errW_some] <;> rfl), by repeat (first | (with_reducible first | exact HB.out | apply below_alloc | apply pw_below_drewN | apply below_drew1 | refine below_set ?_ GE249.out | refine below_set ?_ GE250.out | refine below_set ?_ GE256.out) | exact HB.out)⟩
          rw [if_pos c35] at H
          have c35b0 := beq_iff_eq.mpr c35
          have c35b1 := bne_eq_false_iff_eq.mpr c35
          clear c35
          by_cases c36 : t257 > 9
          · rw [if_pos c36] at H
            have c36b0 : decide (9 < t257) = true := decide_eq_true c36
            clear c36
            simp only [Option.some.injEq, Prod.mk.injEq] at H
            obtain ⟨rfl, rfl, rfl⟩ := H
            go_wp2_with (first | ((with_reducible refine gate_callee (f := 26) rfl ?_); refine goesL_ (some 46) rfl rfl Tryz.func26 (by kernel_rfl) rfl #[.string ((rd_T41 l0_1 (ji15)).f4)] rfl (by (try simp only [List.map_toArray, List.map_cons, List.map_nil]); first | done | (simp only [hji15]; rfl) | rfl | (simp only [List.length_drop, List.length_take]; rfl)) ?_; (with_reducible refine (remontoirref03_Parse.calls kj18 ((rd_T41 l0_1 (ji15)).f4) t257 t258 t259 _ A34.out).mono ?_); rintro e w37 ⟨rfl, hb⟩; refine ⟨_, rfl, ?_⟩; replace BK249 := Aside0.mk (bk11_14 (g := gb249) (o := .cells #[.string a0_0, .slice (some ad252) l0_1.length c0_1, .slice A0_2 l0_2.length c0_2] 25 (0, 0)) hb); replace BK250 := Aside0.mk (bk11_15 (g := gb250) (o := .cells #[.int .i64 0, .int .u64 0] 51 (0, 0)) hb); replace BK256 := Aside0.mk (bk11_16 (g := gb256) (o := .cells #[.int .i64 t253, .int .u64 t254] 51 (0, 0)) hb); replace HB := Aside0.mk (bs11_3 hb); (try clear hb); (try clear hb2); (try clear hk); (try clear hi); have hnb38 := NB256_249.out; have hnc38 := NB249_256.out; have hnb39 := NB256_250.out; have hnc39 := NB250_256.out; have hcz40_0 : w37.cell? ⟨gb256, 0, none⟩ = some (.int .i64 t253) := (blk_cell BK256.out 0).trans rfl; have hcz40_1 : w37.cell? ⟨gb256, 1, none⟩ = some (.int .u64 t254) := (blk_cell BK256.out 1).trans rfl; have hfz40_0 := blk_frozen BK256.out 0; have hfz40_1 := blk_frozen BK256.out 1; have hnb41 := NB250_249.out; have hnc41 := NB249_250.out; have hcz42_0 : w37.cell? ⟨gb250, 0, none⟩ = some (.int .i64 0) := (blk_cell BK250.out 0).trans rfl; have hcz42_1 : w37.cell? ⟨gb250, 1, none⟩ = some (.int .u64 0) := (blk_cell BK250.out 1).trans rfl; have hfz42_0 := blk_frozen BK250.out 0; have hfz42_1 := blk_frozen BK250.out 1))
            refine bodyPost_ret (results_ct rfl _ _ gb250 51 #[.int .i64 0, .int .u64 0] (0, 0) _ rfl (by (with_reducible repeat (first | refine blk_drewN ?_ _ | refine blk_drew ?_ | refine blk_alloc ?_ _)); refine blk_put (cs := #[.int .i64 0, .int .u64 0]) ?_ 1 _ rfl; (with_reducible repeat (first | refine blk_drewN ?_ _ | refine blk_drew ?_ | refine blk_alloc ?_ _)); refine blk_put (cs := #[.int .i64 0, .int .u64 0]) ?_ 0 _ rfl; (with_reducible repeat (first | refine blk_drewN ?_ _ | refine blk_drew ?_ | refine blk_alloc ?_ _)); refine blk_far ?_ NB250_256.out _; (with_reducible repeat (first | refine blk_drewN ?_ _ | refine blk_drew ?_ | refine blk_alloc ?_ _)); refine blk_far ?_ NB250_256.out _; (with_reducible repeat (first | refine blk_drewN ?_ _ | refine blk_drew ?_ | refine blk_alloc ?_ _)); exact BK250.out) Tryz.underlying51 rfl (by kernel_rfl)) rfl ?_
            exact ⟨by first | rfl | (simp [errW_none, errW_some] <;> rfl) | (simp only [← hji15]; first | rfl | (simp [errW_none, errW_some] <;> rfl)) | (simp [*, errW_none, errW_some] <;> rfl), by repeat (first | (with_reducible first | exact HB.out | apply below_alloc | apply pw_below_drewN | apply below_drew1 | refine below_set ?_ GE249.out | refine below_set ?_ GE250.out | refine below_set ?_ GE256.out) | exact HB.out)⟩
          rw [if_neg c36] at H
          have c36b0 : decide (9 < t257) = false := decide_eq_false c36
          clear c36
          simp only [Option.some.injEq, Prod.mk.injEq] at H
          obtain ⟨rfl, rfl, rfl⟩ := H
          go_wp2_with (first | ((with_reducible refine gate_callee (f := 26) rfl ?_); refine goesL_ (some 46) rfl rfl Tryz.func26 (by kernel_rfl) rfl #[.string ((rd_T41 l0_1 (ji15)).f4)] rfl (by (try simp only [List.map_toArray, List.map_cons, List.map_nil]); first | done | (simp only [hji15]; rfl) | rfl | (simp only [List.length_drop, List.length_take]; rfl)) ?_; (with_reducible refine (remontoirref03_Parse.calls kj18 ((rd_T41 l0_1 (ji15)).f4) t257 t258 t259 _ A34.out).mono ?_); rintro e w43 ⟨rfl, hb⟩; refine ⟨_, rfl, ?_⟩; replace BK249 := Aside0.mk (bk11_14 (g := gb249) (o := .cells #[.string a0_0, .slice (some ad252) l0_1.length c0_1, .slice A0_2 l0_2.length c0_2] 25 (0, 0)) hb); replace BK250 := Aside0.mk (bk11_15 (g := gb250) (o := .cells #[.int .i64 0, .int .u64 0] 51 (0, 0)) hb); replace BK256 := Aside0.mk (bk11_16 (g := gb256) (o := .cells #[.int .i64 t253, .int .u64 t254] 51 (0, 0)) hb); replace HB := Aside0.mk (bs11_3 hb); (try clear hb); (try clear hb2); (try clear hk); (try clear hi); have hnb44 := NB256_249.out; have hnc44 := NB249_256.out; have hnb45 := NB256_250.out; have hnc45 := NB250_256.out; have hcz46_0 : w43.cell? ⟨gb256, 0, none⟩ = some (.int .i64 t253) := (blk_cell BK256.out 0).trans rfl; have hcz46_1 : w43.cell? ⟨gb256, 1, none⟩ = some (.int .u64 t254) := (blk_cell BK256.out 1).trans rfl; have hfz46_0 := blk_frozen BK256.out 0; have hfz46_1 := blk_frozen BK256.out 1; have hnb47 := NB250_249.out; have hnc47 := NB249_250.out; have hcz48_0 : w43.cell? ⟨gb250, 0, none⟩ = some (.int .i64 0) := (blk_cell BK250.out 0).trans rfl; have hcz48_1 : w43.cell? ⟨gb250, 1, none⟩ = some (.int .u64 0) := (blk_cell BK250.out 1).trans rfl; have hfz48_0 := blk_frozen BK250.out 0; have hfz48_1 := blk_frozen BK250.out 1))
          refine bodyPost_ret (results_ct rfl _ _ gb250 51 #[.int .i64 t257, .int .u64 t258] (0, 0) _ rfl (by (with_reducible repeat (first | refine blk_drewN ?_ _ | refine blk_drew ?_ | refine blk_alloc ?_ _)); refine blk_put (cs := #[.int .i64 t257, .int .u64 0]) ?_ 1 _ rfl; (with_reducible repeat (first | refine blk_drewN ?_ _ | refine blk_drew ?_ | refine blk_alloc ?_ _)); refine blk_put (cs := #[.int .i64 0, .int .u64 0]) ?_ 0 _ rfl; (with_reducible repeat (first | refine blk_drewN ?_ _ | refine blk_drew ?_ | refine blk_alloc ?_ _)); refine blk_far ?_ NB250_256.out _; (with_reducible repeat (first | refine blk_drewN ?_ _ | refine blk_drew ?_ | refine blk_alloc ?_ _)); refine blk_far ?_ NB250_256.out _; (with_reducible repeat (first | refine blk_drewN ?_ _ | refine blk_drew ?_ | refine blk_alloc ?_ _)); exact BK250.out) Tryz.underlying51 rfl (by kernel_rfl)) rfl ?_
          exact ⟨by first | rfl | (simp [errW_none, errW_some] <;> rfl) | (simp only [← hji15]; first | rfl | (simp [errW_none, errW_some] <;> rfl)) | (simp [*, errW_none, errW_some] <;> rfl), by repeat (first | (with_reducible first | exact HB.out | apply below_alloc | apply pw_below_drewN | apply below_drew1 | refine below_set ?_ GE249.out | refine below_set ?_ GE250.out | refine below_set ?_ GE256.out) | exact HB.out)⟩

/-! ### remontoirref27_Of: function 8 -/
def remontoirref27_Of.l0 : Nat → List (S45) → List (S48) → Int → ByteArray → List (S41) → List (S43) → Option ((List (S48)))
  | 0, _, _, _, _, _, _ => none
  | k + 1, x1, x5, x6, x261000, x261001, x261002 => if x6 < (x1.length : Int) then (if 0 ≤ x6 then (if ((rd_T45 x1 x6).f0) = 2 then ((remontoirref18_Is.f x261000 x261001 x261002 ((rd_T45 x1 x6).f2)).bind fun t264 => (if t264 = true then (if 0 ≤ (wrap64 (((rd_T45 x1 x6).f2) - 1)) then (if (wrap64 (((rd_T45 x1 x6).f2) - 1)) < (x261001.length : Int) then (if x5.length < 3518437208883 then (remontoirref27_Of.l0 k x1 (x5 ++ [(⟨1, (rd_T45 x1 x6).f3, (rd_T45 x1 x6).f2, (rd_T41 x261001 (wrap64 (((rd_T45 x1 x6).f2) - 1))).f2, 0⟩ : S48)]) (wrap64 (x6 + 1)) x261000 x261001 x261002) else (none)) else (none)) else (none)) else (if x5.length < 3518437208883 then (remontoirref27_Of.l0 k x1 (x5 ++ [(⟨1, (rd_T45 x1 x6).f3, (rd_T45 x1 x6).f2, 0, 0⟩ : S48)]) (wrap64 (x6 + 1)) x261000 x261001 x261002) else (none)))) else (if ((rd_T45 x1 x6).f0) = 3 then ((remontoirref18_Time.f k x261000 x261001 x261002 ((rd_T45 x1 x6).f2)).bind fun bt272 => (if x5.length < 3518437208883 then (remontoirref27_Of.l0 k x1 (x5 ++ [(⟨2, (rd_T45 x1 x6).f3, (rd_T45 x1 x6).f2, 0, bt272.2.1⟩ : S48)]) (wrap64 (x6 + 1)) x261000 x261001 x261002) else (none))) else (if ((rd_T45 x1 x6).f0) = 4 then (if x5.length < 3518437208883 then (remontoirref27_Of.l0 k x1 (x5 ++ [(⟨3, (rd_T45 x1 x6).f3, 0, 0, 0⟩ : S48)]) (wrap64 (x6 + 1)) x261000 x261001 x261002) else (none)) else (remontoirref27_Of.l0 k x1 x5 (wrap64 (x6 + 1)) x261000 x261001 x261002)))) else (none)) else (some x5)
def remontoirref27_Of.f (k : Nat) (a0_0 : ByteArray) (l0_1 : List (S41)) (l0_2 : List (S43)) (l1 : List (S45)) : Option ((List (S48))) := remontoirref27_Of.l0 k l1 ([] : List (S48)) 0 a0_0 l0_1 l0_2
theorem remontoirref27_Of.mono_l : ∀ k, (∀ y0 y1 y2 y3 y4 y5, LeO (remontoirref27_Of.l0 k y0 y1 y2 y3 y4 y5) (remontoirref27_Of.l0 (k + 1) y0 y1 y2 y3 y4 y5))
  | 0 => fun _ _ _ _ _ _ r h => by simp [remontoirref27_Of.l0] at h
  | k + 1 => by
    have ih0 := remontoirref27_Of.mono_l k
    · intro y0 y1 y2 y3 y4 y5
      unfold remontoirref27_Of.l0
      repeat' first
      | (with_reducible exact ih0 _ _ _ _ _ _)
      | (with_reducible exact remontoirref18_Time.mono _ _ _ _ _)
      | (with_reducible exact LeO.refl _)
      | (with_reducible exact LeO.none _)
      | (with_reducible refine LeO.ite ?_ ?_)
      | (with_reducible refine LeO.bind ?_ (fun _ => ?_))
      | exact ih0 _ _ _ _ _ _
      | exact remontoirref18_Time.mono _ _ _ _ _
      | exact LeO.none _
      | refine LeO.ite ?_ ?_
      | refine LeO.bind ?_ (fun _ => ?_)
theorem remontoirref27_Of.mono : ∀ a0 a1 a2 a3 k, LeO (remontoirref27_Of.f k a0 a1 a2 a3) (remontoirref27_Of.f (k + 1) a0 a1 a2 a3) := by
  intro a0 a1 a2 a3 k
  have ih0 := remontoirref27_Of.mono_l k
  unfold remontoirref27_Of.f
  repeat' first
      | (with_reducible exact ih0 _ _ _ _ _ _)
      | (with_reducible exact remontoirref18_Time.mono _ _ _ _ _)
      | (with_reducible exact LeO.refl _)
      | (with_reducible exact LeO.none _)
      | (with_reducible refine LeO.ite ?_ ?_)
      | (with_reducible refine LeO.bind ?_ (fun _ => ?_))
      | exact ih0 _ _ _ _ _ _
      | exact remontoirref18_Time.mono _ _ _ _ _
      | exact LeO.none _
      | refine LeO.ite ?_ ?_
      | refine LeO.bind ?_ (fun _ => ?_)
set_option maxHeartbeats 8000000 in
set_option maxRecDepth 100000 in
theorem remontoirref27_Of.calls (k : Nat) (a0_0 : ByteArray) (A0_1 : Option Addr) (c0_1 : Nat) (l0_1 : List (S41)) (A0_2 : Option Addr) (c0_2 : Nat) (l0_2 : List (S43)) (A1 : Option Addr) (c1 : Nat) (l1 : List (S45)) (r : List (S48)) (w : World) (hr0_1 : Kd.C k41 w A0_1 l0_1.length l0_1) (hc0_1 : l0_1.length ≤ c0_1) (hr0_2 : Kd.C k43 w A0_2 l0_2.length l0_2) (hc0_2 : l0_2.length ≤ c0_2) (hr1 : Kd.C k45 w A1 l1.length l1) (hc1 : l1.length ≤ c1) (h : remontoirref27_Of.f k a0_0 l0_1 l0_2 l1 = some r) :
    Calls Tryz.prog 8 #[.agg #[.string a0_0, .slice A0_1 l0_1.length c0_1, .slice A0_2 l0_2.length c0_2], .slice A1 l1.length c1] w fun e w' => ∃ v0_ : Value, e = .returned (v0_) ∧ Kd.R k48 48 w' w.heap.size (fun _ => True) v0_ r ∧ Below w.heap.size w w' := by
  have hu25 := Tryz.underlying25
  have hu45 := Tryz.underlying45
  have hu48 := Tryz.underlying48
  have hu51 := Tryz.underlying51
  have HR0_1 := Aside0.mk hr0_1
  have HC0_1 := Aside0.mk hc0_1
  clear hr0_1 hc0_1
  have HR0_2 := Aside0.mk hr0_2
  have HC0_2 := Aside0.mk hc0_2
  clear hr0_2 hc0_2
  have HR1 := Aside0.mk hr1
  have HC1 := Aside0.mk hc1
  clear hr1 hc1
  have HB := Aside0.mk (Below.refl w.heap.size w)
  unfold remontoirref27_Of.f at h
  have H := h
  clear h
  have H' := Aside0.mk H
  clear H
  go_enter Tryz.func8, Tryz.ntmps8
  go_wp2_with (first | ((with_reducible refine gate_dst (N := 2) rfl ?_); refine box_event ?hg (N := 2) ?hd (cs := #[.string a0_0, .slice A0_1 l0_1.length c0_1, .slice A0_2 l0_2.length c0_2]) (t := 25) ?hr ?_; (case hd => rfl); (case hg => rfl); (case hr => first | (go_simp; done) | (go_simp; rfl)); intro gb260 hg w3 hbox hb; have BK260 := Aside0.mk (hbox); have GW260 := Aside0.mk ((by rw [hg]; exact bz11_7 : w.heap.size ≤ gb260)); have GE260 := Aside0.mk ((by rw [hg]; exact bz11_7 : w.heap.size ≤ gb260)); replace HB := Aside0.mk (bs11_0 hb); clear hb hbox hg))
  go_loopg [5, 6] k (fun kq v5 v6 w' => ∃ (x5_1 : List (S48)) (x6_1 : Int), v6 = .int .i64 x6_1 ∧ Aside0 (remontoirref27_Of.l0 kq l1 x5_1 x6_1 a0_0 l0_1 l0_2 = some r) ∧ Aside0 (kq ≤ k) ∧ Aside0 (Kd.R k48 48 w' w.heap.size (fun _ => True) v5 x5_1) ∧ Aside0 (w'.heap[gb260]? = some (.cells #[.string a0_0, (.slice A0_1 l0_1.length c0_1), (.slice A0_2 l0_2.length c0_2)] 25 (0, 0))) ∧ Aside0 (Below w.heap.size w w'))
  case atStart => exact ⟨(([] : List (S48))), (0), bd11_26, H', ⟨Nat.le_refl _⟩, ⟨by first | exact Kd.R_nil _ _ _ _ _ | exact Kd.N_nil _ _ _ _ _ | exact Kd.V_nil _ _ _ _ _ | exact Kd.Q_nil _ _ _ _ _ | exact Kd.S_nil _ _ _ _ _⟩, ⟨by (with_reducible repeat (first | refine blk_drewN ?_ _ | refine blk_drew ?_ | refine blk_alloc ?_ _)); exact BK260.out⟩, ⟨by repeat (first | (with_reducible first | exact HB.out | apply below_alloc | apply pw_below_drewN | apply below_drew1 | refine below_set ?_ GE260.out) | exact HB.out)⟩⟩
  case round =>
    clear H'
    try clear c1
    try clear p2
    obtain ⟨x5_1, x6_1, rfl, HA, HK1, HO_5, BK260, HB⟩ := hrel
    cases gk with
    | zero => exact absurd HA.out (by simp [remontoirref27_Of.l0])
    | succ k1 =>
      have H := HA.out
      clear HA
      simp only [remontoirref27_Of.l0] at H
      by_cases c4 : x6_1 < (l1.length : Int)
      rotate_left
      · rw [if_neg c4] at H
        have c4b0 := decide_eq_false c4
        clear c4
        obtain rfl := Option.some.inj H
        go_wp2
        go_ret
        exact ⟨_, by first | rfl | (simp [errW_none, errW_some] <;> rfl) | (simp [*, errW_none, errW_some] <;> rfl), by (with_reducible repeat (first | apply Kd.R_alloc | apply Kd.R_drewN | apply Kd.R_drew)); exact HO_5.out, by repeat (first | (with_reducible first | exact HB.out | apply below_alloc | apply pw_below_drewN | apply below_drew1 | refine below_set ?_ GE260.out) | exact HB.out)⟩
      rw [if_pos c4] at H
      have c4b0 := decide_eq_true c4
      clear c4
      obtain ⟨c5, H⟩ := itS H
      have c5b0 := decide_eq_true c5
      clear c5
      by_cases c6 : ((rd_T45 l1 x6_1).f0) = 2
      rotate_left
      · rw [if_neg c6] at H
        have c6b0 := beq_eq_false_iff_ne.mpr c6
        have c6b1 := bne_iff_ne.mpr c6
        by_cases c40 : ((rd_T45 l1 x6_1).f0) = 3
        rotate_left
        · rw [if_neg c40] at H
          have c40b0 := beq_eq_false_iff_ne.mpr c40
          have c40b1 := bne_iff_ne.mpr c40
          by_cases c54 : ((rd_T45 l1 x6_1).f0) = 4
          rotate_left
          · rw [if_neg c54] at H
            have c54b0 := beq_eq_false_iff_ne.mpr c54
            have c54b1 := bne_iff_ne.mpr c54
            have H' := Aside0.mk H
            clear H
            have p261 : 0 ≤ (x6_1 : Int) := of_decide_eq_true bb11_25
            have q261 : x6_1 < (l1.length : Int) := of_decide_eq_true bb11_25
            obtain ⟨ad261, e261, hx261_0, hx261_1, hx261_2, hx261_3⟩ := at_T45 HR1.out x6_1 p261 q261
            cases e261
            replace hx261_0 := (HB.out.cell (World.block_lt_of_cell? w _ hx261_0)).trans hx261_0
            replace hx261_1 := (HB.out.cell (World.block_lt_of_cell? w _ hx261_1)).trans hx261_1
            replace hx261_2 := (HB.out.cell (World.block_lt_of_cell? w _ hx261_2)).trans hx261_2
            replace hx261_3 := (HB.out.cell (World.block_lt_of_cell? w _ hx261_3)).trans hx261_3
            replace p261 := eq_true p261
            replace q261 := eq_true q261
            go_wp2_with (first | ((with_reducible refine gate_dst (N := 7) rfl ?_); refine box_event ?hg (N := 7) ?hd (cs := #[.int .i64 0, .int .i64 0, .int .i64 0, .int .i64 0]) (t := 45) ?hr ?_; (case hd => rfl); (case hg => rfl); (case hr => first | (go_simp; done) | (go_simp; rfl)); intro gb262 hg w60 hbox hb; replace HO_5 := Aside0.mk (Kd.R_below (by (with_reducible repeat (first | apply Kd.R_alloc | apply Kd.R_drewN | apply Kd.R_drew)); exact HO_5.out) hb); have BK262 := Aside0.mk (hbox); have GW262 := Aside0.mk ((by rw [hg]; exact bz11_10 : w.heap.size ≤ gb262)); have GE262 := Aside0.mk ((by rw [hg]; exact bz11_10 : w.heap.size ≤ gb262)); replace HB := Aside0.mk (bs11_4 hb); have NB260_262 := Aside0.mk ((by rw [hg]; exact Nat.ne_of_lt (blk_lt (g := gb260) (o := .cells #[.string a0_0, .slice A0_1 l0_1.length c0_1, .slice A0_2 l0_2.length c0_2] 25 (0, 0)) bb11_21) : gb260 ≠ gb262)); have NB262_260 := Aside0.mk ((by rw [hg]; exact Nat.ne_of_gt (blk_lt (g := gb260) (o := .cells #[.string a0_0, .slice A0_1 l0_1.length c0_1, .slice A0_2 l0_2.length c0_2] 25 (0, 0)) bb11_21) : gb262 ≠ gb260)); replace BK260 := Aside0.mk (bk11_17 (g := gb260) (o := .cells #[.string a0_0, .slice A0_1 l0_1.length c0_1, .slice A0_2 l0_2.length c0_2] 25 (0, 0)) hb); clear hb hbox hg; have hnb61 := NB262_260.out; have hnc61 := NB260_262.out; have hcz62_0 : w60.cell? ⟨gb262, 0, none⟩ = some (.int .i64 0) := (blk_cell BK262.out 0).trans rfl; have hcz62_1 : w60.cell? ⟨gb262, 1, none⟩ = some (.int .i64 0) := (blk_cell BK262.out 1).trans rfl; have hcz62_2 : w60.cell? ⟨gb262, 2, none⟩ = some (.int .i64 0) := (blk_cell BK262.out 2).trans rfl; have hcz62_3 : w60.cell? ⟨gb262, 3, none⟩ = some (.int .i64 0) := (blk_cell BK262.out 3).trans rfl; have hfz62_0 := blk_frozen BK262.out 0; have hfz62_1 := blk_frozen BK262.out 1; have hfz62_2 := blk_frozen BK262.out 2; have hfz62_3 := blk_frozen BK262.out 3))
            go_roundg k1
            case measure => have := HK1.out; omega
            case rel => exact ⟨(x5_1), (wrap64 (x6_1 + 1)), bd11_26, H', ⟨by have := HK1.out; omega⟩, ⟨by (with_reducible repeat (first | apply Kd.R_alloc | apply Kd.R_drewN | apply Kd.R_drew)); exact Kd.R_mono (Kd.R_far (p := ⟨gb262, 3, none⟩) (Kd.R_far (p := ⟨gb262, 2, none⟩) (Kd.R_far (p := ⟨gb262, 1, none⟩) (Kd.R_far (p := ⟨gb262, 0, none⟩) (Kd.R_types HO_5.out BK262.out (by decide)) (fun _ hk => hk.2) (.int .i64 ((rd_T45 l1 x6_1).f0))) (fun _ hk => hk.2) (.int .i64 ((rd_T45 l1 x6_1).f1))) (fun _ hk => hk.2) (.int .i64 ((rd_T45 l1 x6_1).f2))) (fun _ hk => hk.2) (.int .i64 ((rd_T45 l1 x6_1).f3))) (fun _ hk => trivial)⟩, ⟨by (with_reducible repeat (first | refine blk_drewN ?_ _ | refine blk_drew ?_ | refine blk_alloc ?_ _)); refine blk_far ?_ NB260_262.out _; (with_reducible repeat (first | refine blk_drewN ?_ _ | refine blk_drew ?_ | refine blk_alloc ?_ _)); refine blk_far ?_ NB260_262.out _; (with_reducible repeat (first | refine blk_drewN ?_ _ | refine blk_drew ?_ | refine blk_alloc ?_ _)); refine blk_far ?_ NB260_262.out _; (with_reducible repeat (first | refine blk_drewN ?_ _ | refine blk_drew ?_ | refine blk_alloc ?_ _)); refine blk_far ?_ NB260_262.out _; (with_reducible repeat (first | refine blk_drewN ?_ _ | refine blk_drew ?_ | refine blk_alloc ?_ _)); exact BK260.out⟩, ⟨by repeat (first | (with_reducible first | exact HB.out | apply below_alloc | apply pw_below_drewN | apply below_drew1 | refine below_set ?_ GE260.out | refine below_set ?_ GE262.out) | exact HB.out)⟩⟩
          rw [if_pos c54] at H
          have c54b0 := beq_iff_eq.mpr c54
          have c54b1 := bne_eq_false_iff_eq.mpr c54
          clear c54
          obtain ⟨LMc55, H⟩ := itL H
          obtain ⟨y279, hy279⟩ : ∃ y_ : List (S48), y_ = (x5_1 ++ [(⟨3, (rd_T45 l1 x6_1).f3, 0, 0, 0⟩ : S48)]) := ⟨_, rfl⟩
          replace H : (remontoirref27_Of.l0 k1 l1 y279 (wrap64 (x6_1 + 1)) a0_0 l0_1 l0_2) = some r := by first | (rw [hy279]; with_reducible exact H) | (have H2_ := (Option.bind_some _ _).symm.trans H; rw [hy279]; with_reducible exact H2_) | (have H2_ := (Option.bind_some _ _).symm.trans H; with_reducible exact H2_) | with_reducible exact H | (rw [hy279]; exact H) | exact H
          have Ny279 := Aside0.mk hy279
          clear hy279
          have H' := Aside0.mk H
          clear H
          have p261 : 0 ≤ (x6_1 : Int) := of_decide_eq_true bb11_25
          have q261 : x6_1 < (l1.length : Int) := of_decide_eq_true bb11_25
          obtain ⟨ad261, e261, hx261_0, hx261_1, hx261_2, hx261_3⟩ := at_T45 HR1.out x6_1 p261 q261
          cases e261
          replace hx261_0 := (HB.out.cell (World.block_lt_of_cell? w _ hx261_0)).trans hx261_0
          replace hx261_1 := (HB.out.cell (World.block_lt_of_cell? w _ hx261_1)).trans hx261_1
          replace hx261_2 := (HB.out.cell (World.block_lt_of_cell? w _ hx261_2)).trans hx261_2
          replace hx261_3 := (HB.out.cell (World.block_lt_of_cell? w _ hx261_3)).trans hx261_3
          replace p261 := eq_true p261
          replace q261 := eq_true q261
          go_wp2_with (first | ((with_reducible refine gate_dst (N := 7) rfl ?_); refine box_event ?hg (N := 7) ?hd (cs := #[.int .i64 0, .int .i64 0, .int .i64 0, .int .i64 0]) (t := 45) ?hr ?_; (case hd => rfl); (case hg => rfl); (case hr => first | (go_simp; done) | (go_simp; rfl)); intro gb262 hg w56 hbox hb; replace HO_5 := Aside0.mk (Kd.R_below (by (with_reducible repeat (first | apply Kd.R_alloc | apply Kd.R_drewN | apply Kd.R_drew)); exact HO_5.out) hb); have BK262 := Aside0.mk (hbox); have GW262 := Aside0.mk ((by rw [hg]; exact bz11_10 : w.heap.size ≤ gb262)); have GE262 := Aside0.mk ((by rw [hg]; exact bz11_10 : w.heap.size ≤ gb262)); replace HB := Aside0.mk (bs11_4 hb); have NB260_262 := Aside0.mk ((by rw [hg]; exact Nat.ne_of_lt (blk_lt (g := gb260) (o := .cells #[.string a0_0, .slice A0_1 l0_1.length c0_1, .slice A0_2 l0_2.length c0_2] 25 (0, 0)) bb11_21) : gb260 ≠ gb262)); have NB262_260 := Aside0.mk ((by rw [hg]; exact Nat.ne_of_gt (blk_lt (g := gb260) (o := .cells #[.string a0_0, .slice A0_1 l0_1.length c0_1, .slice A0_2 l0_2.length c0_2] 25 (0, 0)) bb11_21) : gb262 ≠ gb260)); replace BK260 := Aside0.mk (bk11_17 (g := gb260) (o := .cells #[.string a0_0, .slice A0_1 l0_1.length c0_1, .slice A0_2 l0_2.length c0_2] 25 (0, 0)) hb); clear hb hbox hg; have hnb57 := NB262_260.out; have hnc57 := NB260_262.out; have hcz58_0 : w56.cell? ⟨gb262, 0, none⟩ = some (.int .i64 0) := (blk_cell BK262.out 0).trans rfl; have hcz58_1 : w56.cell? ⟨gb262, 1, none⟩ = some (.int .i64 0) := (blk_cell BK262.out 1).trans rfl; have hcz58_2 : w56.cell? ⟨gb262, 2, none⟩ = some (.int .i64 0) := (blk_cell BK262.out 2).trans rfl; have hcz58_3 : w56.cell? ⟨gb262, 3, none⟩ = some (.int .i64 0) := (blk_cell BK262.out 3).trans rfl; have hfz58_0 := blk_frozen BK262.out 0; have hfz58_1 := blk_frozen BK262.out 1; have hfz58_2 := blk_frozen BK262.out 2; have hfz58_3 := blk_frozen BK262.out 3) | ((with_reducible refine gate_builtin (b := .append) (xs := #[.tmp 68, .tmp 72]) rfl ?_); at_builtin; refine Kd.R_append k48 (w0 := w) w.heap.size rfl (.tmp 68) (.tmp 72) 27 48 (.agg #[(.int .i64 0), (.int .i64 0), (.int .i64 0), (.int .i64 0), (.int .u64 0)]) 40 rfl Tryz.underlying27 info48 rfl (by decide) (by omega) u5 x5_1 (⟨3, (rd_T45 l1 x6_1).f3, 0, 0, 0⟩ : S48) [.int .i64 3, .int .i64 ((rd_T45 l1 x6_1).f3), .int .i64 0, .int .i64 0, .int .u64 0] (fun _ => True) (fun _ => False) rfl (by first | (go_simp; done) | (go_simp; rfl)) ?aP (fun _ hk => hk.elim) ?aF ?aO ?aB ?aS ?aL ?_; (case aP => exact k48_mkM _ _ _ (⟨3, (rd_T45 l1 x6_1).f3, 0, 0, 0⟩ : S48)); (case aB => exact bh11_28); (case aF => exact (fun _ _ => trivial)); (case aO => exact (by (with_reducible repeat (first | apply Kd.R_alloc | apply Kd.R_drewN | apply Kd.R_drew)); exact Kd.R_mono (Kd.R_far (p := ⟨gb262, 3, none⟩) (Kd.R_far (p := ⟨gb262, 2, none⟩) (Kd.R_far (p := ⟨gb262, 1, none⟩) (Kd.R_far (p := ⟨gb262, 0, none⟩) (Kd.R_types HO_5.out BK262.out (by decide)) (fun _ hk => hk.2) (.int .i64 ((rd_T45 l1 x6_1).f0))) (fun _ hk => hk.2) (.int .i64 ((rd_T45 l1 x6_1).f1))) (fun _ hk => hk.2) (.int .i64 ((rd_T45 l1 x6_1).f2))) (fun _ hk => hk.2) (.int .i64 ((rd_T45 l1 x6_1).f3))) (fun _ hk => trivial))); (case aS => exact bz11_11); (case aL => have := LMc55.out; omega); intro v280 w59 ho hb hg hat; rw [← Ny279.out] at ho; have n0_ := Aside0.mk (blk_grown (g := gb260) (o := .cells #[.string a0_0, .slice A0_1 l0_1.length c0_1, .slice A0_2 l0_2.length c0_2] 25 (0, 0)) (by (with_reducible repeat (first | refine blk_drewN ?_ _ | refine blk_drew ?_ | refine blk_alloc ?_ _)); refine blk_far ?_ NB260_262.out _; (with_reducible repeat (first | refine blk_drewN ?_ _ | refine blk_drew ?_ | refine blk_alloc ?_ _)); refine blk_far ?_ NB260_262.out _; (with_reducible repeat (first | refine blk_drewN ?_ _ | refine blk_drew ?_ | refine blk_alloc ?_ _)); refine blk_far ?_ NB260_262.out _; (with_reducible repeat (first | refine blk_drewN ?_ _ | refine blk_drew ?_ | refine blk_alloc ?_ _)); refine blk_far ?_ NB260_262.out _; (with_reducible repeat (first | refine blk_drewN ?_ _ | refine blk_drew ?_ | refine blk_alloc ?_ _)); exact BK260.out) hg (Kd.R_ne HO_5.out BK260.out (by decide))); have n1_ := Aside0.mk (blk_grown (g := gb262) (o := .cells #[.int .i64 ((rd_T45 l1 x6_1).f0), .int .i64 ((rd_T45 l1 x6_1).f1), .int .i64 ((rd_T45 l1 x6_1).f2), .int .i64 ((rd_T45 l1 x6_1).f3)] 45 (0, 0)) (by (with_reducible repeat (first | refine blk_drewN ?_ _ | refine blk_drew ?_ | refine blk_alloc ?_ _)); refine blk_put (cs := #[.int .i64 ((rd_T45 l1 x6_1).f0), .int .i64 ((rd_T45 l1 x6_1).f1), .int .i64 ((rd_T45 l1 x6_1).f2), .int .i64 0]) ?_ 3 _ rfl; (with_reducible repeat (first | refine blk_drewN ?_ _ | refine blk_drew ?_ | refine blk_alloc ?_ _)); refine blk_put (cs := #[.int .i64 ((rd_T45 l1 x6_1).f0), .int .i64 ((rd_T45 l1 x6_1).f1), .int .i64 0, .int .i64 0]) ?_ 2 _ rfl; (with_reducible repeat (first | refine blk_drewN ?_ _ | refine blk_drew ?_ | refine blk_alloc ?_ _)); refine blk_put (cs := #[.int .i64 ((rd_T45 l1 x6_1).f0), .int .i64 0, .int .i64 0, .int .i64 0]) ?_ 1 _ rfl; (with_reducible repeat (first | refine blk_drewN ?_ _ | refine blk_drew ?_ | refine blk_alloc ?_ _)); refine blk_put (cs := #[.int .i64 0, .int .i64 0, .int .i64 0, .int .i64 0]) ?_ 0 _ rfl; (with_reducible repeat (first | refine blk_drewN ?_ _ | refine blk_drew ?_ | refine blk_alloc ?_ _)); exact BK262.out) hg (Kd.R_ne HO_5.out BK262.out (by decide))); have n2_ := Aside0.mk (hb); have n3_ := Aside0.mk (ho); clear BK260; clear BK262; clear HB; clear HO_5; have BK260 := n0_; have BK262 := n1_; have HB := n2_; have HO281 := n3_; clear n0_ n1_ n2_ n3_; clear ho hb hg hat))
          go_roundg k1
          case measure => have := HK1.out; omega
          case rel => exact ⟨(y279), (wrap64 (x6_1 + 1)), bd11_26, H', ⟨by have := HK1.out; omega⟩, ⟨by (with_reducible repeat (first | apply Kd.R_alloc | apply Kd.R_drewN | apply Kd.R_drew)); exact HO281.out⟩, ⟨by (with_reducible repeat (first | refine blk_drewN ?_ _ | refine blk_drew ?_ | refine blk_alloc ?_ _)); exact BK260.out⟩, ⟨by repeat (first | (with_reducible first | exact HB.out | apply below_alloc | apply pw_below_drewN | apply below_drew1 | refine below_set ?_ GE260.out | refine below_set ?_ GE262.out) | exact HB.out)⟩⟩
        rw [if_pos c40] at H
        have c40b0 := beq_iff_eq.mpr c40
        have c40b1 := bne_eq_false_iff_eq.mpr c40
        clear c40
        obtain ⟨⟨t272, t273, t274⟩, A41, H⟩ := bdA H
        dsimp only at H
        obtain ⟨LMc42, H⟩ := itL H
        obtain ⟨y276, hy276⟩ : ∃ y_ : List (S48), y_ = (x5_1 ++ [(⟨2, (rd_T45 l1 x6_1).f3, (rd_T45 l1 x6_1).f2, 0, t273⟩ : S48)]) := ⟨_, rfl⟩
        replace H : (remontoirref27_Of.l0 k1 l1 y276 (wrap64 (x6_1 + 1)) a0_0 l0_1 l0_2) = some r := by first | (rw [hy276]; with_reducible exact H) | (have H2_ := (Option.bind_some _ _).symm.trans H; rw [hy276]; with_reducible exact H2_) | (have H2_ := (Option.bind_some _ _).symm.trans H; with_reducible exact H2_) | with_reducible exact H | (rw [hy276]; exact H) | exact H
        have Ny276 := Aside0.mk hy276
        clear hy276
        have H' := Aside0.mk H
        clear H
        have p261 : 0 ≤ (x6_1 : Int) := of_decide_eq_true bb11_25
        have q261 : x6_1 < (l1.length : Int) := of_decide_eq_true bb11_25
        obtain ⟨ad261, e261, hx261_0, hx261_1, hx261_2, hx261_3⟩ := at_T45 HR1.out x6_1 p261 q261
        cases e261
        replace hx261_0 := (HB.out.cell (World.block_lt_of_cell? w _ hx261_0)).trans hx261_0
        replace hx261_1 := (HB.out.cell (World.block_lt_of_cell? w _ hx261_1)).trans hx261_1
        replace hx261_2 := (HB.out.cell (World.block_lt_of_cell? w _ hx261_2)).trans hx261_2
        replace hx261_3 := (HB.out.cell (World.block_lt_of_cell? w _ hx261_3)).trans hx261_3
        replace p261 := eq_true p261
        replace q261 := eq_true q261
        go_wp2_with (first | ((with_reducible refine gate_dst (N := 7) rfl ?_); refine box_event ?hg (N := 7) ?hd (cs := #[.int .i64 0, .int .i64 0, .int .i64 0, .int .i64 0]) (t := 45) ?hr ?_; (case hd => rfl); (case hg => rfl); (case hr => first | (go_simp; done) | (go_simp; rfl)); intro gb262 hg w43 hbox hb; replace HO_5 := Aside0.mk (Kd.R_below (by (with_reducible repeat (first | apply Kd.R_alloc | apply Kd.R_drewN | apply Kd.R_drew)); exact HO_5.out) hb); have BK262 := Aside0.mk (hbox); have GW262 := Aside0.mk ((by rw [hg]; exact bz11_10 : w.heap.size ≤ gb262)); have GE262 := Aside0.mk ((by rw [hg]; exact bz11_10 : w.heap.size ≤ gb262)); replace HB := Aside0.mk (bs11_4 hb); have NB260_262 := Aside0.mk ((by rw [hg]; exact Nat.ne_of_lt (blk_lt (g := gb260) (o := .cells #[.string a0_0, .slice A0_1 l0_1.length c0_1, .slice A0_2 l0_2.length c0_2] 25 (0, 0)) bb11_21) : gb260 ≠ gb262)); have NB262_260 := Aside0.mk ((by rw [hg]; exact Nat.ne_of_gt (blk_lt (g := gb260) (o := .cells #[.string a0_0, .slice A0_1 l0_1.length c0_1, .slice A0_2 l0_2.length c0_2] 25 (0, 0)) bb11_21) : gb262 ≠ gb260)); replace BK260 := Aside0.mk (bk11_17 (g := gb260) (o := .cells #[.string a0_0, .slice A0_1 l0_1.length c0_1, .slice A0_2 l0_2.length c0_2] 25 (0, 0)) hb); clear hb hbox hg; have hnb44 := NB262_260.out; have hnc44 := NB260_262.out; have hcz45_0 : w43.cell? ⟨gb262, 0, none⟩ = some (.int .i64 0) := (blk_cell BK262.out 0).trans rfl; have hcz45_1 : w43.cell? ⟨gb262, 1, none⟩ = some (.int .i64 0) := (blk_cell BK262.out 1).trans rfl; have hcz45_2 : w43.cell? ⟨gb262, 2, none⟩ = some (.int .i64 0) := (blk_cell BK262.out 2).trans rfl; have hcz45_3 : w43.cell? ⟨gb262, 3, none⟩ = some (.int .i64 0) := (blk_cell BK262.out 3).trans rfl; have hfz45_0 := blk_frozen BK262.out 0; have hfz45_1 := blk_frozen BK262.out 1; have hfz45_2 := blk_frozen BK262.out 2; have hfz45_3 := blk_frozen BK262.out 3; have hcz46_0 : w43.cell? ⟨gb260, 0, none⟩ = some (.string a0_0) := (blk_cell BK260.out 0).trans rfl; have hcz46_1 : w43.cell? ⟨gb260, 1, none⟩ = some (.slice A0_1 l0_1.length c0_1) := (blk_cell BK260.out 1).trans rfl; have hcz46_2 : w43.cell? ⟨gb260, 2, none⟩ = some (.slice A0_2 l0_2.length c0_2) := (blk_cell BK260.out 2).trans rfl; have hfz46_0 := blk_frozen BK260.out 0; have hfz46_1 := blk_frozen BK260.out 1; have hfz46_2 := blk_frozen BK260.out 2) | ((with_reducible refine gate_callee (f := 17) rfl ?_); refine goesL_ (some 53) rfl rfl Tryz.func17 (by kernel_rfl) rfl #[.agg #[.string a0_0, .slice A0_1 l0_1.length c0_1, .slice A0_2 l0_2.length c0_2], .int .i64 ((rd_T45 l1 x6_1).f2)] rfl ba11_24 ?_; (with_reducible refine (remontoirref18_Time.calls k1 a0_0 _ _ l0_1 _ _ l0_2 ((rd_T45 l1 x6_1).f2) t272 t273 t274 _ ?side1 ?side2 ?side3 ?side4 A41.out).mono ?_); (case side1 => exact Kd.C_below HR0_1.out bh11_28); (case side2 => exact HC0_1.out); (case side3 => exact Kd.C_below HR0_2.out bh11_28); (case side4 => exact HC0_2.out); rintro e w47 ⟨rfl, hb⟩; refine ⟨_, rfl, ?_⟩; replace HO_5 := Aside0.mk (Kd.R_below (by (with_reducible repeat (first | apply Kd.R_alloc | apply Kd.R_drewN | apply Kd.R_drew)); exact (Kd.R_mono (Kd.R_far (p := ⟨gb262, 3, none⟩) (Kd.R_far (p := ⟨gb262, 2, none⟩) (Kd.R_far (p := ⟨gb262, 1, none⟩) (Kd.R_far (p := ⟨gb262, 0, none⟩) (Kd.R_types HO_5.out BK262.out (by decide)) (fun _ hk => hk.2) (.int .i64 ((rd_T45 l1 x6_1).f0))) (fun _ hk => hk.2) (.int .i64 ((rd_T45 l1 x6_1).f1))) (fun _ hk => hk.2) (.int .i64 ((rd_T45 l1 x6_1).f2))) (fun _ hk => hk.2) (.int .i64 ((rd_T45 l1 x6_1).f3))) (fun _ h_ => h_.1))) hb); replace BK260 := Aside0.mk (blk_below (g := gb260) (o := .cells #[.string a0_0, .slice A0_1 l0_1.length c0_1, .slice A0_2 l0_2.length c0_2] 25 (0, 0)) (by (with_reducible repeat (first | refine blk_drewN ?_ _ | refine blk_drew ?_ | refine blk_alloc ?_ _)); refine blk_far ?_ NB260_262.out _; (with_reducible repeat (first | refine blk_drewN ?_ _ | refine blk_drew ?_ | refine blk_alloc ?_ _)); refine blk_far ?_ NB260_262.out _; (with_reducible repeat (first | refine blk_drewN ?_ _ | refine blk_drew ?_ | refine blk_alloc ?_ _)); refine blk_far ?_ NB260_262.out _; (with_reducible repeat (first | refine blk_drewN ?_ _ | refine blk_drew ?_ | refine blk_alloc ?_ _)); refine blk_far ?_ NB260_262.out _; (with_reducible repeat (first | refine blk_drewN ?_ _ | refine blk_drew ?_ | refine blk_alloc ?_ _)); exact BK260.out) hb); replace BK262 := Aside0.mk (blk_below (g := gb262) (o := .cells #[.int .i64 ((rd_T45 l1 x6_1).f0), .int .i64 ((rd_T45 l1 x6_1).f1), .int .i64 ((rd_T45 l1 x6_1).f2), .int .i64 ((rd_T45 l1 x6_1).f3)] 45 (0, 0)) (by (with_reducible repeat (first | refine blk_drewN ?_ _ | refine blk_drew ?_ | refine blk_alloc ?_ _)); refine blk_put (cs := #[.int .i64 ((rd_T45 l1 x6_1).f0), .int .i64 ((rd_T45 l1 x6_1).f1), .int .i64 ((rd_T45 l1 x6_1).f2), .int .i64 0]) ?_ 3 _ rfl; (with_reducible repeat (first | refine blk_drewN ?_ _ | refine blk_drew ?_ | refine blk_alloc ?_ _)); refine blk_put (cs := #[.int .i64 ((rd_T45 l1 x6_1).f0), .int .i64 ((rd_T45 l1 x6_1).f1), .int .i64 0, .int .i64 0]) ?_ 2 _ rfl; (with_reducible repeat (first | refine blk_drewN ?_ _ | refine blk_drew ?_ | refine blk_alloc ?_ _)); refine blk_put (cs := #[.int .i64 ((rd_T45 l1 x6_1).f0), .int .i64 0, .int .i64 0, .int .i64 0]) ?_ 1 _ rfl; (with_reducible repeat (first | refine blk_drewN ?_ _ | refine blk_drew ?_ | refine blk_alloc ?_ _)); refine blk_put (cs := #[.int .i64 0, .int .i64 0, .int .i64 0, .int .i64 0]) ?_ 0 _ rfl; (with_reducible repeat (first | refine blk_drewN ?_ _ | refine blk_drew ?_ | refine blk_alloc ?_ _)); exact BK262.out) hb); replace HB := Aside0.mk (bs11_5 hb); (try clear hb); (try clear hb2); (try clear hk); (try clear hi)) | ((with_reducible refine gate_dst (N := 9) rfl ?_); refine box_event ?hg (N := 9) ?hd (cs := #[.int .i64 0, .int .u64 0]) (t := 51) ?hr ?_; (case hd => rfl); (case hg => rfl); (case hr => first | (go_simp; done) | (go_simp; rfl)); intro gb275 hg w48 hbox hb; replace HO_5 := Aside0.mk (Kd.R_below (by (with_reducible repeat (first | apply Kd.R_alloc | apply Kd.R_drewN | apply Kd.R_drew)); exact HO_5.out) hb); have BK275 := Aside0.mk (hbox); have GW275 := Aside0.mk ((by rw [hg]; exact bz11_11 : w.heap.size ≤ gb275)); have GE275 := Aside0.mk ((by rw [hg]; exact bz11_11 : w.heap.size ≤ gb275)); replace HB := Aside0.mk (bs11_5 hb); have NB260_275 := Aside0.mk ((by rw [hg]; exact Nat.ne_of_lt (blk_lt (g := gb260) (o := .cells #[.string a0_0, .slice A0_1 l0_1.length c0_1, .slice A0_2 l0_2.length c0_2] 25 (0, 0)) bb11_21) : gb260 ≠ gb275)); have NB275_260 := Aside0.mk ((by rw [hg]; exact Nat.ne_of_gt (blk_lt (g := gb260) (o := .cells #[.string a0_0, .slice A0_1 l0_1.length c0_1, .slice A0_2 l0_2.length c0_2] 25 (0, 0)) bb11_21) : gb275 ≠ gb260)); replace BK260 := Aside0.mk (bk11_17 (g := gb260) (o := .cells #[.string a0_0, .slice A0_1 l0_1.length c0_1, .slice A0_2 l0_2.length c0_2] 25 (0, 0)) hb); have NB262_275 := Aside0.mk ((by rw [hg]; exact Nat.ne_of_lt (blk_lt (g := gb262) (o := .cells #[.int .i64 ((rd_T45 l1 x6_1).f0), .int .i64 ((rd_T45 l1 x6_1).f1), .int .i64 ((rd_T45 l1 x6_1).f2), .int .i64 ((rd_T45 l1 x6_1).f3)] 45 (0, 0)) bb11_23) : gb262 ≠ gb275)); have NB275_262 := Aside0.mk ((by rw [hg]; exact Nat.ne_of_gt (blk_lt (g := gb262) (o := .cells #[.int .i64 ((rd_T45 l1 x6_1).f0), .int .i64 ((rd_T45 l1 x6_1).f1), .int .i64 ((rd_T45 l1 x6_1).f2), .int .i64 ((rd_T45 l1 x6_1).f3)] 45 (0, 0)) bb11_23) : gb275 ≠ gb262)); replace BK262 := Aside0.mk (bk11_18 (g := gb262) (o := .cells #[.int .i64 ((rd_T45 l1 x6_1).f0), .int .i64 ((rd_T45 l1 x6_1).f1), .int .i64 ((rd_T45 l1 x6_1).f2), .int .i64 ((rd_T45 l1 x6_1).f3)] 45 (0, 0)) hb); clear hb hbox hg; have hnb49 := NB275_260.out; have hnc49 := NB260_275.out; have hnb50 := NB275_262.out; have hnc50 := NB262_275.out; have hcz51_0 : w48.cell? ⟨gb275, 0, none⟩ = some (.int .i64 0) := (blk_cell BK275.out 0).trans rfl; have hcz51_1 : w48.cell? ⟨gb275, 1, none⟩ = some (.int .u64 0) := (blk_cell BK275.out 1).trans rfl; have hfz51_0 := blk_frozen BK275.out 0; have hfz51_1 := blk_frozen BK275.out 1; have hcz52_0 : w48.cell? ⟨gb262, 0, none⟩ = some (.int .i64 ((rd_T45 l1 x6_1).f0)) := (blk_cell BK262.out 0).trans rfl; have hcz52_1 : w48.cell? ⟨gb262, 1, none⟩ = some (.int .i64 ((rd_T45 l1 x6_1).f1)) := (blk_cell BK262.out 1).trans rfl; have hcz52_2 : w48.cell? ⟨gb262, 2, none⟩ = some (.int .i64 ((rd_T45 l1 x6_1).f2)) := (blk_cell BK262.out 2).trans rfl; have hcz52_3 : w48.cell? ⟨gb262, 3, none⟩ = some (.int .i64 ((rd_T45 l1 x6_1).f3)) := (blk_cell BK262.out 3).trans rfl; have hfz52_0 := blk_frozen BK262.out 0; have hfz52_1 := blk_frozen BK262.out 1; have hfz52_2 := blk_frozen BK262.out 2; have hfz52_3 := blk_frozen BK262.out 3) | ((with_reducible refine gate_builtin (b := .append) (xs := #[.tmp 56, .tmp 64]) rfl ?_); at_builtin; refine Kd.R_append k48 (w0 := w) w.heap.size rfl (.tmp 56) (.tmp 64) 27 48 (.agg #[(.int .i64 0), (.int .i64 0), (.int .i64 0), (.int .i64 0), (.int .u64 0)]) 40 rfl Tryz.underlying27 info48 rfl (by decide) (by omega) u5 x5_1 (⟨2, (rd_T45 l1 x6_1).f3, (rd_T45 l1 x6_1).f2, 0, t273⟩ : S48) [.int .i64 2, .int .i64 ((rd_T45 l1 x6_1).f3), .int .i64 ((rd_T45 l1 x6_1).f2), .int .i64 0, .int .u64 t273] (fun _ => True) (fun _ => False) rfl (by first | (go_simp; done) | (go_simp; rfl)) ?aP (fun _ hk => hk.elim) ?aF ?aO ?aB ?aS ?aL ?_; (case aP => exact k48_mkM _ _ _ (⟨2, (rd_T45 l1 x6_1).f3, (rd_T45 l1 x6_1).f2, 0, t273⟩ : S48)); (case aB => exact bh11_29); (case aF => exact (fun _ _ => trivial)); (case aO => exact (by (with_reducible repeat (first | apply Kd.R_alloc | apply Kd.R_drewN | apply Kd.R_drew)); exact Kd.R_mono (Kd.R_far (p := ⟨gb275, 1, none⟩) (Kd.R_far (p := ⟨gb275, 0, none⟩) (Kd.R_types HO_5.out BK275.out (by decide)) (fun _ hk => hk.2) (.int .i64 t272)) (fun _ hk => hk.2) (.int .u64 t273)) (fun _ hk => trivial))); (case aS => exact bz11_13); (case aL => have := LMc42.out; omega); intro v277 w53 ho hb hg hat; rw [← Ny276.out] at ho; have n0_ := Aside0.mk (blk_grown (g := gb260) (o := .cells #[.string a0_0, .slice A0_1 l0_1.length c0_1, .slice A0_2 l0_2.length c0_2] 25 (0, 0)) (by (with_reducible repeat (first | refine blk_drewN ?_ _ | refine blk_drew ?_ | refine blk_alloc ?_ _)); refine blk_far ?_ NB260_275.out _; (with_reducible repeat (first | refine blk_drewN ?_ _ | refine blk_drew ?_ | refine blk_alloc ?_ _)); refine blk_far ?_ NB260_275.out _; (with_reducible repeat (first | refine blk_drewN ?_ _ | refine blk_drew ?_ | refine blk_alloc ?_ _)); exact BK260.out) hg (Kd.R_ne HO_5.out BK260.out (by decide))); have n1_ := Aside0.mk (blk_grown (g := gb262) (o := .cells #[.int .i64 ((rd_T45 l1 x6_1).f0), .int .i64 ((rd_T45 l1 x6_1).f1), .int .i64 ((rd_T45 l1 x6_1).f2), .int .i64 ((rd_T45 l1 x6_1).f3)] 45 (0, 0)) (by (with_reducible repeat (first | refine blk_drewN ?_ _ | refine blk_drew ?_ | refine blk_alloc ?_ _)); refine blk_far ?_ NB262_275.out _; (with_reducible repeat (first | refine blk_drewN ?_ _ | refine blk_drew ?_ | refine blk_alloc ?_ _)); refine blk_far ?_ NB262_275.out _; (with_reducible repeat (first | refine blk_drewN ?_ _ | refine blk_drew ?_ | refine blk_alloc ?_ _)); exact BK262.out) hg (Kd.R_ne HO_5.out BK262.out (by decide))); have n2_ := Aside0.mk (blk_grown (g := gb275) (o := .cells #[.int .i64 t272, .int .u64 t273] 51 (0, 0)) (by (with_reducible repeat (first | refine blk_drewN ?_ _ | refine blk_drew ?_ | refine blk_alloc ?_ _)); refine blk_put (cs := #[.int .i64 t272, .int .u64 0]) ?_ 1 _ rfl; (with_reducible repeat (first | refine blk_drewN ?_ _ | refine blk_drew ?_ | refine blk_alloc ?_ _)); refine blk_put (cs := #[.int .i64 0, .int .u64 0]) ?_ 0 _ rfl; (with_reducible repeat (first | refine blk_drewN ?_ _ | refine blk_drew ?_ | refine blk_alloc ?_ _)); exact BK275.out) hg (Kd.R_ne HO_5.out BK275.out (by decide))); have n3_ := Aside0.mk (hb); have n4_ := Aside0.mk (ho); clear BK260; clear BK262; clear BK275; clear HB; clear HO_5; have BK260 := n0_; have BK262 := n1_; have BK275 := n2_; have HB := n3_; have HO278 := n4_; clear n0_ n1_ n2_ n3_ n4_; clear ho hb hg hat))
        go_roundg k1
        case measure => have := HK1.out; omega
        case rel => exact ⟨(y276), (wrap64 (x6_1 + 1)), bd11_26, H', ⟨by have := HK1.out; omega⟩, ⟨by (with_reducible repeat (first | apply Kd.R_alloc | apply Kd.R_drewN | apply Kd.R_drew)); exact HO278.out⟩, ⟨by (with_reducible repeat (first | refine blk_drewN ?_ _ | refine blk_drew ?_ | refine blk_alloc ?_ _)); exact BK260.out⟩, ⟨by repeat (first | (with_reducible first | exact HB.out | apply below_alloc | apply pw_below_drewN | apply below_drew1 | refine below_set ?_ GE260.out | refine below_set ?_ GE262.out | refine below_set ?_ GE275.out) | exact HB.out)⟩⟩
      rw [if_pos c6] at H
      have c6b0 := beq_iff_eq.mpr c6
      have c6b1 := bne_eq_false_iff_eq.mpr c6
      clear c6
      obtain ⟨t264, A7, H⟩ := bdA H
      by_cases c8 : t264 = true
      rotate_left
      · replace c8 := Bool.eq_false_iff.mpr c8
        subst c8
        rw [if_neg nft] at H
        obtain ⟨LMc27, H⟩ := itL H
        obtain ⟨y269, hy269⟩ : ∃ y_ : List (S48), y_ = (x5_1 ++ [(⟨1, (rd_T45 l1 x6_1).f3, (rd_T45 l1 x6_1).f2, 0, 0⟩ : S48)]) := ⟨_, rfl⟩
        replace H : (remontoirref27_Of.l0 k1 l1 y269 (wrap64 (x6_1 + 1)) a0_0 l0_1 l0_2) = some r := by first | (rw [hy269]; with_reducible exact H) | (have H2_ := (Option.bind_some _ _).symm.trans H; rw [hy269]; with_reducible exact H2_) | (have H2_ := (Option.bind_some _ _).symm.trans H; with_reducible exact H2_) | with_reducible exact H | (rw [hy269]; exact H) | exact H
        have Ny269 := Aside0.mk hy269
        clear hy269
        have H' := Aside0.mk H
        clear H
        have p261 : 0 ≤ (x6_1 : Int) := of_decide_eq_true bb11_25
        have q261 : x6_1 < (l1.length : Int) := of_decide_eq_true bb11_25
        obtain ⟨ad261, e261, hx261_0, hx261_1, hx261_2, hx261_3⟩ := at_T45 HR1.out x6_1 p261 q261
        cases e261
        replace hx261_0 := (HB.out.cell (World.block_lt_of_cell? w _ hx261_0)).trans hx261_0
        replace hx261_1 := (HB.out.cell (World.block_lt_of_cell? w _ hx261_1)).trans hx261_1
        replace hx261_2 := (HB.out.cell (World.block_lt_of_cell? w _ hx261_2)).trans hx261_2
        replace hx261_3 := (HB.out.cell (World.block_lt_of_cell? w _ hx261_3)).trans hx261_3
        replace p261 := eq_true p261
        replace q261 := eq_true q261
        go_wp2_with (first | ((with_reducible refine gate_dst (N := 7) rfl ?_); refine box_event ?hg (N := 7) ?hd (cs := #[.int .i64 0, .int .i64 0, .int .i64 0, .int .i64 0]) (t := 45) ?hr ?_; (case hd => rfl); (case hg => rfl); (case hr => first | (go_simp; done) | (go_simp; rfl)); intro gb262 hg w28 hbox hb; replace HO_5 := Aside0.mk (Kd.R_below (by (with_reducible repeat (first | apply Kd.R_alloc | apply Kd.R_drewN | apply Kd.R_drew)); exact HO_5.out) hb); have BK262 := Aside0.mk (hbox); have GW262 := Aside0.mk ((by rw [hg]; exact bz11_10 : w.heap.size ≤ gb262)); have GE262 := Aside0.mk ((by rw [hg]; exact bz11_10 : w.heap.size ≤ gb262)); replace HB := Aside0.mk (bs11_4 hb); have NB260_262 := Aside0.mk ((by rw [hg]; exact Nat.ne_of_lt (blk_lt (g := gb260) (o := .cells #[.string a0_0, .slice A0_1 l0_1.length c0_1, .slice A0_2 l0_2.length c0_2] 25 (0, 0)) bb11_21) : gb260 ≠ gb262)); have NB262_260 := Aside0.mk ((by rw [hg]; exact Nat.ne_of_gt (blk_lt (g := gb260) (o := .cells #[.string a0_0, .slice A0_1 l0_1.length c0_1, .slice A0_2 l0_2.length c0_2] 25 (0, 0)) bb11_21) : gb262 ≠ gb260)); replace BK260 := Aside0.mk (bk11_17 (g := gb260) (o := .cells #[.string a0_0, .slice A0_1 l0_1.length c0_1, .slice A0_2 l0_2.length c0_2] 25 (0, 0)) hb); clear hb hbox hg; have hnb29 := NB262_260.out; have hnc29 := NB260_262.out; have hcz30_0 : w28.cell? ⟨gb262, 0, none⟩ = some (.int .i64 0) := (blk_cell BK262.out 0).trans rfl; have hcz30_1 : w28.cell? ⟨gb262, 1, none⟩ = some (.int .i64 0) := (blk_cell BK262.out 1).trans rfl; have hcz30_2 : w28.cell? ⟨gb262, 2, none⟩ = some (.int .i64 0) := (blk_cell BK262.out 2).trans rfl; have hcz30_3 : w28.cell? ⟨gb262, 3, none⟩ = some (.int .i64 0) := (blk_cell BK262.out 3).trans rfl; have hfz30_0 := blk_frozen BK262.out 0; have hfz30_1 := blk_frozen BK262.out 1; have hfz30_2 := blk_frozen BK262.out 2; have hfz30_3 := blk_frozen BK262.out 3) | ((with_reducible refine gate_dst (N := 8) rfl ?_); refine box_event ?hg (N := 8) ?hd (cs := #[.int .i64 0, .int .i64 0, .int .i64 0, .int .i64 0, .int .u64 0]) (t := 48) ?hr ?_; (case hd => rfl); (case hg => rfl); (case hr => first | (go_simp; done) | (go_simp; rfl)); intro gb263 hg w31 hbox hb; replace HO_5 := Aside0.mk (Kd.R_below (Kd.R_elderB (by (with_reducible repeat (first | apply Kd.R_alloc | apply Kd.R_drewN | apply Kd.R_drew)); exact (Kd.R_mono (Kd.R_far (p := ⟨gb262, 3, none⟩) (Kd.R_far (p := ⟨gb262, 2, none⟩) (Kd.R_far (p := ⟨gb262, 1, none⟩) (Kd.R_far (p := ⟨gb262, 0, none⟩) (Kd.R_types HO_5.out BK262.out (by decide)) (fun _ hk => hk.2) (.int .i64 ((rd_T45 l1 x6_1).f0))) (fun _ hk => hk.2) (.int .i64 ((rd_T45 l1 x6_1).f1))) (fun _ hk => hk.2) (.int .i64 ((rd_T45 l1 x6_1).f2))) (fun _ hk => hk.2) (.int .i64 ((rd_T45 l1 x6_1).f3))) (fun _ h_ => h_.1))) gb263 (Nat.le_of_eq hg.symm)) hb); have BK263 := Aside0.mk (hbox); have GW263 := Aside0.mk ((by rw [hg]; exact bz11_11 : w.heap.size ≤ gb263)); have GE263 := Aside0.mk ((by rw [hg]; exact bz11_11 : w.heap.size ≤ gb263)); replace HB := Aside0.mk (bs11_5 hb); have NB260_263 := Aside0.mk ((by rw [hg]; exact Nat.ne_of_lt (blk_lt (g := gb260) (o := .cells #[.string a0_0, .slice A0_1 l0_1.length c0_1, .slice A0_2 l0_2.length c0_2] 25 (0, 0)) (by (with_reducible repeat (first | refine blk_drewN ?_ _ | refine blk_drew ?_ | refine blk_alloc ?_ _)); refine blk_far ?_ NB260_262.out _; (with_reducible repeat (first | refine blk_drewN ?_ _ | refine blk_drew ?_ | refine blk_alloc ?_ _)); refine blk_far ?_ NB260_262.out _; (with_reducible repeat (first | refine blk_drewN ?_ _ | refine blk_drew ?_ | refine blk_alloc ?_ _)); refine blk_far ?_ NB260_262.out _; (with_reducible repeat (first | refine blk_drewN ?_ _ | refine blk_drew ?_ | refine blk_alloc ?_ _)); refine blk_far ?_ NB260_262.out _; (with_reducible repeat (first | refine blk_drewN ?_ _ | refine blk_drew ?_ | refine blk_alloc ?_ _)); exact BK260.out)) : gb260 ≠ gb263)); have NB263_260 := Aside0.mk ((by rw [hg]; exact Nat.ne_of_gt (blk_lt (g := gb260) (o := .cells #[.string a0_0, .slice A0_1 l0_1.length c0_1, .slice A0_2 l0_2.length c0_2] 25 (0, 0)) (by (with_reducible repeat (first | refine blk_drewN ?_ _ | refine blk_drew ?_ | refine blk_alloc ?_ _)); refine blk_far ?_ NB260_262.out _; (with_reducible repeat (first | refine blk_drewN ?_ _ | refine blk_drew ?_ | refine blk_alloc ?_ _)); refine blk_far ?_ NB260_262.out _; (with_reducible repeat (first | refine blk_drewN ?_ _ | refine blk_drew ?_ | refine blk_alloc ?_ _)); refine blk_far ?_ NB260_262.out _; (with_reducible repeat (first | refine blk_drewN ?_ _ | refine blk_drew ?_ | refine blk_alloc ?_ _)); refine blk_far ?_ NB260_262.out _; (with_reducible repeat (first | refine blk_drewN ?_ _ | refine blk_drew ?_ | refine blk_alloc ?_ _)); exact BK260.out)) : gb263 ≠ gb260)); replace BK260 := Aside0.mk (blk_below (g := gb260) (o := .cells #[.string a0_0, .slice A0_1 l0_1.length c0_1, .slice A0_2 l0_2.length c0_2] 25 (0, 0)) (by (with_reducible repeat (first | refine blk_drewN ?_ _ | refine blk_drew ?_ | refine blk_alloc ?_ _)); refine blk_far ?_ NB260_262.out _; (with_reducible repeat (first | refine blk_drewN ?_ _ | refine blk_drew ?_ | refine blk_alloc ?_ _)); refine blk_far ?_ NB260_262.out _; (with_reducible repeat (first | refine blk_drewN ?_ _ | refine blk_drew ?_ | refine blk_alloc ?_ _)); refine blk_far ?_ NB260_262.out _; (with_reducible repeat (first | refine blk_drewN ?_ _ | refine blk_drew ?_ | refine blk_alloc ?_ _)); refine blk_far ?_ NB260_262.out _; (with_reducible repeat (first | refine blk_drewN ?_ _ | refine blk_drew ?_ | refine blk_alloc ?_ _)); exact BK260.out) hb); have NB262_263 := Aside0.mk ((by rw [hg]; exact Nat.ne_of_lt (blk_lt (g := gb262) (o := .cells #[.int .i64 ((rd_T45 l1 x6_1).f0), .int .i64 ((rd_T45 l1 x6_1).f1), .int .i64 ((rd_T45 l1 x6_1).f2), .int .i64 ((rd_T45 l1 x6_1).f3)] 45 (0, 0)) (by (with_reducible repeat (first | refine blk_drewN ?_ _ | refine blk_drew ?_ | refine blk_alloc ?_ _)); refine blk_put (cs := #[.int .i64 ((rd_T45 l1 x6_1).f0), .int .i64 ((rd_T45 l1 x6_1).f1), .int .i64 ((rd_T45 l1 x6_1).f2), .int .i64 0]) ?_ 3 _ rfl; (with_reducible repeat (first | refine blk_drewN ?_ _ | refine blk_drew ?_ | refine blk_alloc ?_ _)); refine blk_put (cs := #[.int .i64 ((rd_T45 l1 x6_1).f0), .int .i64 ((rd_T45 l1 x6_1).f1), .int .i64 0, .int .i64 0]) ?_ 2 _ rfl; (with_reducible repeat (first | refine blk_drewN ?_ _ | refine blk_drew ?_ | refine blk_alloc ?_ _)); refine blk_put (cs := #[.int .i64 ((rd_T45 l1 x6_1).f0), .int .i64 0, .int .i64 0, .int .i64 0]) ?_ 1 _ rfl; (with_reducible repeat (first | refine blk_drewN ?_ _ | refine blk_drew ?_ | refine blk_alloc ?_ _)); refine blk_put (cs := #[.int .i64 0, .int .i64 0, .int .i64 0, .int .i64 0]) ?_ 0 _ rfl; (with_reducible repeat (first | refine blk_drewN ?_ _ | refine blk_drew ?_ | refine blk_alloc ?_ _)); exact BK262.out)) : gb262 ≠ gb263)); have NB263_262 := Aside0.mk ((by rw [hg]; exact Nat.ne_of_gt (blk_lt (g := gb262) (o := .cells #[.int .i64 ((rd_T45 l1 x6_1).f0), .int .i64 ((rd_T45 l1 x6_1).f1), .int .i64 ((rd_T45 l1 x6_1).f2), .int .i64 ((rd_T45 l1 x6_1).f3)] 45 (0, 0)) (by (with_reducible repeat (first | refine blk_drewN ?_ _ | refine blk_drew ?_ | refine blk_alloc ?_ _)); refine blk_put (cs := #[.int .i64 ((rd_T45 l1 x6_1).f0), .int .i64 ((rd_T45 l1 x6_1).f1), .int .i64 ((rd_T45 l1 x6_1).f2), .int .i64 0]) ?_ 3 _ rfl; (with_reducible repeat (first | refine blk_drewN ?_ _ | refine blk_drew ?_ | refine blk_alloc ?_ _)); refine blk_put (cs := #[.int .i64 ((rd_T45 l1 x6_1).f0), .int .i64 ((rd_T45 l1 x6_1).f1), .int .i64 0, .int .i64 0]) ?_ 2 _ rfl; (with_reducible repeat (first | refine blk_drewN ?_ _ | refine blk_drew ?_ | refine blk_alloc ?_ _)); refine blk_put (cs := #[.int .i64 ((rd_T45 l1 x6_1).f0), .int .i64 0, .int .i64 0, .int .i64 0]) ?_ 1 _ rfl; (with_reducible repeat (first | refine blk_drewN ?_ _ | refine blk_drew ?_ | refine blk_alloc ?_ _)); refine blk_put (cs := #[.int .i64 0, .int .i64 0, .int .i64 0, .int .i64 0]) ?_ 0 _ rfl; (with_reducible repeat (first | refine blk_drewN ?_ _ | refine blk_drew ?_ | refine blk_alloc ?_ _)); exact BK262.out)) : gb263 ≠ gb262)); replace BK262 := Aside0.mk (blk_below (g := gb262) (o := .cells #[.int .i64 ((rd_T45 l1 x6_1).f0), .int .i64 ((rd_T45 l1 x6_1).f1), .int .i64 ((rd_T45 l1 x6_1).f2), .int .i64 ((rd_T45 l1 x6_1).f3)] 45 (0, 0)) (by (with_reducible repeat (first | refine blk_drewN ?_ _ | refine blk_drew ?_ | refine blk_alloc ?_ _)); refine blk_put (cs := #[.int .i64 ((rd_T45 l1 x6_1).f0), .int .i64 ((rd_T45 l1 x6_1).f1), .int .i64 ((rd_T45 l1 x6_1).f2), .int .i64 0]) ?_ 3 _ rfl; (with_reducible repeat (first | refine blk_drewN ?_ _ | refine blk_drew ?_ | refine blk_alloc ?_ _)); refine blk_put (cs := #[.int .i64 ((rd_T45 l1 x6_1).f0), .int .i64 ((rd_T45 l1 x6_1).f1), .int .i64 0, .int .i64 0]) ?_ 2 _ rfl; (with_reducible repeat (first | refine blk_drewN ?_ _ | refine blk_drew ?_ | refine blk_alloc ?_ _)); refine blk_put (cs := #[.int .i64 ((rd_T45 l1 x6_1).f0), .int .i64 0, .int .i64 0, .int .i64 0]) ?_ 1 _ rfl; (with_reducible repeat (first | refine blk_drewN ?_ _ | refine blk_drew ?_ | refine blk_alloc ?_ _)); refine blk_put (cs := #[.int .i64 0, .int .i64 0, .int .i64 0, .int .i64 0]) ?_ 0 _ rfl; (with_reducible repeat (first | refine blk_drewN ?_ _ | refine blk_drew ?_ | refine blk_alloc ?_ _)); exact BK262.out) hb); clear hb hbox hg; have hnb32 := NB263_260.out; have hnc32 := NB260_263.out; have hnb33 := NB263_262.out; have hnc33 := NB262_263.out; have hcz34_0 : w31.cell? ⟨gb263, 0, none⟩ = some (.int .i64 0) := (blk_cell BK263.out 0).trans rfl; have hcz34_1 : w31.cell? ⟨gb263, 1, none⟩ = some (.int .i64 0) := (blk_cell BK263.out 1).trans rfl; have hcz34_2 : w31.cell? ⟨gb263, 2, none⟩ = some (.int .i64 0) := (blk_cell BK263.out 2).trans rfl; have hcz34_3 : w31.cell? ⟨gb263, 3, none⟩ = some (.int .i64 0) := (blk_cell BK263.out 3).trans rfl; have hcz34_4 : w31.cell? ⟨gb263, 4, none⟩ = some (.int .u64 0) := (blk_cell BK263.out 4).trans rfl; have hfz34_0 := blk_frozen BK263.out 0; have hfz34_1 := blk_frozen BK263.out 1; have hfz34_2 := blk_frozen BK263.out 2; have hfz34_3 := blk_frozen BK263.out 3; have hfz34_4 := blk_frozen BK263.out 4; have hcz35_0 : w31.cell? ⟨gb260, 0, none⟩ = some (.string a0_0) := (blk_cell BK260.out 0).trans rfl; have hcz35_1 : w31.cell? ⟨gb260, 1, none⟩ = some (.slice A0_1 l0_1.length c0_1) := (blk_cell BK260.out 1).trans rfl; have hcz35_2 : w31.cell? ⟨gb260, 2, none⟩ = some (.slice A0_2 l0_2.length c0_2) := (blk_cell BK260.out 2).trans rfl; have hfz35_0 := blk_frozen BK260.out 0; have hfz35_1 := blk_frozen BK260.out 1; have hfz35_2 := blk_frozen BK260.out 2; have hcz36_0 : w31.cell? ⟨gb262, 0, none⟩ = some (.int .i64 ((rd_T45 l1 x6_1).f0)) := (blk_cell BK262.out 0).trans rfl; have hcz36_1 : w31.cell? ⟨gb262, 1, none⟩ = some (.int .i64 ((rd_T45 l1 x6_1).f1)) := (blk_cell BK262.out 1).trans rfl; have hcz36_2 : w31.cell? ⟨gb262, 2, none⟩ = some (.int .i64 ((rd_T45 l1 x6_1).f2)) := (blk_cell BK262.out 2).trans rfl; have hcz36_3 : w31.cell? ⟨gb262, 3, none⟩ = some (.int .i64 ((rd_T45 l1 x6_1).f3)) := (blk_cell BK262.out 3).trans rfl; have hfz36_0 := blk_frozen BK262.out 0; have hfz36_1 := blk_frozen BK262.out 1; have hfz36_2 := blk_frozen BK262.out 2; have hfz36_3 := blk_frozen BK262.out 3) | ((with_reducible refine gate_callee (f := 16) rfl ?_); refine goesL_ (some 33) rfl rfl Tryz.func16 (by kernel_rfl) rfl #[.agg #[.string a0_0, .slice A0_1 l0_1.length c0_1, .slice A0_2 l0_2.length c0_2], .int .i64 ((rd_T45 l1 x6_1).f2)] rfl ba11_24 ?_; (with_reducible refine (remontoirref18_Is.calls a0_0 _ _ l0_1 _ _ l0_2 ((rd_T45 l1 x6_1).f2) false _ ?side1 ?side2 ?side3 ?side4 A7.out).mono ?_); (case side1 => exact Kd.C_below HR0_1.out bh11_27); (case side2 => exact HC0_1.out); (case side3 => exact Kd.C_below HR0_2.out bh11_27); (case side4 => exact HC0_2.out); rintro e w37 ⟨rfl, hb⟩; refine ⟨_, rfl, ?_⟩; replace HO_5 := Aside0.mk (Kd.R_below (by (with_reducible repeat (first | apply Kd.R_alloc | apply Kd.R_drewN | apply Kd.R_drew)); exact (Kd.R_mono (Kd.R_far (p := ⟨gb263, 4, none⟩) (Kd.R_far (p := ⟨gb263, 3, none⟩) (Kd.R_far (p := ⟨gb263, 2, none⟩) (Kd.R_far (p := ⟨gb263, 1, none⟩) (Kd.R_far (p := ⟨gb263, 0, none⟩) (Kd.R_mono HO_5.out (fun k_ hk => (⟨hk, hk.2⟩ : _ ∧ k_ ≠ gb263))) (fun _ hk => hk.2) (.int .i64 1)) (fun _ hk => hk.2) (.int .i64 ((rd_T45 l1 x6_1).f3))) (fun _ hk => hk.2) (.int .i64 ((rd_T45 l1 x6_1).f2))) (fun _ hk => hk.2) (.int .i64 0)) (fun _ hk => hk.2) (.int .u64 0)) (fun _ h_ => h_.1))) hb); replace BK260 := Aside0.mk (blk_below (g := gb260) (o := .cells #[.string a0_0, .slice A0_1 l0_1.length c0_1, .slice A0_2 l0_2.length c0_2] 25 (0, 0)) (by (with_reducible repeat (first | refine blk_drewN ?_ _ | refine blk_drew ?_ | refine blk_alloc ?_ _)); refine blk_far ?_ NB260_263.out _; (with_reducible repeat (first | refine blk_drewN ?_ _ | refine blk_drew ?_ | refine blk_alloc ?_ _)); refine blk_far ?_ NB260_263.out _; (with_reducible repeat (first | refine blk_drewN ?_ _ | refine blk_drew ?_ | refine blk_alloc ?_ _)); refine blk_far ?_ NB260_263.out _; (with_reducible repeat (first | refine blk_drewN ?_ _ | refine blk_drew ?_ | refine blk_alloc ?_ _)); refine blk_far ?_ NB260_263.out _; (with_reducible repeat (first | refine blk_drewN ?_ _ | refine blk_drew ?_ | refine blk_alloc ?_ _)); refine blk_far ?_ NB260_263.out _; (with_reducible repeat (first | refine blk_drewN ?_ _ | refine blk_drew ?_ | refine blk_alloc ?_ _)); exact BK260.out) hb); replace BK262 := Aside0.mk (blk_below (g := gb262) (o := .cells #[.int .i64 ((rd_T45 l1 x6_1).f0), .int .i64 ((rd_T45 l1 x6_1).f1), .int .i64 ((rd_T45 l1 x6_1).f2), .int .i64 ((rd_T45 l1 x6_1).f3)] 45 (0, 0)) (by (with_reducible repeat (first | refine blk_drewN ?_ _ | refine blk_drew ?_ | refine blk_alloc ?_ _)); refine blk_far ?_ NB262_263.out _; (with_reducible repeat (first | refine blk_drewN ?_ _ | refine blk_drew ?_ | refine blk_alloc ?_ _)); refine blk_far ?_ NB262_263.out _; (with_reducible repeat (first | refine blk_drewN ?_ _ | refine blk_drew ?_ | refine blk_alloc ?_ _)); refine blk_far ?_ NB262_263.out _; (with_reducible repeat (first | refine blk_drewN ?_ _ | refine blk_drew ?_ | refine blk_alloc ?_ _)); refine blk_far ?_ NB262_263.out _; (with_reducible repeat (first | refine blk_drewN ?_ _ | refine blk_drew ?_ | refine blk_alloc ?_ _)); refine blk_far ?_ NB262_263.out _; (with_reducible repeat (first | refine blk_drewN ?_ _ | refine blk_drew ?_ | refine blk_alloc ?_ _)); exact BK262.out) hb); replace BK263 := Aside0.mk (blk_below (g := gb263) (o := .cells #[.int .i64 1, .int .i64 ((rd_T45 l1 x6_1).f3), .int .i64 ((rd_T45 l1 x6_1).f2), .int .i64 0, .int .u64 0] 48 (0, 0)) (by (with_reducible repeat (first | refine blk_drewN ?_ _ | refine blk_drew ?_ | refine blk_alloc ?_ _)); refine blk_put (cs := #[.int .i64 1, .int .i64 ((rd_T45 l1 x6_1).f3), .int .i64 ((rd_T45 l1 x6_1).f2), .int .i64 0, .int .u64 0]) ?_ 4 _ rfl; (with_reducible repeat (first | refine blk_drewN ?_ _ | refine blk_drew ?_ | refine blk_alloc ?_ _)); refine blk_put (cs := #[.int .i64 1, .int .i64 ((rd_T45 l1 x6_1).f3), .int .i64 ((rd_T45 l1 x6_1).f2), .int .i64 0, .int .u64 0]) ?_ 3 _ rfl; (with_reducible repeat (first | refine blk_drewN ?_ _ | refine blk_drew ?_ | refine blk_alloc ?_ _)); refine blk_put (cs := #[.int .i64 1, .int .i64 ((rd_T45 l1 x6_1).f3), .int .i64 0, .int .i64 0, .int .u64 0]) ?_ 2 _ rfl; (with_reducible repeat (first | refine blk_drewN ?_ _ | refine blk_drew ?_ | refine blk_alloc ?_ _)); refine blk_put (cs := #[.int .i64 1, .int .i64 0, .int .i64 0, .int .i64 0, .int .u64 0]) ?_ 1 _ rfl; (with_reducible repeat (first | refine blk_drewN ?_ _ | refine blk_drew ?_ | refine blk_alloc ?_ _)); refine blk_put (cs := #[.int .i64 0, .int .i64 0, .int .i64 0, .int .i64 0, .int .u64 0]) ?_ 0 _ rfl; (with_reducible repeat (first | refine blk_drewN ?_ _ | refine blk_drew ?_ | refine blk_alloc ?_ _)); exact BK263.out) hb); replace HB := Aside0.mk (bs11_6 hb); (try clear hb); (try clear hb2); (try clear hk); (try clear hi); have hcz38_0 : w37.cell? ⟨gb263, 0, none⟩ = some (.int .i64 1) := (blk_cell BK263.out 0).trans rfl; have hcz38_1 : w37.cell? ⟨gb263, 1, none⟩ = some (.int .i64 ((rd_T45 l1 x6_1).f3)) := (blk_cell BK263.out 1).trans rfl; have hcz38_2 : w37.cell? ⟨gb263, 2, none⟩ = some (.int .i64 ((rd_T45 l1 x6_1).f2)) := (blk_cell BK263.out 2).trans rfl; have hcz38_3 : w37.cell? ⟨gb263, 3, none⟩ = some (.int .i64 0) := (blk_cell BK263.out 3).trans rfl; have hcz38_4 : w37.cell? ⟨gb263, 4, none⟩ = some (.int .u64 0) := (blk_cell BK263.out 4).trans rfl; have hfz38_0 := blk_frozen BK263.out 0; have hfz38_1 := blk_frozen BK263.out 1; have hfz38_2 := blk_frozen BK263.out 2; have hfz38_3 := blk_frozen BK263.out 3; have hfz38_4 := blk_frozen BK263.out 4) | ((with_reducible refine gate_builtin (b := .append) (xs := #[.tmp 43, .tmp 45]) rfl ?_); at_builtin; refine Kd.R_append k48 (w0 := w) w.heap.size rfl (.tmp 43) (.tmp 45) 27 48 (.agg #[(.int .i64 0), (.int .i64 0), (.int .i64 0), (.int .i64 0), (.int .u64 0)]) 40 rfl Tryz.underlying27 info48 rfl (by decide) (by omega) u5 x5_1 (⟨1, (rd_T45 l1 x6_1).f3, (rd_T45 l1 x6_1).f2, 0, 0⟩ : S48) [.int .i64 1, .int .i64 ((rd_T45 l1 x6_1).f3), .int .i64 ((rd_T45 l1 x6_1).f2), .int .i64 0, .int .u64 0] (fun k_ => k_ ≠ gb263) (fun _ => False) rfl rfl ?aP (fun _ hk => hk.elim) ?aF ?aO ?aB ?aS ?aL ?_; (case aP => exact k48_mkM _ _ _ (⟨1, (rd_T45 l1 x6_1).f3, (rd_T45 l1 x6_1).f2, 0, 0⟩ : S48)); (case aB => exact bh11_27); (case aF => exact (fun k_ hk => Kd.freshB (g := gb263) (o := .cells #[.int .i64 1, .int .i64 ((rd_T45 l1 x6_1).f3), .int .i64 ((rd_T45 l1 x6_1).f2), .int .i64 0, .int .u64 0] 48 (0, 0)) bb11_22 k_ hk)); (case aO => exact (by (with_reducible repeat (first | apply Kd.R_alloc | apply Kd.R_drewN | apply Kd.R_drew)); exact Kd.R_mono HO_5.out (fun _ hk => hk.2))); (case aS => exact bz11_12); (case aL => have := LMc27.out; omega); intro v270 w39 ho hb hg hat; rw [← Ny269.out] at ho; have n0_ := Aside0.mk (blk_grown (g := gb260) (o := .cells #[.string a0_0, .slice A0_1 l0_1.length c0_1, .slice A0_2 l0_2.length c0_2] 25 (0, 0)) bb11_21 hg (Kd.R_ne HO_5.out BK260.out (by decide))); have n1_ := Aside0.mk (blk_grown (g := gb262) (o := .cells #[.int .i64 ((rd_T45 l1 x6_1).f0), .int .i64 ((rd_T45 l1 x6_1).f1), .int .i64 ((rd_T45 l1 x6_1).f2), .int .i64 ((rd_T45 l1 x6_1).f3)] 45 (0, 0)) bb11_23 hg (Kd.R_ne HO_5.out BK262.out (by decide))); have n2_ := Aside0.mk (blk_grown (g := gb263) (o := .cells #[.int .i64 1, .int .i64 ((rd_T45 l1 x6_1).f3), .int .i64 ((rd_T45 l1 x6_1).f2), .int .i64 0, .int .u64 0] 48 (0, 0)) bb11_22 hg (Kd.R_away HO_5.out (fun _ hk => hk.2))); have n3_ := Aside0.mk (hb); have n4_ := Aside0.mk (ho); clear BK260; clear BK262; clear BK263; clear HB; clear HO_5; have BK260 := n0_; have BK262 := n1_; have BK263 := n2_; have HB := n3_; have HO271 := n4_; clear n0_ n1_ n2_ n3_ n4_; clear ho hb hg hat))
        go_roundg k1
        case measure => have := HK1.out; omega
        case rel => exact ⟨(y269), (wrap64 (x6_1 + 1)), bd11_26, H', ⟨by have := HK1.out; omega⟩, ⟨by (with_reducible repeat (first | apply Kd.R_alloc | apply Kd.R_drewN | apply Kd.R_drew)); exact Kd.R_mono HO271.out (fun _ hk => trivial)⟩, ⟨by (with_reducible repeat (first | refine blk_drewN ?_ _ | refine blk_drew ?_ | refine blk_alloc ?_ _)); exact BK260.out⟩, ⟨by repeat (first | (with_reducible first | exact HB.out | apply below_alloc | apply pw_below_drewN | apply below_drew1 | refine below_set ?_ GE260.out | refine below_set ?_ GE262.out | refine below_set ?_ GE263.out) | exact HB.out)⟩⟩
      subst c8
      rw [if_pos rfl] at H
      obtain ⟨ji9, hji9⟩ : ∃ j_ : Int, (wrap64 (((rd_T45 l1 x6_1).f2) - 1)) = j_ := ⟨_, rfl⟩
      replace H : (if 0 ≤ (ji9) then (if (ji9) < (l0_1.length : Int) then (if x5_1.length < 3518437208883 then (remontoirref27_Of.l0 k1 l1 (x5_1 ++ [(⟨1, (rd_T45 l1 x6_1).f3, (rd_T45 l1 x6_1).f2, (rd_T41 l0_1 (ji9)).f2, 0⟩ : S48)]) (wrap64 (x6_1 + 1)) a0_0 l0_1 l0_2) else (none)) else (none)) else (none)) = some r := by first | (rw [hji9] at H; exact H) | (simp only [hji9] at H ⊢; exact H)
      (try rw [hji9] at A7)
      have hji9w : (IntKind.i64.wrap (((rd_T45 l1 x6_1).f2) - 1)) = ji9 := (i64_w _).trans hji9
      obtain ⟨c10, H⟩ := itS H
      have c10b0 := decide_eq_true c10
      clear c10
      obtain ⟨c11, H⟩ := itS H
      have c11b0 := decide_eq_true c11
      clear c11
      obtain ⟨LMc12, H⟩ := itL H
      obtain ⟨y266, hy266⟩ : ∃ y_ : List (S48), y_ = (x5_1 ++ [(⟨1, (rd_T45 l1 x6_1).f3, (rd_T45 l1 x6_1).f2, (rd_T41 l0_1 (ji9)).f2, 0⟩ : S48)]) := ⟨_, rfl⟩
      replace H : (remontoirref27_Of.l0 k1 l1 y266 (wrap64 (x6_1 + 1)) a0_0 l0_1 l0_2) = some r := by first | (rw [hy266]; with_reducible exact H) | (have H2_ := (Option.bind_some _ _).symm.trans H; rw [hy266]; with_reducible exact H2_) | (have H2_ := (Option.bind_some _ _).symm.trans H; with_reducible exact H2_) | with_reducible exact H | (rw [hy266]; exact H) | exact H
      have Ny266 := Aside0.mk hy266
      clear hy266
      have H' := Aside0.mk H
      clear H
      have p261 : 0 ≤ (x6_1 : Int) := of_decide_eq_true bb11_25
      have q261 : x6_1 < (l1.length : Int) := of_decide_eq_true bb11_25
      obtain ⟨ad261, e261, hx261_0, hx261_1, hx261_2, hx261_3⟩ := at_T45 HR1.out x6_1 p261 q261
      cases e261
      replace hx261_0 := (HB.out.cell (World.block_lt_of_cell? w _ hx261_0)).trans hx261_0
      replace hx261_1 := (HB.out.cell (World.block_lt_of_cell? w _ hx261_1)).trans hx261_1
      replace hx261_2 := (HB.out.cell (World.block_lt_of_cell? w _ hx261_2)).trans hx261_2
      replace hx261_3 := (HB.out.cell (World.block_lt_of_cell? w _ hx261_3)).trans hx261_3
      replace p261 := eq_true p261
      replace q261 := eq_true q261
      go_wp2_with (first | ((with_reducible refine gate_dst (N := 7) rfl ?_); refine box_event ?hg (N := 7) ?hd (cs := #[.int .i64 0, .int .i64 0, .int .i64 0, .int .i64 0]) (t := 45) ?hr ?_; (case hd => rfl); (case hg => rfl); (case hr => first | (go_simp; done) | (go_simp; rfl)); intro gb262 hg w13 hbox hb; replace HO_5 := Aside0.mk (Kd.R_below (by (with_reducible repeat (first | apply Kd.R_alloc | apply Kd.R_drewN | apply Kd.R_drew)); exact HO_5.out) hb); have BK262 := Aside0.mk (hbox); have GW262 := Aside0.mk ((by rw [hg]; exact bz11_10 : w.heap.size ≤ gb262)); have GE262 := Aside0.mk ((by rw [hg]; exact bz11_10 : w.heap.size ≤ gb262)); replace HB := Aside0.mk (bs11_4 hb); have NB260_262 := Aside0.mk ((by rw [hg]; exact Nat.ne_of_lt (blk_lt (g := gb260) (o := .cells #[.string a0_0, .slice A0_1 l0_1.length c0_1, .slice A0_2 l0_2.length c0_2] 25 (0, 0)) bb11_21) : gb260 ≠ gb262)); have NB262_260 := Aside0.mk ((by rw [hg]; exact Nat.ne_of_gt (blk_lt (g := gb260) (o := .cells #[.string a0_0, .slice A0_1 l0_1.length c0_1, .slice A0_2 l0_2.length c0_2] 25 (0, 0)) bb11_21) : gb262 ≠ gb260)); replace BK260 := Aside0.mk (bk11_17 (g := gb260) (o := .cells #[.string a0_0, .slice A0_1 l0_1.length c0_1, .slice A0_2 l0_2.length c0_2] 25 (0, 0)) hb); clear hb hbox hg; have hnb14 := NB262_260.out; have hnc14 := NB260_262.out; have hcz15_0 : w13.cell? ⟨gb262, 0, none⟩ = some (.int .i64 0) := (blk_cell BK262.out 0).trans rfl; have hcz15_1 : w13.cell? ⟨gb262, 1, none⟩ = some (.int .i64 0) := (blk_cell BK262.out 1).trans rfl; have hcz15_2 : w13.cell? ⟨gb262, 2, none⟩ = some (.int .i64 0) := (blk_cell BK262.out 2).trans rfl; have hcz15_3 : w13.cell? ⟨gb262, 3, none⟩ = some (.int .i64 0) := (blk_cell BK262.out 3).trans rfl; have hfz15_0 := blk_frozen BK262.out 0; have hfz15_1 := blk_frozen BK262.out 1; have hfz15_2 := blk_frozen BK262.out 2; have hfz15_3 := blk_frozen BK262.out 3) | ((with_reducible refine gate_dst (N := 8) rfl ?_); refine box_event ?hg (N := 8) ?hd (cs := #[.int .i64 0, .int .i64 0, .int .i64 0, .int .i64 0, .int .u64 0]) (t := 48) ?hr ?_; (case hd => rfl); (case hg => rfl); (case hr => first | (go_simp; done) | (go_simp; rfl)); intro gb263 hg w16 hbox hb; replace HO_5 := Aside0.mk (Kd.R_below (Kd.R_elderB (by (with_reducible repeat (first | apply Kd.R_alloc | apply Kd.R_drewN | apply Kd.R_drew)); exact (Kd.R_mono (Kd.R_far (p := ⟨gb262, 3, none⟩) (Kd.R_far (p := ⟨gb262, 2, none⟩) (Kd.R_far (p := ⟨gb262, 1, none⟩) (Kd.R_far (p := ⟨gb262, 0, none⟩) (Kd.R_types HO_5.out BK262.out (by decide)) (fun _ hk => hk.2) (.int .i64 ((rd_T45 l1 x6_1).f0))) (fun _ hk => hk.2) (.int .i64 ((rd_T45 l1 x6_1).f1))) (fun _ hk => hk.2) (.int .i64 ((rd_T45 l1 x6_1).f2))) (fun _ hk => hk.2) (.int .i64 ((rd_T45 l1 x6_1).f3))) (fun _ h_ => h_.1))) gb263 (Nat.le_of_eq hg.symm)) hb); have BK263 := Aside0.mk (hbox); have GW263 := Aside0.mk ((by rw [hg]; exact bz11_11 : w.heap.size ≤ gb263)); have GE263 := Aside0.mk ((by rw [hg]; exact bz11_11 : w.heap.size ≤ gb263)); replace HB := Aside0.mk (bs11_5 hb); have NB260_263 := Aside0.mk ((by rw [hg]; exact Nat.ne_of_lt (blk_lt (g := gb260) (o := .cells #[.string a0_0, .slice A0_1 l0_1.length c0_1, .slice A0_2 l0_2.length c0_2] 25 (0, 0)) (by (with_reducible repeat (first | refine blk_drewN ?_ _ | refine blk_drew ?_ | refine blk_alloc ?_ _)); refine blk_far ?_ NB260_262.out _; (with_reducible repeat (first | refine blk_drewN ?_ _ | refine blk_drew ?_ | refine blk_alloc ?_ _)); refine blk_far ?_ NB260_262.out _; (with_reducible repeat (first | refine blk_drewN ?_ _ | refine blk_drew ?_ | refine blk_alloc ?_ _)); refine blk_far ?_ NB260_262.out _; (with_reducible repeat (first | refine blk_drewN ?_ _ | refine blk_drew ?_ | refine blk_alloc ?_ _)); refine blk_far ?_ NB260_262.out _; (with_reducible repeat (first | refine blk_drewN ?_ _ | refine blk_drew ?_ | refine blk_alloc ?_ _)); exact BK260.out)) : gb260 ≠ gb263)); have NB263_260 := Aside0.mk ((by rw [hg]; exact Nat.ne_of_gt (blk_lt (g := gb260) (o := .cells #[.string a0_0, .slice A0_1 l0_1.length c0_1, .slice A0_2 l0_2.length c0_2] 25 (0, 0)) (by (with_reducible repeat (first | refine blk_drewN ?_ _ | refine blk_drew ?_ | refine blk_alloc ?_ _)); refine blk_far ?_ NB260_262.out _; (with_reducible repeat (first | refine blk_drewN ?_ _ | refine blk_drew ?_ | refine blk_alloc ?_ _)); refine blk_far ?_ NB260_262.out _; (with_reducible repeat (first | refine blk_drewN ?_ _ | refine blk_drew ?_ | refine blk_alloc ?_ _)); refine blk_far ?_ NB260_262.out _; (with_reducible repeat (first | refine blk_drewN ?_ _ | refine blk_drew ?_ | refine blk_alloc ?_ _)); refine blk_far ?_ NB260_262.out _; (with_reducible repeat (first | refine blk_drewN ?_ _ | refine blk_drew ?_ | refine blk_alloc ?_ _)); exact BK260.out)) : gb263 ≠ gb260)); replace BK260 := Aside0.mk (blk_below (g := gb260) (o := .cells #[.string a0_0, .slice A0_1 l0_1.length c0_1, .slice A0_2 l0_2.length c0_2] 25 (0, 0)) (by (with_reducible repeat (first | refine blk_drewN ?_ _ | refine blk_drew ?_ | refine blk_alloc ?_ _)); refine blk_far ?_ NB260_262.out _; (with_reducible repeat (first | refine blk_drewN ?_ _ | refine blk_drew ?_ | refine blk_alloc ?_ _)); refine blk_far ?_ NB260_262.out _; (with_reducible repeat (first | refine blk_drewN ?_ _ | refine blk_drew ?_ | refine blk_alloc ?_ _)); refine blk_far ?_ NB260_262.out _; (with_reducible repeat (first | refine blk_drewN ?_ _ | refine blk_drew ?_ | refine blk_alloc ?_ _)); refine blk_far ?_ NB260_262.out _; (with_reducible repeat (first | refine blk_drewN ?_ _ | refine blk_drew ?_ | refine blk_alloc ?_ _)); exact BK260.out) hb); have NB262_263 := Aside0.mk ((by rw [hg]; exact Nat.ne_of_lt (blk_lt (g := gb262) (o := .cells #[.int .i64 ((rd_T45 l1 x6_1).f0), .int .i64 ((rd_T45 l1 x6_1).f1), .int .i64 ((rd_T45 l1 x6_1).f2), .int .i64 ((rd_T45 l1 x6_1).f3)] 45 (0, 0)) (by (with_reducible repeat (first | refine blk_drewN ?_ _ | refine blk_drew ?_ | refine blk_alloc ?_ _)); refine blk_put (cs := #[.int .i64 ((rd_T45 l1 x6_1).f0), .int .i64 ((rd_T45 l1 x6_1).f1), .int .i64 ((rd_T45 l1 x6_1).f2), .int .i64 0]) ?_ 3 _ rfl; (with_reducible repeat (first | refine blk_drewN ?_ _ | refine blk_drew ?_ | refine blk_alloc ?_ _)); refine blk_put (cs := #[.int .i64 ((rd_T45 l1 x6_1).f0), .int .i64 ((rd_T45 l1 x6_1).f1), .int .i64 0, .int .i64 0]) ?_ 2 _ rfl; (with_reducible repeat (first | refine blk_drewN ?_ _ | refine blk_drew ?_ | refine blk_alloc ?_ _)); refine blk_put (cs := #[.int .i64 ((rd_T45 l1 x6_1).f0), .int .i64 0, .int .i64 0, .int .i64 0]) ?_ 1 _ rfl; (with_reducible repeat (first | refine blk_drewN ?_ _ | refine blk_drew ?_ | refine blk_alloc ?_ _)); refine blk_put (cs := #[.int .i64 0, .int .i64 0, .int .i64 0, .int .i64 0]) ?_ 0 _ rfl; (with_reducible repeat (first | refine blk_drewN ?_ _ | refine blk_drew ?_ | refine blk_alloc ?_ _)); exact BK262.out)) : gb262 ≠ gb263)); have NB263_262 := Aside0.mk ((by rw [hg]; exact Nat.ne_of_gt (blk_lt (g := gb262) (o := .cells #[.int .i64 ((rd_T45 l1 x6_1).f0), .int .i64 ((rd_T45 l1 x6_1).f1), .int .i64 ((rd_T45 l1 x6_1).f2), .int .i64 ((rd_T45 l1 x6_1).f3)] 45 (0, 0)) (by (with_reducible repeat (first | refine blk_drewN ?_ _ | refine blk_drew ?_ | refine blk_alloc ?_ _)); refine blk_put (cs := #[.int .i64 ((rd_T45 l1 x6_1).f0), .int .i64 ((rd_T45 l1 x6_1).f1), .int .i64 ((rd_T45 l1 x6_1).f2), .int .i64 0]) ?_ 3 _ rfl; (with_reducible repeat (first | refine blk_drewN ?_ _ | refine blk_drew ?_ | refine blk_alloc ?_ _)); refine blk_put (cs := #[.int .i64 ((rd_T45 l1 x6_1).f0), .int .i64 ((rd_T45 l1 x6_1).f1), .int .i64 0, .int .i64 0]) ?_ 2 _ rfl; (with_reducible repeat (first | refine blk_drewN ?_ _ | refine blk_drew ?_ | refine blk_alloc ?_ _)); refine blk_put (cs := #[.int .i64 ((rd_T45 l1 x6_1).f0), .int .i64 0, .int .i64 0, .int .i64 0]) ?_ 1 _ rfl; (with_reducible repeat (first | refine blk_drewN ?_ _ | refine blk_drew ?_ | refine blk_alloc ?_ _)); refine blk_put (cs := #[.int .i64 0, .int .i64 0, .int .i64 0, .int .i64 0]) ?_ 0 _ rfl; (with_reducible repeat (first | refine blk_drewN ?_ _ | refine blk_drew ?_ | refine blk_alloc ?_ _)); exact BK262.out)) : gb263 ≠ gb262)); replace BK262 := Aside0.mk (blk_below (g := gb262) (o := .cells #[.int .i64 ((rd_T45 l1 x6_1).f0), .int .i64 ((rd_T45 l1 x6_1).f1), .int .i64 ((rd_T45 l1 x6_1).f2), .int .i64 ((rd_T45 l1 x6_1).f3)] 45 (0, 0)) (by (with_reducible repeat (first | refine blk_drewN ?_ _ | refine blk_drew ?_ | refine blk_alloc ?_ _)); refine blk_put (cs := #[.int .i64 ((rd_T45 l1 x6_1).f0), .int .i64 ((rd_T45 l1 x6_1).f1), .int .i64 ((rd_T45 l1 x6_1).f2), .int .i64 0]) ?_ 3 _ rfl; (with_reducible repeat (first | refine blk_drewN ?_ _ | refine blk_drew ?_ | refine blk_alloc ?_ _)); refine blk_put (cs := #[.int .i64 ((rd_T45 l1 x6_1).f0), .int .i64 ((rd_T45 l1 x6_1).f1), .int .i64 0, .int .i64 0]) ?_ 2 _ rfl; (with_reducible repeat (first | refine blk_drewN ?_ _ | refine blk_drew ?_ | refine blk_alloc ?_ _)); refine blk_put (cs := #[.int .i64 ((rd_T45 l1 x6_1).f0), .int .i64 0, .int .i64 0, .int .i64 0]) ?_ 1 _ rfl; (with_reducible repeat (first | refine blk_drewN ?_ _ | refine blk_drew ?_ | refine blk_alloc ?_ _)); refine blk_put (cs := #[.int .i64 0, .int .i64 0, .int .i64 0, .int .i64 0]) ?_ 0 _ rfl; (with_reducible repeat (first | refine blk_drewN ?_ _ | refine blk_drew ?_ | refine blk_alloc ?_ _)); exact BK262.out) hb); clear hb hbox hg; have hnb17 := NB263_260.out; have hnc17 := NB260_263.out; have hnb18 := NB263_262.out; have hnc18 := NB262_263.out; have hcz19_0 : w16.cell? ⟨gb263, 0, none⟩ = some (.int .i64 0) := (blk_cell BK263.out 0).trans rfl; have hcz19_1 : w16.cell? ⟨gb263, 1, none⟩ = some (.int .i64 0) := (blk_cell BK263.out 1).trans rfl; have hcz19_2 : w16.cell? ⟨gb263, 2, none⟩ = some (.int .i64 0) := (blk_cell BK263.out 2).trans rfl; have hcz19_3 : w16.cell? ⟨gb263, 3, none⟩ = some (.int .i64 0) := (blk_cell BK263.out 3).trans rfl; have hcz19_4 : w16.cell? ⟨gb263, 4, none⟩ = some (.int .u64 0) := (blk_cell BK263.out 4).trans rfl; have hfz19_0 := blk_frozen BK263.out 0; have hfz19_1 := blk_frozen BK263.out 1; have hfz19_2 := blk_frozen BK263.out 2; have hfz19_3 := blk_frozen BK263.out 3; have hfz19_4 := blk_frozen BK263.out 4; have hcz20_0 : w16.cell? ⟨gb260, 0, none⟩ = some (.string a0_0) := (blk_cell BK260.out 0).trans rfl; have hcz20_1 : w16.cell? ⟨gb260, 1, none⟩ = some (.slice A0_1 l0_1.length c0_1) := (blk_cell BK260.out 1).trans rfl; have hcz20_2 : w16.cell? ⟨gb260, 2, none⟩ = some (.slice A0_2 l0_2.length c0_2) := (blk_cell BK260.out 2).trans rfl; have hfz20_0 := blk_frozen BK260.out 0; have hfz20_1 := blk_frozen BK260.out 1; have hfz20_2 := blk_frozen BK260.out 2; have hcz21_0 : w16.cell? ⟨gb262, 0, none⟩ = some (.int .i64 ((rd_T45 l1 x6_1).f0)) := (blk_cell BK262.out 0).trans rfl; have hcz21_1 : w16.cell? ⟨gb262, 1, none⟩ = some (.int .i64 ((rd_T45 l1 x6_1).f1)) := (blk_cell BK262.out 1).trans rfl; have hcz21_2 : w16.cell? ⟨gb262, 2, none⟩ = some (.int .i64 ((rd_T45 l1 x6_1).f2)) := (blk_cell BK262.out 2).trans rfl; have hcz21_3 : w16.cell? ⟨gb262, 3, none⟩ = some (.int .i64 ((rd_T45 l1 x6_1).f3)) := (blk_cell BK262.out 3).trans rfl; have hfz21_0 := blk_frozen BK262.out 0; have hfz21_1 := blk_frozen BK262.out 1; have hfz21_2 := blk_frozen BK262.out 2; have hfz21_3 := blk_frozen BK262.out 3) | ((with_reducible refine gate_callee (f := 16) rfl ?_); refine goesL_ (some 33) rfl rfl Tryz.func16 (by kernel_rfl) rfl #[.agg #[.string a0_0, .slice A0_1 l0_1.length c0_1, .slice A0_2 l0_2.length c0_2], .int .i64 ((rd_T45 l1 x6_1).f2)] rfl ba11_24 ?_; (with_reducible refine (remontoirref18_Is.calls a0_0 _ _ l0_1 _ _ l0_2 ((rd_T45 l1 x6_1).f2) true _ ?side1 ?side2 ?side3 ?side4 A7.out).mono ?_); (case side1 => exact Kd.C_below HR0_1.out bh11_27); (case side2 => exact HC0_1.out); (case side3 => exact Kd.C_below HR0_2.out bh11_27); (case side4 => exact HC0_2.out); rintro e w22 ⟨rfl, hb⟩; refine ⟨_, rfl, ?_⟩; replace HO_5 := Aside0.mk (Kd.R_below (by (with_reducible repeat (first | apply Kd.R_alloc | apply Kd.R_drewN | apply Kd.R_drew)); exact (Kd.R_mono (Kd.R_far (p := ⟨gb263, 4, none⟩) (Kd.R_far (p := ⟨gb263, 3, none⟩) (Kd.R_far (p := ⟨gb263, 2, none⟩) (Kd.R_far (p := ⟨gb263, 1, none⟩) (Kd.R_far (p := ⟨gb263, 0, none⟩) (Kd.R_mono HO_5.out (fun k_ hk => (⟨hk, hk.2⟩ : _ ∧ k_ ≠ gb263))) (fun _ hk => hk.2) (.int .i64 1)) (fun _ hk => hk.2) (.int .i64 ((rd_T45 l1 x6_1).f3))) (fun _ hk => hk.2) (.int .i64 ((rd_T45 l1 x6_1).f2))) (fun _ hk => hk.2) (.int .i64 0)) (fun _ hk => hk.2) (.int .u64 0)) (fun _ h_ => h_.1))) hb); replace BK260 := Aside0.mk (blk_below (g := gb260) (o := .cells #[.string a0_0, .slice A0_1 l0_1.length c0_1, .slice A0_2 l0_2.length c0_2] 25 (0, 0)) (by (with_reducible repeat (first | refine blk_drewN ?_ _ | refine blk_drew ?_ | refine blk_alloc ?_ _)); refine blk_far ?_ NB260_263.out _; (with_reducible repeat (first | refine blk_drewN ?_ _ | refine blk_drew ?_ | refine blk_alloc ?_ _)); refine blk_far ?_ NB260_263.out _; (with_reducible repeat (first | refine blk_drewN ?_ _ | refine blk_drew ?_ | refine blk_alloc ?_ _)); refine blk_far ?_ NB260_263.out _; (with_reducible repeat (first | refine blk_drewN ?_ _ | refine blk_drew ?_ | refine blk_alloc ?_ _)); refine blk_far ?_ NB260_263.out _; (with_reducible repeat (first | refine blk_drewN ?_ _ | refine blk_drew ?_ | refine blk_alloc ?_ _)); refine blk_far ?_ NB260_263.out _; (with_reducible repeat (first | refine blk_drewN ?_ _ | refine blk_drew ?_ | refine blk_alloc ?_ _)); exact BK260.out) hb); replace BK262 := Aside0.mk (blk_below (g := gb262) (o := .cells #[.int .i64 ((rd_T45 l1 x6_1).f0), .int .i64 ((rd_T45 l1 x6_1).f1), .int .i64 ((rd_T45 l1 x6_1).f2), .int .i64 ((rd_T45 l1 x6_1).f3)] 45 (0, 0)) (by (with_reducible repeat (first | refine blk_drewN ?_ _ | refine blk_drew ?_ | refine blk_alloc ?_ _)); refine blk_far ?_ NB262_263.out _; (with_reducible repeat (first | refine blk_drewN ?_ _ | refine blk_drew ?_ | refine blk_alloc ?_ _)); refine blk_far ?_ NB262_263.out _; (with_reducible repeat (first | refine blk_drewN ?_ _ | refine blk_drew ?_ | refine blk_alloc ?_ _)); refine blk_far ?_ NB262_263.out _; (with_reducible repeat (first | refine blk_drewN ?_ _ | refine blk_drew ?_ | refine blk_alloc ?_ _)); refine blk_far ?_ NB262_263.out _; (with_reducible repeat (first | refine blk_drewN ?_ _ | refine blk_drew ?_ | refine blk_alloc ?_ _)); refine blk_far ?_ NB262_263.out _; (with_reducible repeat (first | refine blk_drewN ?_ _ | refine blk_drew ?_ | refine blk_alloc ?_ _)); exact BK262.out) hb); replace BK263 := Aside0.mk (blk_below (g := gb263) (o := .cells #[.int .i64 1, .int .i64 ((rd_T45 l1 x6_1).f3), .int .i64 ((rd_T45 l1 x6_1).f2), .int .i64 0, .int .u64 0] 48 (0, 0)) (by (with_reducible repeat (first | refine blk_drewN ?_ _ | refine blk_drew ?_ | refine blk_alloc ?_ _)); refine blk_put (cs := #[.int .i64 1, .int .i64 ((rd_T45 l1 x6_1).f3), .int .i64 ((rd_T45 l1 x6_1).f2), .int .i64 0, .int .u64 0]) ?_ 4 _ rfl; (with_reducible repeat (first | refine blk_drewN ?_ _ | refine blk_drew ?_ | refine blk_alloc ?_ _)); refine blk_put (cs := #[.int .i64 1, .int .i64 ((rd_T45 l1 x6_1).f3), .int .i64 ((rd_T45 l1 x6_1).f2), .int .i64 0, .int .u64 0]) ?_ 3 _ rfl; (with_reducible repeat (first | refine blk_drewN ?_ _ | refine blk_drew ?_ | refine blk_alloc ?_ _)); refine blk_put (cs := #[.int .i64 1, .int .i64 ((rd_T45 l1 x6_1).f3), .int .i64 0, .int .i64 0, .int .u64 0]) ?_ 2 _ rfl; (with_reducible repeat (first | refine blk_drewN ?_ _ | refine blk_drew ?_ | refine blk_alloc ?_ _)); refine blk_put (cs := #[.int .i64 1, .int .i64 0, .int .i64 0, .int .i64 0, .int .u64 0]) ?_ 1 _ rfl; (with_reducible repeat (first | refine blk_drewN ?_ _ | refine blk_drew ?_ | refine blk_alloc ?_ _)); refine blk_put (cs := #[.int .i64 0, .int .i64 0, .int .i64 0, .int .i64 0, .int .u64 0]) ?_ 0 _ rfl; (with_reducible repeat (first | refine blk_drewN ?_ _ | refine blk_drew ?_ | refine blk_alloc ?_ _)); exact BK263.out) hb); replace HB := Aside0.mk (bs11_6 hb); (try clear hb); (try clear hb2); (try clear hk); (try clear hi); have hcz23_0 : w22.cell? ⟨gb260, 0, none⟩ = some (.string a0_0) := (blk_cell BK260.out 0).trans rfl; have hcz23_1 : w22.cell? ⟨gb260, 1, none⟩ = some (.slice A0_1 l0_1.length c0_1) := (blk_cell BK260.out 1).trans rfl; have hcz23_2 : w22.cell? ⟨gb260, 2, none⟩ = some (.slice A0_2 l0_2.length c0_2) := (blk_cell BK260.out 2).trans rfl; have hfz23_0 := blk_frozen BK260.out 0; have hfz23_1 := blk_frozen BK260.out 1; have hfz23_2 := blk_frozen BK260.out 2; have hcz24_0 : w22.cell? ⟨gb262, 0, none⟩ = some (.int .i64 ((rd_T45 l1 x6_1).f0)) := (blk_cell BK262.out 0).trans rfl; have hcz24_1 : w22.cell? ⟨gb262, 1, none⟩ = some (.int .i64 ((rd_T45 l1 x6_1).f1)) := (blk_cell BK262.out 1).trans rfl; have hcz24_2 : w22.cell? ⟨gb262, 2, none⟩ = some (.int .i64 ((rd_T45 l1 x6_1).f2)) := (blk_cell BK262.out 2).trans rfl; have hcz24_3 : w22.cell? ⟨gb262, 3, none⟩ = some (.int .i64 ((rd_T45 l1 x6_1).f3)) := (blk_cell BK262.out 3).trans rfl; have hfz24_0 := blk_frozen BK262.out 0; have hfz24_1 := blk_frozen BK262.out 1; have hfz24_2 := blk_frozen BK262.out 2; have hfz24_3 := blk_frozen BK262.out 3; have p265 : 0 ≤ ((ji9) : Int) := of_decide_eq_true bb11_25; have q265 : (ji9) < (l0_1.length : Int) := of_decide_eq_true bb11_25; obtain ⟨ad265, e265, hx265_0, hx265_1, hx265_2, hx265_3, hx265_4⟩ := at_T41 HR0_1.out (ji9) p265 q265; cases e265; replace hx265_0 := (HB.out.cell (World.block_lt_of_cell? w _ hx265_0)).trans hx265_0; replace hx265_1 := (HB.out.cell (World.block_lt_of_cell? w _ hx265_1)).trans hx265_1; replace hx265_2 := (HB.out.cell (World.block_lt_of_cell? w _ hx265_2)).trans hx265_2; replace hx265_3 := (HB.out.cell (World.block_lt_of_cell? w _ hx265_3)).trans hx265_3; replace hx265_4 := (HB.out.cell (World.block_lt_of_cell? w _ hx265_4)).trans hx265_4; replace p265 := eq_true p265; replace q265 := eq_true q265; have hcz25_0 : w22.cell? ⟨gb263, 0, none⟩ = some (.int .i64 1) := (blk_cell BK263.out 0).trans rfl; have hcz25_1 : w22.cell? ⟨gb263, 1, none⟩ = some (.int .i64 ((rd_T45 l1 x6_1).f3)) := (blk_cell BK263.out 1).trans rfl; have hcz25_2 : w22.cell? ⟨gb263, 2, none⟩ = some (.int .i64 ((rd_T45 l1 x6_1).f2)) := (blk_cell BK263.out 2).trans rfl; have hcz25_3 : w22.cell? ⟨gb263, 3, none⟩ = some (.int .i64 0) := (blk_cell BK263.out 3).trans rfl; have hcz25_4 : w22.cell? ⟨gb263, 4, none⟩ = some (.int .u64 0) := (blk_cell BK263.out 4).trans rfl; have hfz25_0 := blk_frozen BK263.out 0; have hfz25_1 := blk_frozen BK263.out 1; have hfz25_2 := blk_frozen BK263.out 2; have hfz25_3 := blk_frozen BK263.out 3; have hfz25_4 := blk_frozen BK263.out 4) | ((with_reducible refine gate_builtin (b := .append) (xs := #[.tmp 43, .tmp 45]) rfl ?_); at_builtin; refine Kd.R_append k48 (w0 := w) w.heap.size rfl (.tmp 43) (.tmp 45) 27 48 (.agg #[(.int .i64 0), (.int .i64 0), (.int .i64 0), (.int .i64 0), (.int .u64 0)]) 40 rfl Tryz.underlying27 info48 rfl (by decide) (by omega) u5 x5_1 (⟨1, (rd_T45 l1 x6_1).f3, (rd_T45 l1 x6_1).f2, (rd_T41 l0_1 (ji9)).f2, 0⟩ : S48) [.int .i64 1, .int .i64 ((rd_T45 l1 x6_1).f3), .int .i64 ((rd_T45 l1 x6_1).f2), .int .i64 ((rd_T41 l0_1 (ji9)).f2), .int .u64 0] (fun k_ => k_ ≠ gb263) (fun _ => False) rfl (by first | (go_simp; done) | (go_simp; rfl)) ?aP (fun _ hk => hk.elim) ?aF ?aO ?aB ?aS ?aL ?_; (case aP => exact k48_mkM _ _ _ (⟨1, (rd_T45 l1 x6_1).f3, (rd_T45 l1 x6_1).f2, (rd_T41 l0_1 (ji9)).f2, 0⟩ : S48)); (case aB => exact bh11_27); (case aF => exact (fun k_ hk => Kd.freshB (g := gb263) (o := .cells #[.int .i64 1, .int .i64 ((rd_T45 l1 x6_1).f3), .int .i64 ((rd_T45 l1 x6_1).f2), .int .i64 ((rd_T41 l0_1 (ji9)).f2), .int .u64 0] 48 (0, 0)) (by (with_reducible repeat (first | refine blk_drewN ?_ _ | refine blk_drew ?_ | refine blk_alloc ?_ _)); refine blk_put (cs := #[.int .i64 1, .int .i64 ((rd_T45 l1 x6_1).f3), .int .i64 ((rd_T45 l1 x6_1).f2), .int .i64 0, .int .u64 0]) ?_ 3 _ rfl; (with_reducible repeat (first | refine blk_drewN ?_ _ | refine blk_drew ?_ | refine blk_alloc ?_ _)); exact BK263.out) k_ hk)); (case aO => exact (by (with_reducible repeat (first | apply Kd.R_alloc | apply Kd.R_drewN | apply Kd.R_drew)); exact Kd.R_mono (Kd.R_far (p := ⟨gb263, 3, none⟩) (Kd.R_mono HO_5.out (fun k_ hk => (⟨hk, hk.2⟩ : _ ∧ k_ ≠ gb263))) (fun _ hk => hk.2) (.int .i64 ((rd_T41 l0_1 (ji9)).f2))) (fun _ hk => hk.1.2))); (case aS => exact bz11_12); (case aL => have := LMc12.out; omega); intro v267 w26 ho hb hg hat; rw [← Ny266.out] at ho; have n0_ := Aside0.mk (blk_grown (g := gb260) (o := .cells #[.string a0_0, .slice (some ad265) l0_1.length c0_1, .slice A0_2 l0_2.length c0_2] 25 (0, 0)) (by (with_reducible repeat (first | refine blk_drewN ?_ _ | refine blk_drew ?_ | refine blk_alloc ?_ _)); refine blk_far ?_ NB260_263.out _; (with_reducible repeat (first | refine blk_drewN ?_ _ | refine blk_drew ?_ | refine blk_alloc ?_ _)); exact BK260.out) hg (Kd.R_ne HO_5.out BK260.out (by decide))); have n1_ := Aside0.mk (blk_grown (g := gb262) (o := .cells #[.int .i64 ((rd_T45 l1 x6_1).f0), .int .i64 ((rd_T45 l1 x6_1).f1), .int .i64 ((rd_T45 l1 x6_1).f2), .int .i64 ((rd_T45 l1 x6_1).f3)] 45 (0, 0)) (by (with_reducible repeat (first | refine blk_drewN ?_ _ | refine blk_drew ?_ | refine blk_alloc ?_ _)); refine blk_far ?_ NB262_263.out _; (with_reducible repeat (first | refine blk_drewN ?_ _ | refine blk_drew ?_ | refine blk_alloc ?_ _)); exact BK262.out) hg (Kd.R_ne HO_5.out BK262.out (by decide))); have n2_ := Aside0.mk (blk_grown (g := gb263) (o := .cells #[.int .i64 1, .int .i64 ((rd_T45 l1 x6_1).f3), .int .i64 ((rd_T45 l1 x6_1).f2), .int .i64 ((rd_T41 l0_1 (ji9)).f2), .int .u64 0] 48 (0, 0)) (by (with_reducible repeat (first | refine blk_drewN ?_ _ | refine blk_drew ?_ | refine blk_alloc ?_ _)); refine blk_put (cs := #[.int .i64 1, .int .i64 ((rd_T45 l1 x6_1).f3), .int .i64 ((rd_T45 l1 x6_1).f2), .int .i64 0, .int .u64 0]) ?_ 3 _ rfl; (with_reducible repeat (first | refine blk_drewN ?_ _ | refine blk_drew ?_ | refine blk_alloc ?_ _)); exact BK263.out) hg (Kd.R_away HO_5.out (fun _ hk => hk.2))); have n3_ := Aside0.mk (hb); have n4_ := Aside0.mk (ho); clear BK260; clear BK262; clear BK263; clear HB; clear HO_5; have BK260 := n0_; have BK262 := n1_; have BK263 := n2_; have HB := n3_; have HO268 := n4_; clear n0_ n1_ n2_ n3_ n4_; clear ho hb hg hat))
      go_roundg k1
      case measure => have := HK1.out; omega
      case rel => exact ⟨(y266), (wrap64 (x6_1 + 1)), bd11_26, H', ⟨by have := HK1.out; omega⟩, ⟨by (with_reducible repeat (first | apply Kd.R_alloc | apply Kd.R_drewN | apply Kd.R_drew)); exact Kd.R_mono HO268.out (fun _ hk => trivial)⟩, ⟨by (with_reducible repeat (first | refine blk_drewN ?_ _ | refine blk_drew ?_ | refine blk_alloc ?_ _)); exact BK260.out⟩, ⟨by repeat (first | (with_reducible first | exact HB.out | apply below_alloc | apply pw_below_drewN | apply below_drew1 | refine below_set ?_ GE260.out | refine below_set ?_ GE262.out | refine below_set ?_ GE263.out) | exact HB.out)⟩⟩

/-! ### remontoirkeep_Ints: function 9 -/
def remontoirkeep_Ints.l0 : Nat → List Int → List Int → Int → Option (Bool)
  | 0, _, _, _ => none
  | k + 1, x0, x1, x5 => if x5 < (x0.length : Int) then (if 0 ≤ x5 then (if x5 < (x1.length : Int) then (if (rd x0 x5) = (rd x1 x5) then (remontoirkeep_Ints.l0 k x0 x1 (wrap64 (x5 + 1))) else (some false)) else (none)) else (none)) else (some true)
def remontoirkeep_Ints.f (k : Nat) (l0 : List Int) (l1 : List Int) : Option (Bool) := if (l0.length : Int) = (l1.length : Int) then (remontoirkeep_Ints.l0 k l0 l1 0) else (some false)
theorem remontoirkeep_Ints.mono_l : ∀ k, (∀ y0 y1 y2, LeO (remontoirkeep_Ints.l0 k y0 y1 y2) (remontoirkeep_Ints.l0 (k + 1) y0 y1 y2))
  | 0 => fun _ _ _ r h => by simp [remontoirkeep_Ints.l0] at h
  | k + 1 => by
    have ih0 := remontoirkeep_Ints.mono_l k
    · intro y0 y1 y2
      unfold remontoirkeep_Ints.l0
      repeat' first
      | (with_reducible exact ih0 _ _ _)
      | (with_reducible exact LeO.refl _)
      | (with_reducible exact LeO.none _)
      | (with_reducible refine LeO.ite ?_ ?_)
      | (with_reducible refine LeO.bind ?_ (fun _ => ?_))
      | exact ih0 _ _ _
      | exact LeO.none _
      | refine LeO.ite ?_ ?_
      | refine LeO.bind ?_ (fun _ => ?_)
theorem remontoirkeep_Ints.mono : ∀ a0 a1 k, LeO (remontoirkeep_Ints.f k a0 a1) (remontoirkeep_Ints.f (k + 1) a0 a1) := by
  intro a0 a1 k
  have ih0 := remontoirkeep_Ints.mono_l k
  unfold remontoirkeep_Ints.f
  repeat' first
      | (with_reducible exact ih0 _ _ _)
      | (with_reducible exact LeO.refl _)
      | (with_reducible exact LeO.none _)
      | (with_reducible refine LeO.ite ?_ ?_)
      | (with_reducible refine LeO.bind ?_ (fun _ => ?_))
      | exact ih0 _ _ _
      | exact LeO.none _
      | refine LeO.ite ?_ ?_
      | refine LeO.bind ?_ (fun _ => ?_)
set_option maxHeartbeats 8000000 in
set_option maxRecDepth 100000 in
theorem remontoirkeep_Ints.calls (k : Nat) (A0 : Option Addr) (c0 : Nat) (l0 : List Int) (A1 : Option Addr) (c1 : Nat) (l1 : List Int) (r : Bool) (w : World) (hr0 : Kd.C (Kd.int .i64) w A0 l0.length l0) (hc0 : l0.length ≤ c0) (hr1 : Kd.C (Kd.int .i64) w A1 l1.length l1) (hc1 : l1.length ≤ c1) (h : remontoirkeep_Ints.f k l0 l1 = some r) :
    Calls Tryz.prog 9 #[.slice A0 l0.length c0, .slice A1 l1.length c1] w fun e w' => e = .returned (.bool r) ∧ Drawn0 w w' := by
  have HR0 := Aside0.mk hr0
  have HC0 := Aside0.mk hc0
  clear hr0 hc0
  have HR1 := Aside0.mk hr1
  have HC1 := Aside0.mk hc1
  clear hr1 hc1
  unfold remontoirkeep_Ints.f at h
  have H := h
  clear h
  by_cases c3 : (l0.length : Int) = (l1.length : Int)
  rotate_left
  · rw [if_neg c3] at H
    have c3b0 := beq_eq_false_iff_ne.mpr c3
    have c3b1 := bne_iff_ne.mpr c3
    have c3b2 : (l0.length == l1.length) = false := by first | simpa using c3 | (simp at c3 ⊢; omega)
    obtain rfl := Option.some.inj H
    go_enter Tryz.func9, Tryz.ntmps9
    go_wp2
    repeat (go_quiet (fail); try go_wp2)
    go_ret
    exact ⟨by first | rfl | (simp; done) | (simp [*]; done), by repeat (first | exact Drawn0.refl _ | apply Drawn0.step)⟩
  rw [if_pos c3] at H
  have c3b0 := beq_iff_eq.mpr c3
  have c3b1 := bne_eq_false_iff_eq.mpr c3
  have c3b2 : (l0.length == l1.length) = true := by first | simpa using c3 | (simp at c3 ⊢; omega)
  clear c3
  have H' := Aside0.mk H
  clear H
  go_enter Tryz.func9, Tryz.ntmps9
  go_wp2
  repeat (go_quiet (fail); try go_wp2)
  go_loopg [5] k (fun kq v5 w' => ∃ (x5_1 : Int), v5 = .int .i64 x5_1 ∧ Aside0 (remontoirkeep_Ints.l0 kq l0 l1 x5_1 = some r) ∧ Aside0 (kq ≤ k) ∧ Drawn0 w w')
  case atStart => exact ⟨(0), bd11_26, H', ⟨Nat.le_refl _⟩, by repeat (first | exact Drawn0.refl _ | apply Drawn0.step)⟩
  case round =>
    clear H'
    try clear c1
    try clear p2
    try clear c3
    try clear c3b0
    try clear c3b1
    try clear c3b2
    obtain ⟨x5_1, rfl, HA, HK1, ⟨m1, rfl⟩⟩ := hrel
    cases gk with
    | zero => exact absurd HA.out (by simp [remontoirkeep_Ints.l0])
    | succ k1 =>
      have H := HA.out
      clear HA
      simp only [remontoirkeep_Ints.l0] at H
      by_cases c4 : x5_1 < (l0.length : Int)
      rotate_left
      · rw [if_neg c4] at H
        have c4b0 := decide_eq_false c4
        clear c4
        obtain rfl := Option.some.inj H
        go_wp2
        repeat (go_quiet (fail); try go_wp2)
        go_ret
        exact ⟨by first | rfl | (simp; done) | (simp [*]; done), by repeat (first | exact Drawn0.refl _ | apply Drawn0.step)⟩
      rw [if_pos c4] at H
      have c4b0 := decide_eq_true c4
      clear c4
      obtain ⟨c5, H⟩ := itS H
      have c5b0 := decide_eq_true c5
      clear c5
      obtain ⟨c6, H⟩ := itS H
      have c6b0 := decide_eq_true c6
      clear c6
      by_cases c7 : (rd l0 x5_1) = (rd l1 x5_1)
      rotate_left
      · rw [if_neg c7] at H
        have c7b0 := beq_eq_false_iff_ne.mpr c7
        have c7b1 := bne_iff_ne.mpr c7
        obtain rfl := Option.some.inj H
        have p282 : 0 ≤ (x5_1 : Int) := of_decide_eq_true bb11_25
        have q282 : x5_1 < (l0.length : Int) := of_decide_eq_true bb11_25
        obtain ⟨ad282, e282, hx282_0⟩ := Kd.at_int HR0.out x5_1 p282 q282
        cases e282
        replace p282 := eq_true p282
        replace q282 := eq_true q282
        have p283 : 0 ≤ (x5_1 : Int) := of_decide_eq_true bb11_25
        have q283 : x5_1 < (l1.length : Int) := of_decide_eq_true bb11_25
        obtain ⟨ad283, e283, hx283_0⟩ := Kd.at_int HR1.out x5_1 p283 q283
        cases e283
        replace p283 := eq_true p283
        replace q283 := eq_true q283
        go_wp2
        repeat (go_quiet (fail); try go_wp2)
        go_ret
        exact ⟨by first | rfl | (simp; done) | (simp [*]; done), by repeat (first | exact Drawn0.refl _ | apply Drawn0.step)⟩
      rw [if_pos c7] at H
      have c7b0 := beq_iff_eq.mpr c7
      have c7b1 := bne_eq_false_iff_eq.mpr c7
      clear c7
      have H' := Aside0.mk H
      clear H
      have p282 : 0 ≤ (x5_1 : Int) := of_decide_eq_true bb11_25
      have q282 : x5_1 < (l0.length : Int) := of_decide_eq_true bb11_25
      obtain ⟨ad282, e282, hx282_0⟩ := Kd.at_int HR0.out x5_1 p282 q282
      cases e282
      replace p282 := eq_true p282
      replace q282 := eq_true q282
      have p283 : 0 ≤ (x5_1 : Int) := of_decide_eq_true bb11_25
      have q283 : x5_1 < (l1.length : Int) := of_decide_eq_true bb11_25
      obtain ⟨ad283, e283, hx283_0⟩ := Kd.at_int HR1.out x5_1 p283 q283
      cases e283
      replace p283 := eq_true p283
      replace q283 := eq_true q283
      go_wp2
      repeat (go_quiet (fail); try go_wp2)
      go_roundg k1
      case measure => have := HK1.out; omega
      case rel => exact ⟨(wrap64 (x5_1 + 1)), bd11_26, H', ⟨by have := HK1.out; omega⟩, by repeat (first | exact Drawn0.refl _ | apply Drawn0.step)⟩

end Go.Proofs.YtflnkchpfbcgiaaGreatDoor.Q
