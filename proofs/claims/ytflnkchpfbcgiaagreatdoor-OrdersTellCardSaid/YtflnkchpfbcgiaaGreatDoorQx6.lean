-- Written by this session's program xprint.py (which runs the kit's print with some functions given by hand). Lean checks it.
import Derived.Test.YtflnkchpfbcgiaaGreatDoorQx0
import Derived.Test.YtflnkchpfbcgiaaGreatDoorQx1
import Derived.Test.YtflnkchpfbcgiaaGreatDoorQx3
import Derived.Test.YtflnkchpfbcgiaaGreatDoorQx5
import Derived.Test.YtflnkchpfbcgiaaGreatDoorHKept
import Derived.Test.YtflnkchpfbcgiaaGreatDoorHSort
namespace Go.Proofs.YtflnkchpfbcgiaaGreatDoor.Q
open Go.RowKit Go.Proofs.YtflnkchpfbcgiaaGreatDoorW.PrintWords Go.Proofs.YtflnkchpfbcgiaaGreatDoorW.PrintLast Go.Proofs.YtflnkchpfbcgiaaGreatDoorW.PrintMore
attribute [local go_sem] max2_int min2_int max_two min_two max_three min_three max_four min_four   -- for this text's walks alone
set_option linter.unusedVariables false
set_option linter.unusedSimpArgs false
theorem bs6_0 {w W w2 : World} (k : Below W.heap.size W w2) (h : Below w.heap.size w W := by repeat (first | (with_reducible first | exact HB.out | apply below_alloc | apply pw_below_drewN | apply below_drew1) | exact HB.out)) : Below w.heap.size w w2 := below_step h k
theorem bs6_1 {w W w2 : World} (k : Below W.heap.size W w2) (h : Below w.heap.size w W := by repeat (first | (with_reducible first | exact HB.out | apply below_alloc | apply pw_below_drewN | apply below_drew1 | refine below_set ?_ GE161.out) | exact HB.out)) : Below w.heap.size w w2 := below_step h k
theorem bs6_2 {w W w2 : World} (k : Below W.heap.size W w2) (h : Below w.heap.size w W := by repeat (first | (with_reducible first | exact HB.out | apply below_alloc | apply pw_below_drewN | apply below_drew1 | refine below_set ?_ GE161.out | refine below_set ?_ GE163.out) | exact HB.out)) : Below w.heap.size w w2 := below_step h k
theorem bs6_3 {w W w2 : World} (k : Below W.heap.size W w2) (h : Below w.heap.size w W := by repeat (first | (with_reducible first | exact HB.out | apply below_alloc | apply pw_below_drewN | apply below_drew1 | refine below_set ?_ GE196.out) | exact HB.out)) : Below w.heap.size w w2 := below_step h k
theorem bz6_4 {w W : World} (h : Below w.heap.size w W := by repeat (first | (with_reducible first | exact HB.out | apply below_alloc | apply pw_below_drewN | apply below_drew1) | exact HB.out)) : w.heap.size ≤ W.heap.size := below_size h
theorem bz6_5 {w W : World} (h : Below w.heap.size w W := by repeat (first | (with_reducible first | exact HB.out | apply below_alloc | apply pw_below_drewN | apply below_drew1 | refine below_set ?_ GE161.out) | exact HB.out)) : w.heap.size ≤ W.heap.size := below_size h
theorem bz6_6 {w W : World} (h : Below w.heap.size w W := by repeat (first | (with_reducible first | exact HB.out | apply below_alloc | apply pw_below_drewN | apply below_drew1 | refine below_set ?_ GE161.out | refine below_set ?_ GE163.out) | exact HB.out)) : w.heap.size ≤ W.heap.size := below_size h
theorem bz6_7 {w W : World} (h : Below w.heap.size w W := by repeat (first | (with_reducible first | exact HB.out | apply below_alloc | apply pw_below_drewN | apply below_drew1 | refine below_set ?_ GE161.out | refine below_set ?_ GE163.out | refine below_set ?_ GE171.out) | exact HB.out)) : w.heap.size ≤ W.heap.size := below_size h
theorem bz6_8 {w W : World} (h : Below w.heap.size w W := by repeat (first | (with_reducible first | exact HB.out | apply below_alloc | apply pw_below_drewN | apply below_drew1 | refine below_set ?_ GE182.out) | exact HB.out)) : w.heap.size ≤ W.heap.size := below_size h
theorem bz6_9 {w W : World} (h : Below w.heap.size w W := by repeat (first | (with_reducible first | exact HB.out | apply below_alloc | apply pw_below_drewN | apply below_drew1 | refine below_set ?_ GE196.out) | exact HB.out)) : w.heap.size ≤ W.heap.size := below_size h
theorem bk6_10 {w w1 : World} {g : Nat} {o : Obj} (hb : Below w.heap.size w w1) (h : w.heap[g]? = some o := by (with_reducible repeat (first | refine blk_drewN ?_ _ | refine blk_drew ?_ | refine blk_alloc ?_ _)); exact BK161.out) : w1.heap[g]? = some o := blk_below h hb
theorem bk6_11 {w w1 : World} {g : Nat} {o : Obj} (hb : Below w.heap.size w w1) (h : w.heap[g]? = some o := by (with_reducible repeat (first | refine blk_drewN ?_ _ | refine blk_drew ?_ | refine blk_alloc ?_ _)); exact BK163.out) : w1.heap[g]? = some o := blk_below h hb
theorem bk6_12 {w w1 : World} {g : Nat} {o : Obj} (hb : Below w.heap.size w w1) (h : w.heap[g]? = some o := by (with_reducible repeat (first | refine blk_drewN ?_ _ | refine blk_drew ?_ | refine blk_alloc ?_ _)); exact BK196.out) : w1.heap[g]? = some o := blk_below h hb
theorem bb6_13 {w : World} {g : Nat} {o : Obj} (h : w.heap[g]? = some o := by (with_reducible repeat (first | refine blk_drewN ?_ _ | refine blk_drew ?_ | refine blk_alloc ?_ _)); exact BK161.out) : w.heap[g]? = some o := h
theorem bb6_14 {w : World} {g : Nat} {o : Obj} (h : w.heap[g]? = some o := by (with_reducible repeat (first | refine blk_drewN ?_ _ | refine blk_drew ?_ | refine blk_alloc ?_ _)); exact BK163.out) : w.heap[g]? = some o := h
theorem br6_15 {α : Type} {d : Kd α} {e : Nat} {w : World} {base : Nat} {ok : Nat → Prop} {v : Value} {xs : List α} (h : d.R e w base ok v xs := by (with_reducible repeat (first | apply Kd.R_alloc | apply Kd.R_drewN | apply Kd.R_drew)); exact HO195.out) : d.R e w base ok v xs := h
theorem br6_16 {α : Type} {d : Kd α} {e : Nat} {w : World} {base : Nat} {ok : Nat → Prop} {v : Value} {xs : List α} (h : d.R e w base ok v xs := by (with_reducible repeat (first | apply Kd.R_alloc | apply Kd.R_drewN | apply Kd.R_drew)); exact HO199.out) : d.R e w base ok v xs := h
theorem br6_17 {α : Type} {d : Kd α} {e : Nat} {w : World} {base : Nat} {ok : Nat → Prop} {v : Value} {xs : List α} (h : d.R e w base ok v xs := by (with_reducible repeat (first | apply Kd.R_alloc | apply Kd.R_drewN | apply Kd.R_drew)); exact HO202.out) : d.R e w base ok v xs := h
theorem br6_18 {α : Type} {d : Kd α} {e : Nat} {w : World} {base : Nat} {ok : Nat → Prop} {v : Value} {xs : List α} (h : d.R e w base ok v xs := by (with_reducible repeat (first | apply Kd.R_alloc | apply Kd.R_drewN | apply Kd.R_drew)); exact HO208.out) : d.R e w base ok v xs := h
theorem br6_19 {α : Type} {d : Kd α} {e : Nat} {w : World} {base : Nat} {ok : Nat → Prop} {v : Value} {xs : List α} (h : d.R e w base ok v xs := by (with_reducible repeat (first | apply Kd.R_alloc | apply Kd.R_drewN | apply Kd.R_drew)); exact HO215.out) : d.R e w base ok v xs := h
theorem ba6_20 {p : Prop} (h : p := by (try simp only [List.map_toArray, List.map_cons, List.map_nil]); first | done | rfl | (simp only [List.length_drop, List.length_take]; rfl)) : p := h
theorem bb6_21 {p : Prop} (h : p := by first | (with_reducible assumption) | assumption) : p := h
theorem bd6_22 {p : Prop} (h : p := by first | rfl | (simp; done) | (simp [*]; done)) : p := h
theorem bh6_23 {w W : World} (h : Below w.heap.size w W := by repeat (first | (with_reducible first | exact HB.out | apply below_alloc | apply pw_below_drewN | apply below_drew1 | refine below_set ?_ GE161.out | refine below_set ?_ GE163.out) | exact HB.out)) : Below w.heap.size w W := h
theorem bh6_24 {w W : World} (h : Below w.heap.size w W := by repeat (first | (with_reducible first | exact HB.out | apply below_alloc | apply pw_below_drewN | apply below_drew1 | refine below_set ?_ GE161.out | refine below_set ?_ GE163.out | refine below_set ?_ GE171.out) | exact HB.out)) : Below w.heap.size w W := h
theorem bh6_25 {w W : World} (h : Below w.heap.size w W := by repeat (first | (with_reducible first | exact HB.out | apply below_alloc | apply pw_below_drewN | apply below_drew1 | refine below_set ?_ GE182.out) | exact HB.out)) : Below w.heap.size w W := h


attribute [local go_sem high] eqA48
/-! ### orders_Of: function 7 -/
def orders_Of.l0 : Nat → List (S48) → List (S45) → Int → Int → ByteArray → List (S41) → List (S43) → Option ((List (S48)))
  | 0, _, _, _, _, _, _, _ => none
  | k + 1, x5, x10, x11, x12, x162000, x162001, x162002 => if x12 < x11 then (if 0 ≤ x12 then (if x12 < (x10.length : Int) then (if ((rd_T45 x10 x12).f0) = 2 then ((orders_class.f x162000 x162001 x162002 ((rd_T45 x10 x12).f2)).bind fun t164 => (if x5.length < 3518437208883 then (orders_Of.l0 k (x5 ++ [(⟨1, (rd_T45 x10 x12).f3, (rd_T45 x10 x12).f2, t164, 0⟩ : S48)]) x10 x11 (wrap64 (x12 + 1)) x162000 x162001 x162002) else (none))) else (if ((rd_T45 x10 x12).f0) = 3 then ((graph_Time.f k x162000 x162001 x162002 ((rd_T45 x10 x12).f2)).bind fun bt168 => (if x5.length < 3518437208883 then (orders_Of.l0 k (x5 ++ [(⟨2, (rd_T45 x10 x12).f3, (rd_T45 x10 x12).f2, 0, bt168.2.1⟩ : S48)]) x10 x11 (wrap64 (x12 + 1)) x162000 x162001 x162002) else (none))) else (if ((rd_T45 x10 x12).f0) = 4 then (if x5.length < 3518437208883 then (orders_Of.l0 k (x5 ++ [(⟨3, (rd_T45 x10 x12).f3, 0, 0, 0⟩ : S48)]) x10 x11 (wrap64 (x12 + 1)) x162000 x162001 x162002) else (none)) else (orders_Of.l0 k x5 x10 x11 (wrap64 (x12 + 1)) x162000 x162001 x162002)))) else (none)) else (none)) else (some x5)
def orders_Of.f (k : Nat) (a0_0 : ByteArray) (l0_1 : List (S41)) (l0_2 : List (S43)) (l1 : List (S45)) : Option ((List (S48))) := orders_Of.l0 k ([] : List (S48)) l1 (l1.length : Int) 0 a0_0 l0_1 l0_2
theorem orders_Of.mono_l : ∀ k, (∀ y0 y1 y2 y3 y4 y5 y6, LeO (orders_Of.l0 k y0 y1 y2 y3 y4 y5 y6) (orders_Of.l0 (k + 1) y0 y1 y2 y3 y4 y5 y6))
  | 0 => fun _ _ _ _ _ _ _ r h => by simp [orders_Of.l0] at h
  | k + 1 => by
    have ih0 := orders_Of.mono_l k
    · intro y0 y1 y2 y3 y4 y5 y6
      unfold orders_Of.l0
      repeat' first
      | (with_reducible exact ih0 _ _ _ _ _ _ _)
      | (with_reducible exact graph_Time.mono _ _ _ _ _)
      | (with_reducible exact LeO.refl _)
      | (with_reducible exact LeO.none _)
      | (with_reducible refine LeO.ite ?_ ?_)
      | (with_reducible refine LeO.bind ?_ (fun _ => ?_))
      | exact ih0 _ _ _ _ _ _ _
      | exact graph_Time.mono _ _ _ _ _
      | exact LeO.none _
      | refine LeO.ite ?_ ?_
      | refine LeO.bind ?_ (fun _ => ?_)
theorem orders_Of.mono : ∀ a0 a1 a2 a3 k, LeO (orders_Of.f k a0 a1 a2 a3) (orders_Of.f (k + 1) a0 a1 a2 a3) := by
  intro a0 a1 a2 a3 k
  have ih0 := orders_Of.mono_l k
  unfold orders_Of.f
  repeat' first
      | (with_reducible exact ih0 _ _ _ _ _ _ _)
      | (with_reducible exact graph_Time.mono _ _ _ _ _)
      | (with_reducible exact LeO.refl _)
      | (with_reducible exact LeO.none _)
      | (with_reducible refine LeO.ite ?_ ?_)
      | (with_reducible refine LeO.bind ?_ (fun _ => ?_))
      | exact ih0 _ _ _ _ _ _ _
      | exact graph_Time.mono _ _ _ _ _
      | exact LeO.none _
      | refine LeO.ite ?_ ?_
      | refine LeO.bind ?_ (fun _ => ?_)
def orders_Of.T7 : Bool × List (List Nat × List Nat) := (true, [([], []), ([], []), ([1], [1]), ([], []), ([3], [3]), ([], []), ([], []), ([6], [6]), ([5, 7], [5, 7]), ([2, 4, 8], [2, 4, 8]), ([9], [9]), ([0, 10, 8], [0, 10]), ([11, 11, 0, 1, 2, 3, 4, 5, 6, 7, 8, 9, 10, 11], [0, 11])])
def orders_Of.B7 : List Nat := [0, 0, 2, 0, 8, 0, 0, 64, 224, 510, 1022, 2047, 4095]
theorem orders_Of.tab7 : rtab .any (opsOf Tryz.f7 7) = orders_Of.T7 := by kernel_rfl
theorem orders_Of.bits7 : waitsOk orders_Of.T7.2 orders_Of.B7 = true := by kernel_rfl
set_option maxHeartbeats 8000000 in
set_option maxRecDepth 100000 in
theorem orders_Of.calls (k : Nat) (a0_0 : ByteArray) (A0_1 : Option Addr) (c0_1 : Nat) (l0_1 : List (S41)) (A0_2 : Option Addr) (c0_2 : Nat) (l0_2 : List (S43)) (A1 : Option Addr) (c1 : Nat) (l1 : List (S45)) (r : List (S48)) (w : World) (hr0_1 : Kd.C k41 w A0_1 l0_1.length l0_1) (hc0_1 : l0_1.length ≤ c0_1) (hr0_2 : Kd.C k43 w A0_2 l0_2.length l0_2) (hc0_2 : l0_2.length ≤ c0_2) (hr1 : Kd.C k45 w A1 l1.length l1) (hc1 : l1.length ≤ c1) (h : orders_Of.f k a0_0 l0_1 l0_2 l1 = some r) :
    Calls Tryz.prog 7 #[.agg #[.string a0_0, .slice A0_1 l0_1.length c0_1, .slice A0_2 l0_2.length c0_2], .slice A1 l1.length c1] w fun e w' => ∃ v0_ : Value, e = .returned (v0_) ∧ Kd.R k48 48 w' w.heap.size (fun _ => True) v0_ r ∧ Below w.heap.size w w' := by
  have hu25 := Tryz.underlying25
  have hu45 := Tryz.underlying45
  have hu48 := Tryz.underlying48
  have hu51 := Tryz.underlying51
  have HR0_1 := Aside0.mk hr0_1
  have HC0_1 := Aside0.mk hc0_1
  clear hr0_1 hc0_1
  have HR0_2 := Aside0.mk hr0_2
  have HC0_2 := Aside0.mk hc0_2
  clear hr0_2 hc0_2
  have HR1 := Aside0.mk hr1
  have HC1 := Aside0.mk hc1
  clear hr1 hc1
  have HB := Aside0.mk (Below.refl w.heap.size w)
  unfold orders_Of.f at h
  have H := h
  clear h
  have H' := Aside0.mk H
  clear H
  go_enter Tryz.func7, Tryz.ntmps7
  go_wp2_with (first | ((with_reducible refine gate_dst (N := 2) rfl ?_); refine box_event ?hg (N := 2) ?hd (cs := #[.string a0_0, .slice A0_1 l0_1.length c0_1, .slice A0_2 l0_2.length c0_2]) (t := 25) ?hr ?_; (case hd => rfl); (case hg => rfl); (case hr => first | (go_simp; done) | (go_simp; rfl)); intro gb161 hg w3 hbox hb; have BK161 := Aside0.mk (hbox); have GW161 := Aside0.mk ((by rw [hg]; exact bz6_4 : w.heap.size ≤ gb161)); have GE161 := Aside0.mk ((by rw [hg]; exact bz6_4 : w.heap.size ≤ gb161)); replace HB := Aside0.mk (bs6_0 hb); clear hb hbox hg))
  go_loopg [5, 12] k (fun kq v5 v12 w' => ∃ (x5_1 : List (S48)) (x12_1 : Int), v12 = .int .i64 x12_1 ∧ Aside0 (orders_Of.l0 kq x5_1 l1 (l1.length : Int) x12_1 a0_0 l0_1 l0_2 = some r) ∧ Aside0 (kq ≤ k) ∧ Aside0 (Kd.R k48 48 w' w.heap.size (fun _ => True) v5 x5_1) ∧ Aside0 (w'.heap[gb161]? = some (.cells #[.string a0_0, (.slice A0_1 l0_1.length c0_1), (.slice A0_2 l0_2.length c0_2)] 25 (0, 0))) ∧ Aside0 (Below w.heap.size w w'))
  case atStart => exact ⟨(([] : List (S48))), (0), bd6_22, H', ⟨Nat.le_refl _⟩, ⟨by first | exact Kd.R_nil _ _ _ _ _ | exact Kd.N_nil _ _ _ _ _ | exact Kd.V_nil _ _ _ _ _ | exact Kd.Q_nil _ _ _ _ _ | exact Kd.S_nil _ _ _ _ _⟩, ⟨by (with_reducible repeat (first | refine blk_drewN ?_ _ | refine blk_drew ?_ | refine blk_alloc ?_ _)); exact BK161.out⟩, ⟨by repeat (first | (with_reducible first | exact HB.out | apply below_alloc | apply pw_below_drewN | apply below_drew1 | refine below_set ?_ GE161.out) | exact HB.out)⟩⟩
  case round =>
    clear H'
    try clear c1
    try clear p2
    obtain ⟨x5_1, x12_1, rfl, HA, HK1, HO_5, BK161, HB⟩ := hrel
    cases gk with
    | zero => exact absurd HA.out (by simp [orders_Of.l0])
    | succ k1 =>
      have H := HA.out
      clear HA
      simp only [orders_Of.l0] at H
      by_cases c4 : x12_1 < (l1.length : Int)
      rotate_left
      · rw [if_neg c4] at H
        have c4b0 := decide_eq_false c4
        clear c4
        obtain rfl := Option.some.inj H
        go_wp2
        go_ret
        exact ⟨_, by first | rfl | (simp [errW_none, errW_some] <;> rfl) | (simp [*, errW_none, errW_some] <;> rfl), by (with_reducible repeat (first | apply Kd.R_alloc | apply Kd.R_drewN | apply Kd.R_drew)); exact HO_5.out, by repeat (first | (with_reducible first | exact HB.out | apply below_alloc | apply pw_below_drewN | apply below_drew1 | refine below_set ?_ GE161.out) | exact HB.out)⟩
      rw [if_pos c4] at H
      have c4b0 := decide_eq_true c4
      clear c4
      obtain ⟨c5, H⟩ := itS H
      have c5b0 := decide_eq_true c5
      clear c5
      obtain ⟨c6, H⟩ := itS H
      have c6b0 := decide_eq_true c6
      clear c6
      by_cases c7 : ((rd_T45 l1 x12_1).f0) = 2
      · rw [if_pos c7] at H
        have c7b0 := beq_iff_eq.mpr c7
        have c7b1 := bne_eq_false_iff_eq.mpr c7
        clear c7
        obtain ⟨t164, A8, H⟩ := bdA H
        obtain ⟨LMc9, H⟩ := itL H
        obtain ⟨y165, hy165⟩ : ∃ y_ : List (S48), y_ = (x5_1 ++ [(⟨1, (rd_T45 l1 x12_1).f3, (rd_T45 l1 x12_1).f2, t164, 0⟩ : S48)]) := ⟨_, rfl⟩
        replace H : (orders_Of.l0 k1 y165 l1 (l1.length : Int) (wrap64 (x12_1 + 1)) a0_0 l0_1 l0_2) = some r := by first | (rw [hy165]; with_reducible exact H) | (have H2_ := (Option.bind_some _ _).symm.trans H; rw [hy165]; with_reducible exact H2_) | (have H2_ := (Option.bind_some _ _).symm.trans H; with_reducible exact H2_) | with_reducible exact H | (rw [hy165]; exact H) | exact H
        have Ny165 := Aside0.mk hy165
        clear hy165
        have H' := Aside0.mk H
        clear H
        have p162 : 0 ≤ (x12_1 : Int) := of_decide_eq_true bb6_21
        have q162 : x12_1 < (l1.length : Int) := of_decide_eq_true bb6_21
        obtain ⟨ad162, e162, hx162_0, hx162_1, hx162_2, hx162_3⟩ := at_T45 HR1.out x12_1 p162 q162
        cases e162
        replace hx162_0 := (HB.out.cell (World.block_lt_of_cell? w _ hx162_0)).trans hx162_0
        replace hx162_1 := (HB.out.cell (World.block_lt_of_cell? w _ hx162_1)).trans hx162_1
        replace hx162_2 := (HB.out.cell (World.block_lt_of_cell? w _ hx162_2)).trans hx162_2
        replace hx162_3 := (HB.out.cell (World.block_lt_of_cell? w _ hx162_3)).trans hx162_3
        replace p162 := eq_true p162
        replace q162 := eq_true q162
        try go_wp2_with (first | ((with_reducible refine gate_dst (N := 7) rfl ?_); refine box_event ?hg (N := 7) ?hd (cs := #[.int .i64 0, .int .i64 0, .int .i64 0, .int .i64 0]) (t := 45) ?hr ?_; (case hd => rfl); (case hg => rfl); (case hr => first | (go_simp; done) | (go_simp; rfl)); intro gb163 hg w10 hbox hb; replace HO_5 := Aside0.mk (Kd.R_below (by (with_reducible repeat (first | apply Kd.R_alloc | apply Kd.R_drewN | apply Kd.R_drew)); exact HO_5.out) hb); have BK163 := Aside0.mk (hbox); have GW163 := Aside0.mk ((by rw [hg]; exact bz6_5 : w.heap.size ≤ gb163)); have GE163 := Aside0.mk ((by rw [hg]; exact bz6_5 : w.heap.size ≤ gb163)); replace HB := Aside0.mk (bs6_1 hb); have NB161_163 := Aside0.mk ((by rw [hg]; exact Nat.ne_of_lt (blk_lt (g := gb161) (o := .cells #[.string a0_0, .slice A0_1 l0_1.length c0_1, .slice A0_2 l0_2.length c0_2] 25 (0, 0)) bb6_13) : gb161 ≠ gb163)); have NB163_161 := Aside0.mk ((by rw [hg]; exact Nat.ne_of_gt (blk_lt (g := gb161) (o := .cells #[.string a0_0, .slice A0_1 l0_1.length c0_1, .slice A0_2 l0_2.length c0_2] 25 (0, 0)) bb6_13) : gb163 ≠ gb161)); replace BK161 := Aside0.mk (bk6_10 (g := gb161) (o := .cells #[.string a0_0, .slice A0_1 l0_1.length c0_1, .slice A0_2 l0_2.length c0_2] 25 (0, 0)) hb); clear hb hbox hg; have hnb11 := NB163_161.out; have hnc11 := NB161_163.out; have hcz12_0 : w10.cell? ⟨gb163, 0, none⟩ = some (.int .i64 0) := (blk_cell BK163.out 0).trans rfl; have hcz12_1 : w10.cell? ⟨gb163, 1, none⟩ = some (.int .i64 0) := (blk_cell BK163.out 1).trans rfl; have hcz12_2 : w10.cell? ⟨gb163, 2, none⟩ = some (.int .i64 0) := (blk_cell BK163.out 2).trans rfl; have hcz12_3 : w10.cell? ⟨gb163, 3, none⟩ = some (.int .i64 0) := (blk_cell BK163.out 3).trans rfl; have hfz12_0 := blk_frozen BK163.out 0; have hfz12_1 := blk_frozen BK163.out 1; have hfz12_2 := blk_frozen BK163.out 2; have hfz12_3 := blk_frozen BK163.out 3))
        have n0_ : Aside0 (Kd.R k48 48 ((((w10.setCell ⟨gb163, 0, none⟩ (.int .i64 ((rd_T45 l1 x12_1).f0))).setCell ⟨gb163, 1, none⟩ (.int .i64 ((rd_T45 l1 x12_1).f1))).setCell ⟨gb163, 2, none⟩ (.int .i64 ((rd_T45 l1 x12_1).f2))).setCell ⟨gb163, 3, none⟩ (.int .i64 ((rd_T45 l1 x12_1).f3))) w.heap.size (fun _ => True) u5 x5_1) := ⟨by (with_reducible repeat (first | apply Kd.R_alloc | apply Kd.R_drewN | apply Kd.R_drew)); exact Kd.R_mono (Kd.R_far (p := ⟨gb163, 3, none⟩) (Kd.R_far (p := ⟨gb163, 2, none⟩) (Kd.R_far (p := ⟨gb163, 1, none⟩) (Kd.R_far (p := ⟨gb163, 0, none⟩) (Kd.R_types HO_5.out BK163.out (by decide)) (fun _ hk => hk.2) (.int .i64 ((rd_T45 l1 x12_1).f0))) (fun _ hk => hk.2) (.int .i64 ((rd_T45 l1 x12_1).f1))) (fun _ hk => hk.2) (.int .i64 ((rd_T45 l1 x12_1).f2))) (fun _ hk => hk.2) (.int .i64 ((rd_T45 l1 x12_1).f3))) (fun _ hk => trivial)⟩
        have n1_ : Aside0 (((((w10.setCell ⟨gb163, 0, none⟩ (.int .i64 ((rd_T45 l1 x12_1).f0))).setCell ⟨gb163, 1, none⟩ (.int .i64 ((rd_T45 l1 x12_1).f1))).setCell ⟨gb163, 2, none⟩ (.int .i64 ((rd_T45 l1 x12_1).f2))).setCell ⟨gb163, 3, none⟩ (.int .i64 ((rd_T45 l1 x12_1).f3))).heap[gb161]? = some (.cells #[.string a0_0, .slice A0_1 l0_1.length c0_1, .slice A0_2 l0_2.length c0_2] 25 (0, 0))) := ⟨by (with_reducible repeat (first | refine blk_drewN ?_ _ | refine blk_drew ?_ | refine blk_alloc ?_ _)); refine blk_far ?_ NB161_163.out _; (with_reducible repeat (first | refine blk_drewN ?_ _ | refine blk_drew ?_ | refine blk_alloc ?_ _)); refine blk_far ?_ NB161_163.out _; (with_reducible repeat (first | refine blk_drewN ?_ _ | refine blk_drew ?_ | refine blk_alloc ?_ _)); refine blk_far ?_ NB161_163.out _; (with_reducible repeat (first | refine blk_drewN ?_ _ | refine blk_drew ?_ | refine blk_alloc ?_ _)); refine blk_far ?_ NB161_163.out _; (with_reducible repeat (first | refine blk_drewN ?_ _ | refine blk_drew ?_ | refine blk_alloc ?_ _)); exact BK161.out⟩
        have n2_ : Aside0 (((((w10.setCell ⟨gb163, 0, none⟩ (.int .i64 ((rd_T45 l1 x12_1).f0))).setCell ⟨gb163, 1, none⟩ (.int .i64 ((rd_T45 l1 x12_1).f1))).setCell ⟨gb163, 2, none⟩ (.int .i64 ((rd_T45 l1 x12_1).f2))).setCell ⟨gb163, 3, none⟩ (.int .i64 ((rd_T45 l1 x12_1).f3))).heap[gb163]? = some (.cells #[.int .i64 ((rd_T45 l1 x12_1).f0), .int .i64 ((rd_T45 l1 x12_1).f1), .int .i64 ((rd_T45 l1 x12_1).f2), .int .i64 ((rd_T45 l1 x12_1).f3)] 45 (0, 0))) := ⟨by (with_reducible repeat (first | refine blk_drewN ?_ _ | refine blk_drew ?_ | refine blk_alloc ?_ _)); refine blk_put (cs := #[.int .i64 ((rd_T45 l1 x12_1).f0), .int .i64 ((rd_T45 l1 x12_1).f1), .int .i64 ((rd_T45 l1 x12_1).f2), .int .i64 0]) ?_ 3 _ rfl; (with_reducible repeat (first | refine blk_drewN ?_ _ | refine blk_drew ?_ | refine blk_alloc ?_ _)); refine blk_put (cs := #[.int .i64 ((rd_T45 l1 x12_1).f0), .int .i64 ((rd_T45 l1 x12_1).f1), .int .i64 0, .int .i64 0]) ?_ 2 _ rfl; (with_reducible repeat (first | refine blk_drewN ?_ _ | refine blk_drew ?_ | refine blk_alloc ?_ _)); refine blk_put (cs := #[.int .i64 ((rd_T45 l1 x12_1).f0), .int .i64 0, .int .i64 0, .int .i64 0]) ?_ 1 _ rfl; (with_reducible repeat (first | refine blk_drewN ?_ _ | refine blk_drew ?_ | refine blk_alloc ?_ _)); refine blk_put (cs := #[.int .i64 0, .int .i64 0, .int .i64 0, .int .i64 0]) ?_ 0 _ rfl; (with_reducible repeat (first | refine blk_drewN ?_ _ | refine blk_drew ?_ | refine blk_alloc ?_ _)); exact BK163.out⟩
        have n3_ : Aside0 (Below w.heap.size w ((((w10.setCell ⟨gb163, 0, none⟩ (.int .i64 ((rd_T45 l1 x12_1).f0))).setCell ⟨gb163, 1, none⟩ (.int .i64 ((rd_T45 l1 x12_1).f1))).setCell ⟨gb163, 2, none⟩ (.int .i64 ((rd_T45 l1 x12_1).f2))).setCell ⟨gb163, 3, none⟩ (.int .i64 ((rd_T45 l1 x12_1).f3)))) := ⟨by repeat (first | (with_reducible first | exact HB.out | apply below_alloc | apply pw_below_drewN | apply below_drew1 | refine below_set ?_ GE161.out | refine below_set ?_ GE163.out) | exact HB.out)⟩
        (try clear HO_5)
        (try clear BK161)
        (try clear BK163)
        (try clear HB)
        generalize ((((w10.setCell ⟨gb163, 0, none⟩ (.int .i64 ((rd_T45 l1 x12_1).f0))).setCell ⟨gb163, 1, none⟩ (.int .i64 ((rd_T45 l1 x12_1).f1))).setCell ⟨gb163, 2, none⟩ (.int .i64 ((rd_T45 l1 x12_1).f2))).setCell ⟨gb163, 3, none⟩ (.int .i64 ((rd_T45 l1 x12_1).f3))) = w13 at n0_ n1_ n2_ n3_ ⊢
        have HO_5 := n0_
        have BK161 := n1_
        have BK163 := n2_
        have HB := n3_
        clear n0_ n1_ n2_ n3_
        replace HO_5 := Aside0.mk (Kd.R_drew HO_5.out)
        replace BK161 := Aside0.mk (blk_drew BK161.out)
        replace BK163 := Aside0.mk (blk_drew BK163.out)
        replace HB := Aside0.mk (below_drew1 HB.out)
        refine start_ (n := 13) (S := fun w' => w'.cell? ⟨gb163, 0, none⟩ = some (.int .i64 ((rd_T45 l1 x12_1).f0)) ∧ w'.cell? ⟨gb163, 1, none⟩ = some (.int .i64 ((rd_T45 l1 x12_1).f1)) ∧ w'.cell? ⟨gb163, 2, none⟩ = some (.int .i64 ((rd_T45 l1 x12_1).f2)) ∧ w'.cell? ⟨gb163, 3, none⟩ = some (.int .i64 ((rd_T45 l1 x12_1).f3)) ∧ w'.cell? ⟨gb161, 0, none⟩ = some (.string a0_0) ∧ w'.cell? ⟨gb161, 1, none⟩ = some (.slice A0_1 l0_1.length c0_1) ∧ w'.cell? ⟨gb161, 2, none⟩ = some (.slice A0_2 l0_2.length c0_2)) (ds := []) #[false, false, false, false, false, false, false, false, false, false, false, false, false] (by kernel_rfl) rfl rfl ⟨(blk_cell BK163.out 0).trans rfl, (blk_cell BK163.out 1).trans rfl, (blk_cell BK163.out 2).trans rfl, (blk_cell BK163.out 3).trans rfl, (blk_cell BK161.out 0).trans rfl, (blk_cell BK161.out 1).trans rfl, (blk_cell BK161.out 2).trans rfl⟩ (fun hHeld => ?_); refine with_tabW orders_Of.tab7 orders_Of.bits7 (fun HT_ HW_ => ?_)
        generalize w13.drew = w14 at HO_5 BK161 BK163 HB hHeld ⊢
        refine pv_ 0 20 HT_ ?_; refine pv_ 1 21 HT_ ?_; refine pv_ 3 23 HT_ ?_; refine pv_ 6 26 HT_ ?_; refine tk_ 2 22 HT_ HW_ hHeld ?_; refine tk_ 4 24 HT_ HW_ hHeld ?_; refine tk_ 5 25 HT_ HW_ hHeld ?_; refine tk_ 7 27 HT_ HW_ hHeld ?_
        refine on_ 8 28 HT_ (fun K hK => ?_)
        refine goes_ Tryz.func14 (by kernel_rfl) rfl #[.agg #[.string a0_0, .slice A0_1 l0_1.length c0_1, .slice A0_2 l0_2.length c0_2], .int .i64 ((rd_T45 l1 x12_1).f2)] (by rfl) rfl rfl ba6_20 ?_
        with_reducible refine (orders_class.calls a0_0 _ _ l0_1 _ _ l0_2 ((rd_T45 l1 x12_1).f2) t164 _ ?side1 ?side2 ?side3 ?side4 A8.out).mono ?_
        (case side1 => repeat (first | exact (Kd.C_below HR0_1.out HB.out) | (with_reducible refine Kd.C_alloc ?_ _) | (with_reducible refine Kd.C_drewN ?_ _) | (with_reducible refine Kd.C_drew ?_)))
        (case side2 => exact HC0_1.out)
        (case side3 => repeat (first | exact (Kd.C_below HR0_2.out HB.out) | (with_reducible refine Kd.C_alloc ?_ _) | (with_reducible refine Kd.C_drewN ?_ _) | (with_reducible refine Kd.C_drew ?_)))
        (case side4 => exact HC0_2.out)
        rintro e w15 ⟨rfl, hb⟩
        refine ⟨_, rfl, ?_⟩
        replace HO_5 := Aside0.mk (Kd.R_below (by (with_reducible repeat (first | apply Kd.R_alloc | apply Kd.R_drewN | apply Kd.R_drew)); exact HO_5.out) hb)
        replace BK161 := Aside0.mk (bk6_10 (g := gb161) (o := .cells #[.string a0_0, .slice A0_1 l0_1.length c0_1, .slice A0_2 l0_2.length c0_2] 25 (0, 0)) hb)
        replace BK163 := Aside0.mk (bk6_11 (g := gb163) (o := .cells #[.int .i64 ((rd_T45 l1 x12_1).f0), .int .i64 ((rd_T45 l1 x12_1).f1), .int .i64 ((rd_T45 l1 x12_1).f2), .int .i64 ((rd_T45 l1 x12_1).f3)] 45 (0, 0)) hb)
        replace HB := Aside0.mk (bs6_2 hb)
        (try clear hb)
        (try clear hb2)
        (try clear hk)
        (try clear hi)
        refine hK.out _ _ ⟨(blk_cell BK163.out 0).trans rfl, (blk_cell BK163.out 1).trans rfl, (blk_cell BK163.out 2).trans rfl, (blk_cell BK163.out 3).trans rfl, (blk_cell BK161.out 0).trans rfl, (blk_cell BK161.out 1).trans rfl, (blk_cell BK161.out 2).trans rfl⟩ (fun hHeld => ?_)
        clear hK K
        refine nm_ ?_; refine pv_ 9 29 HT_ ?_
        refine on_ 10 30 HT_ (fun K hK => ?_)
        refine value_ (w1 := ?_) (v := ?_) (by rfl) rfl ?_ ?_
        rotate_left 2
        · go_simp
          constructor
          · rfl
          · rfl
        refine hK.out _ _ ⟨(blk_cell (blk_alloc BK163.out _) 0).trans rfl, (blk_cell (blk_alloc BK163.out _) 1).trans rfl, (blk_cell (blk_alloc BK163.out _) 2).trans rfl, (blk_cell (blk_alloc BK163.out _) 3).trans rfl, (blk_cell (blk_alloc BK161.out _) 0).trans rfl, (blk_cell (blk_alloc BK161.out _) 1).trans rfl, (blk_cell (blk_alloc BK161.out _) 2).trans rfl⟩ (fun hHeld => ?_)
        clear hK K
        refine nm_ ?_
        refine on_ 11 31 HT_ (fun K hK => ?_)
        refine Kd.R_append_step k48 (w0 := w) w.heap.size (by rfl) (.tmp 20) (.tmp 30) 27 48 (.agg #[(.int .i64 0), (.int .i64 0), (.int .i64 0), (.int .i64 0), (.int .u64 0)]) 40 rfl Tryz.underlying27 info48 rfl (by decide) (by omega) u5 x5_1 (⟨1, (rd_T45 l1 x12_1).f3, (rd_T45 l1 x12_1).f2, t164, 0⟩ : S48) [.int .i64 1, .int .i64 ((rd_T45 l1 x12_1).f3), .int .i64 ((rd_T45 l1 x12_1).f2), .int .i64 t164, .int .u64 0] (fun _ => True) (fun _ => False) rfl rfl ?aP (fun _ hk => hk.elim) ?aF ?aO ?aB ?aS ?aL ?_
        (case aP => exact k48_mkM _ _ _ (⟨1, (rd_T45 l1 x12_1).f3, (rd_T45 l1 x12_1).f2, t164, 0⟩ : S48))
        (case aB => exact bh6_23)
        (case aF => exact (fun _ _ => trivial))
        (case aO => exact (by (with_reducible repeat (first | apply Kd.R_alloc | apply Kd.R_drewN | apply Kd.R_drew)); exact HO_5.out))
        (case aS => exact bz6_6)
        (case aL => have := LMc9.out; omega)
        intro v166 w16 ho hb hg hat
        rw [← Ny165.out] at ho
        have n0_ := Aside0.mk (blk_grown (g := gb161) (o := .cells #[.string a0_0, .slice A0_1 l0_1.length c0_1, .slice A0_2 l0_2.length c0_2] 25 (0, 0)) bb6_13 hg (Kd.R_ne HO_5.out BK161.out (by decide)))
        have n1_ := Aside0.mk (blk_grown (g := gb163) (o := .cells #[.int .i64 ((rd_T45 l1 x12_1).f0), .int .i64 ((rd_T45 l1 x12_1).f1), .int .i64 ((rd_T45 l1 x12_1).f2), .int .i64 ((rd_T45 l1 x12_1).f3)] 45 (0, 0)) bb6_14 hg (Kd.R_ne HO_5.out BK163.out (by decide)))
        have n2_ := Aside0.mk (hb)
        have n3_ := Aside0.mk (ho)
        clear BK161
        clear BK163
        clear HB
        clear HO_5
        have BK161 := n0_
        have BK163 := n1_
        have HB := n2_
        have HO167 := n3_
        clear n0_ n1_ n2_ n3_
        clear ho hb hg hat
        refine hK.out _ _ ⟨(blk_cell BK163.out 0).trans rfl, (blk_cell BK163.out 1).trans rfl, (blk_cell BK163.out 2).trans rfl, (blk_cell BK163.out 3).trans rfl, (blk_cell BK161.out 0).trans rfl, (blk_cell BK161.out 1).trans rfl, (blk_cell BK161.out 2).trans rfl⟩ (fun hHeld => ?_)
        clear hK K
        refine nm_ ?_; refine pv_ 12 5 HT_ ?_; refine dn_ HT_ ?_
        try go_wp2
        go_roundg k1
        case measure => have := HK1.out; omega
        case rel => exact ⟨(y165), (wrap64 (x12_1 + 1)), bd6_22, H', ⟨by have := HK1.out; omega⟩, ⟨by (with_reducible repeat (first | apply Kd.R_alloc | apply Kd.R_drewN | apply Kd.R_drew)); exact HO167.out⟩, ⟨by (with_reducible repeat (first | refine blk_drewN ?_ _ | refine blk_drew ?_ | refine blk_alloc ?_ _)); exact BK161.out⟩, ⟨by repeat (first | (with_reducible first | exact HB.out | apply below_alloc | apply pw_below_drewN | apply below_drew1 | refine below_set ?_ GE161.out | refine below_set ?_ GE163.out) | exact HB.out)⟩⟩
      rw [if_neg c7] at H
      have c7b0 := beq_eq_false_iff_ne.mpr c7
      have c7b1 := bne_iff_ne.mpr c7
      by_cases c17 : ((rd_T45 l1 x12_1).f0) = 3
      rotate_left
      · rw [if_neg c17] at H
        have c17b0 := beq_eq_false_iff_ne.mpr c17
        have c17b1 := bne_iff_ne.mpr c17
        by_cases c31 : ((rd_T45 l1 x12_1).f0) = 4
        rotate_left
        · rw [if_neg c31] at H
          have c31b0 := beq_eq_false_iff_ne.mpr c31
          have c31b1 := bne_iff_ne.mpr c31
          have H' := Aside0.mk H
          clear H
          have p162 : 0 ≤ (x12_1 : Int) := of_decide_eq_true bb6_21
          have q162 : x12_1 < (l1.length : Int) := of_decide_eq_true bb6_21
          obtain ⟨ad162, e162, hx162_0, hx162_1, hx162_2, hx162_3⟩ := at_T45 HR1.out x12_1 p162 q162
          cases e162
          replace hx162_0 := (HB.out.cell (World.block_lt_of_cell? w _ hx162_0)).trans hx162_0
          replace hx162_1 := (HB.out.cell (World.block_lt_of_cell? w _ hx162_1)).trans hx162_1
          replace hx162_2 := (HB.out.cell (World.block_lt_of_cell? w _ hx162_2)).trans hx162_2
          replace hx162_3 := (HB.out.cell (World.block_lt_of_cell? w _ hx162_3)).trans hx162_3
          replace p162 := eq_true p162
          replace q162 := eq_true q162
          go_wp2_with (first | ((with_reducible refine gate_dst (N := 7) rfl ?_); refine box_event ?hg (N := 7) ?hd (cs := #[.int .i64 0, .int .i64 0, .int .i64 0, .int .i64 0]) (t := 45) ?hr ?_; (case hd => rfl); (case hg => rfl); (case hr => first | (go_simp; done) | (go_simp; rfl)); intro gb163 hg w37 hbox hb; replace HO_5 := Aside0.mk (Kd.R_below (by (with_reducible repeat (first | apply Kd.R_alloc | apply Kd.R_drewN | apply Kd.R_drew)); exact HO_5.out) hb); have BK163 := Aside0.mk (hbox); have GW163 := Aside0.mk ((by rw [hg]; exact bz6_5 : w.heap.size ≤ gb163)); have GE163 := Aside0.mk ((by rw [hg]; exact bz6_5 : w.heap.size ≤ gb163)); replace HB := Aside0.mk (bs6_1 hb); have NB161_163 := Aside0.mk ((by rw [hg]; exact Nat.ne_of_lt (blk_lt (g := gb161) (o := .cells #[.string a0_0, .slice A0_1 l0_1.length c0_1, .slice A0_2 l0_2.length c0_2] 25 (0, 0)) bb6_13) : gb161 ≠ gb163)); have NB163_161 := Aside0.mk ((by rw [hg]; exact Nat.ne_of_gt (blk_lt (g := gb161) (o := .cells #[.string a0_0, .slice A0_1 l0_1.length c0_1, .slice A0_2 l0_2.length c0_2] 25 (0, 0)) bb6_13) : gb163 ≠ gb161)); replace BK161 := Aside0.mk (bk6_10 (g := gb161) (o := .cells #[.string a0_0, .slice A0_1 l0_1.length c0_1, .slice A0_2 l0_2.length c0_2] 25 (0, 0)) hb); clear hb hbox hg; have hnb38 := NB163_161.out; have hnc38 := NB161_163.out; have hcz39_0 : w37.cell? ⟨gb163, 0, none⟩ = some (.int .i64 0) := (blk_cell BK163.out 0).trans rfl; have hcz39_1 : w37.cell? ⟨gb163, 1, none⟩ = some (.int .i64 0) := (blk_cell BK163.out 1).trans rfl; have hcz39_2 : w37.cell? ⟨gb163, 2, none⟩ = some (.int .i64 0) := (blk_cell BK163.out 2).trans rfl; have hcz39_3 : w37.cell? ⟨gb163, 3, none⟩ = some (.int .i64 0) := (blk_cell BK163.out 3).trans rfl; have hfz39_0 := blk_frozen BK163.out 0; have hfz39_1 := blk_frozen BK163.out 1; have hfz39_2 := blk_frozen BK163.out 2; have hfz39_3 := blk_frozen BK163.out 3))
          go_roundg k1
          case measure => have := HK1.out; omega
          case rel => exact ⟨(x5_1), (wrap64 (x12_1 + 1)), bd6_22, H', ⟨by have := HK1.out; omega⟩, ⟨by (with_reducible repeat (first | apply Kd.R_alloc | apply Kd.R_drewN | apply Kd.R_drew)); exact Kd.R_mono (Kd.R_far (p := ⟨gb163, 3, none⟩) (Kd.R_far (p := ⟨gb163, 2, none⟩) (Kd.R_far (p := ⟨gb163, 1, none⟩) (Kd.R_far (p := ⟨gb163, 0, none⟩) (Kd.R_types HO_5.out BK163.out (by decide)) (fun _ hk => hk.2) (.int .i64 ((rd_T45 l1 x12_1).f0))) (fun _ hk => hk.2) (.int .i64 ((rd_T45 l1 x12_1).f1))) (fun _ hk => hk.2) (.int .i64 ((rd_T45 l1 x12_1).f2))) (fun _ hk => hk.2) (.int .i64 ((rd_T45 l1 x12_1).f3))) (fun _ hk => trivial)⟩, ⟨by (with_reducible repeat (first | refine blk_drewN ?_ _ | refine blk_drew ?_ | refine blk_alloc ?_ _)); refine blk_far ?_ NB161_163.out _; (with_reducible repeat (first | refine blk_drewN ?_ _ | refine blk_drew ?_ | refine blk_alloc ?_ _)); refine blk_far ?_ NB161_163.out _; (with_reducible repeat (first | refine blk_drewN ?_ _ | refine blk_drew ?_ | refine blk_alloc ?_ _)); refine blk_far ?_ NB161_163.out _; (with_reducible repeat (first | refine blk_drewN ?_ _ | refine blk_drew ?_ | refine blk_alloc ?_ _)); refine blk_far ?_ NB161_163.out _; (with_reducible repeat (first | refine blk_drewN ?_ _ | refine blk_drew ?_ | refine blk_alloc ?_ _)); exact BK161.out⟩, ⟨by repeat (first | (with_reducible first | exact HB.out | apply below_alloc | apply pw_below_drewN | apply below_drew1 | refine below_set ?_ GE161.out | refine below_set ?_ GE163.out) | exact HB.out)⟩⟩
        rw [if_pos c31] at H
        have c31b0 := beq_iff_eq.mpr c31
        have c31b1 := bne_eq_false_iff_eq.mpr c31
        clear c31
        obtain ⟨LMc32, H⟩ := itL H
        obtain ⟨y175, hy175⟩ : ∃ y_ : List (S48), y_ = (x5_1 ++ [(⟨3, (rd_T45 l1 x12_1).f3, 0, 0, 0⟩ : S48)]) := ⟨_, rfl⟩
        replace H : (orders_Of.l0 k1 y175 l1 (l1.length : Int) (wrap64 (x12_1 + 1)) a0_0 l0_1 l0_2) = some r := by first | (rw [hy175]; with_reducible exact H) | (have H2_ := (Option.bind_some _ _).symm.trans H; rw [hy175]; with_reducible exact H2_) | (have H2_ := (Option.bind_some _ _).symm.trans H; with_reducible exact H2_) | with_reducible exact H | (rw [hy175]; exact H) | exact H
        have Ny175 := Aside0.mk hy175
        clear hy175
        have H' := Aside0.mk H
        clear H
        have p162 : 0 ≤ (x12_1 : Int) := of_decide_eq_true bb6_21
        have q162 : x12_1 < (l1.length : Int) := of_decide_eq_true bb6_21
        obtain ⟨ad162, e162, hx162_0, hx162_1, hx162_2, hx162_3⟩ := at_T45 HR1.out x12_1 p162 q162
        cases e162
        replace hx162_0 := (HB.out.cell (World.block_lt_of_cell? w _ hx162_0)).trans hx162_0
        replace hx162_1 := (HB.out.cell (World.block_lt_of_cell? w _ hx162_1)).trans hx162_1
        replace hx162_2 := (HB.out.cell (World.block_lt_of_cell? w _ hx162_2)).trans hx162_2
        replace hx162_3 := (HB.out.cell (World.block_lt_of_cell? w _ hx162_3)).trans hx162_3
        replace p162 := eq_true p162
        replace q162 := eq_true q162
        go_wp2_with (first | ((with_reducible refine gate_dst (N := 7) rfl ?_); refine box_event ?hg (N := 7) ?hd (cs := #[.int .i64 0, .int .i64 0, .int .i64 0, .int .i64 0]) (t := 45) ?hr ?_; (case hd => rfl); (case hg => rfl); (case hr => first | (go_simp; done) | (go_simp; rfl)); intro gb163 hg w33 hbox hb; replace HO_5 := Aside0.mk (Kd.R_below (by (with_reducible repeat (first | apply Kd.R_alloc | apply Kd.R_drewN | apply Kd.R_drew)); exact HO_5.out) hb); have BK163 := Aside0.mk (hbox); have GW163 := Aside0.mk ((by rw [hg]; exact bz6_5 : w.heap.size ≤ gb163)); have GE163 := Aside0.mk ((by rw [hg]; exact bz6_5 : w.heap.size ≤ gb163)); replace HB := Aside0.mk (bs6_1 hb); have NB161_163 := Aside0.mk ((by rw [hg]; exact Nat.ne_of_lt (blk_lt (g := gb161) (o := .cells #[.string a0_0, .slice A0_1 l0_1.length c0_1, .slice A0_2 l0_2.length c0_2] 25 (0, 0)) bb6_13) : gb161 ≠ gb163)); have NB163_161 := Aside0.mk ((by rw [hg]; exact Nat.ne_of_gt (blk_lt (g := gb161) (o := .cells #[.string a0_0, .slice A0_1 l0_1.length c0_1, .slice A0_2 l0_2.length c0_2] 25 (0, 0)) bb6_13) : gb163 ≠ gb161)); replace BK161 := Aside0.mk (bk6_10 (g := gb161) (o := .cells #[.string a0_0, .slice A0_1 l0_1.length c0_1, .slice A0_2 l0_2.length c0_2] 25 (0, 0)) hb); clear hb hbox hg; have hnb34 := NB163_161.out; have hnc34 := NB161_163.out; have hcz35_0 : w33.cell? ⟨gb163, 0, none⟩ = some (.int .i64 0) := (blk_cell BK163.out 0).trans rfl; have hcz35_1 : w33.cell? ⟨gb163, 1, none⟩ = some (.int .i64 0) := (blk_cell BK163.out 1).trans rfl; have hcz35_2 : w33.cell? ⟨gb163, 2, none⟩ = some (.int .i64 0) := (blk_cell BK163.out 2).trans rfl; have hcz35_3 : w33.cell? ⟨gb163, 3, none⟩ = some (.int .i64 0) := (blk_cell BK163.out 3).trans rfl; have hfz35_0 := blk_frozen BK163.out 0; have hfz35_1 := blk_frozen BK163.out 1; have hfz35_2 := blk_frozen BK163.out 2; have hfz35_3 := blk_frozen BK163.out 3) | ((with_reducible refine gate_builtin (b := .append) (xs := #[.tmp 53, .tmp 57]) rfl ?_); at_builtin; refine Kd.R_append k48 (w0 := w) w.heap.size rfl (.tmp 53) (.tmp 57) 27 48 (.agg #[(.int .i64 0), (.int .i64 0), (.int .i64 0), (.int .i64 0), (.int .u64 0)]) 40 rfl Tryz.underlying27 info48 rfl (by decide) (by omega) u5 x5_1 (⟨3, (rd_T45 l1 x12_1).f3, 0, 0, 0⟩ : S48) [.int .i64 3, .int .i64 ((rd_T45 l1 x12_1).f3), .int .i64 0, .int .i64 0, .int .u64 0] (fun _ => True) (fun _ => False) rfl (by first | (go_simp; done) | (go_simp; rfl)) ?aP (fun _ hk => hk.elim) ?aF ?aO ?aB ?aS ?aL ?_; (case aP => exact k48_mkM _ _ _ (⟨3, (rd_T45 l1 x12_1).f3, 0, 0, 0⟩ : S48)); (case aB => exact bh6_23); (case aF => exact (fun _ _ => trivial)); (case aO => exact (by (with_reducible repeat (first | apply Kd.R_alloc | apply Kd.R_drewN | apply Kd.R_drew)); exact Kd.R_mono (Kd.R_far (p := ⟨gb163, 3, none⟩) (Kd.R_far (p := ⟨gb163, 2, none⟩) (Kd.R_far (p := ⟨gb163, 1, none⟩) (Kd.R_far (p := ⟨gb163, 0, none⟩) (Kd.R_types HO_5.out BK163.out (by decide)) (fun _ hk => hk.2) (.int .i64 ((rd_T45 l1 x12_1).f0))) (fun _ hk => hk.2) (.int .i64 ((rd_T45 l1 x12_1).f1))) (fun _ hk => hk.2) (.int .i64 ((rd_T45 l1 x12_1).f2))) (fun _ hk => hk.2) (.int .i64 ((rd_T45 l1 x12_1).f3))) (fun _ hk => trivial))); (case aS => exact bz6_6); (case aL => have := LMc32.out; omega); intro v176 w36 ho hb hg hat; rw [← Ny175.out] at ho; have n0_ := Aside0.mk (blk_grown (g := gb161) (o := .cells #[.string a0_0, .slice A0_1 l0_1.length c0_1, .slice A0_2 l0_2.length c0_2] 25 (0, 0)) (by (with_reducible repeat (first | refine blk_drewN ?_ _ | refine blk_drew ?_ | refine blk_alloc ?_ _)); refine blk_far ?_ NB161_163.out _; (with_reducible repeat (first | refine blk_drewN ?_ _ | refine blk_drew ?_ | refine blk_alloc ?_ _)); refine blk_far ?_ NB161_163.out _; (with_reducible repeat (first | refine blk_drewN ?_ _ | refine blk_drew ?_ | refine blk_alloc ?_ _)); refine blk_far ?_ NB161_163.out _; (with_reducible repeat (first | refine blk_drewN ?_ _ | refine blk_drew ?_ | refine blk_alloc ?_ _)); refine blk_far ?_ NB161_163.out _; (with_reducible repeat (first | refine blk_drewN ?_ _ | refine blk_drew ?_ | refine blk_alloc ?_ _)); exact BK161.out) hg (Kd.R_ne HO_5.out BK161.out (by decide))); have n1_ := Aside0.mk (blk_grown (g := gb163) (o := .cells #[.int .i64 ((rd_T45 l1 x12_1).f0), .int .i64 ((rd_T45 l1 x12_1).f1), .int .i64 ((rd_T45 l1 x12_1).f2), .int .i64 ((rd_T45 l1 x12_1).f3)] 45 (0, 0)) (by (with_reducible repeat (first | refine blk_drewN ?_ _ | refine blk_drew ?_ | refine blk_alloc ?_ _)); refine blk_put (cs := #[.int .i64 ((rd_T45 l1 x12_1).f0), .int .i64 ((rd_T45 l1 x12_1).f1), .int .i64 ((rd_T45 l1 x12_1).f2), .int .i64 0]) ?_ 3 _ rfl; (with_reducible repeat (first | refine blk_drewN ?_ _ | refine blk_drew ?_ | refine blk_alloc ?_ _)); refine blk_put (cs := #[.int .i64 ((rd_T45 l1 x12_1).f0), .int .i64 ((rd_T45 l1 x12_1).f1), .int .i64 0, .int .i64 0]) ?_ 2 _ rfl; (with_reducible repeat (first | refine blk_drewN ?_ _ | refine blk_drew ?_ | refine blk_alloc ?_ _)); refine blk_put (cs := #[.int .i64 ((rd_T45 l1 x12_1).f0), .int .i64 0, .int .i64 0, .int .i64 0]) ?_ 1 _ rfl; (with_reducible repeat (first | refine blk_drewN ?_ _ | refine blk_drew ?_ | refine blk_alloc ?_ _)); refine blk_put (cs := #[.int .i64 0, .int .i64 0, .int .i64 0, .int .i64 0]) ?_ 0 _ rfl; (with_reducible repeat (first | refine blk_drewN ?_ _ | refine blk_drew ?_ | refine blk_alloc ?_ _)); exact BK163.out) hg (Kd.R_ne HO_5.out BK163.out (by decide))); have n2_ := Aside0.mk (hb); have n3_ := Aside0.mk (ho); clear BK161; clear BK163; clear HB; clear HO_5; have BK161 := n0_; have BK163 := n1_; have HB := n2_; have HO177 := n3_; clear n0_ n1_ n2_ n3_; clear ho hb hg hat))
        go_roundg k1
        case measure => have := HK1.out; omega
        case rel => exact ⟨(y175), (wrap64 (x12_1 + 1)), bd6_22, H', ⟨by have := HK1.out; omega⟩, ⟨by (with_reducible repeat (first | apply Kd.R_alloc | apply Kd.R_drewN | apply Kd.R_drew)); exact HO177.out⟩, ⟨by (with_reducible repeat (first | refine blk_drewN ?_ _ | refine blk_drew ?_ | refine blk_alloc ?_ _)); exact BK161.out⟩, ⟨by repeat (first | (with_reducible first | exact HB.out | apply below_alloc | apply pw_below_drewN | apply below_drew1 | refine below_set ?_ GE161.out | refine below_set ?_ GE163.out) | exact HB.out)⟩⟩
      rw [if_pos c17] at H
      have c17b0 := beq_iff_eq.mpr c17
      have c17b1 := bne_eq_false_iff_eq.mpr c17
      clear c17
      obtain ⟨⟨t168, t169, t170⟩, A18, H⟩ := bdA H
      dsimp only at H
      obtain ⟨LMc19, H⟩ := itL H
      obtain ⟨y172, hy172⟩ : ∃ y_ : List (S48), y_ = (x5_1 ++ [(⟨2, (rd_T45 l1 x12_1).f3, (rd_T45 l1 x12_1).f2, 0, t169⟩ : S48)]) := ⟨_, rfl⟩
      replace H : (orders_Of.l0 k1 y172 l1 (l1.length : Int) (wrap64 (x12_1 + 1)) a0_0 l0_1 l0_2) = some r := by first | (rw [hy172]; with_reducible exact H) | (have H2_ := (Option.bind_some _ _).symm.trans H; rw [hy172]; with_reducible exact H2_) | (have H2_ := (Option.bind_some _ _).symm.trans H; with_reducible exact H2_) | with_reducible exact H | (rw [hy172]; exact H) | exact H
      have Ny172 := Aside0.mk hy172
      clear hy172
      have H' := Aside0.mk H
      clear H
      have p162 : 0 ≤ (x12_1 : Int) := of_decide_eq_true bb6_21
      have q162 : x12_1 < (l1.length : Int) := of_decide_eq_true bb6_21
      obtain ⟨ad162, e162, hx162_0, hx162_1, hx162_2, hx162_3⟩ := at_T45 HR1.out x12_1 p162 q162
      cases e162
      replace hx162_0 := (HB.out.cell (World.block_lt_of_cell? w _ hx162_0)).trans hx162_0
      replace hx162_1 := (HB.out.cell (World.block_lt_of_cell? w _ hx162_1)).trans hx162_1
      replace hx162_2 := (HB.out.cell (World.block_lt_of_cell? w _ hx162_2)).trans hx162_2
      replace hx162_3 := (HB.out.cell (World.block_lt_of_cell? w _ hx162_3)).trans hx162_3
      replace p162 := eq_true p162
      replace q162 := eq_true q162
      go_wp2_with (first | ((with_reducible refine gate_dst (N := 7) rfl ?_); refine box_event ?hg (N := 7) ?hd (cs := #[.int .i64 0, .int .i64 0, .int .i64 0, .int .i64 0]) (t := 45) ?hr ?_; (case hd => rfl); (case hg => rfl); (case hr => first | (go_simp; done) | (go_simp; rfl)); intro gb163 hg w20 hbox hb; replace HO_5 := Aside0.mk (Kd.R_below (by (with_reducible repeat (first | apply Kd.R_alloc | apply Kd.R_drewN | apply Kd.R_drew)); exact HO_5.out) hb); have BK163 := Aside0.mk (hbox); have GW163 := Aside0.mk ((by rw [hg]; exact bz6_5 : w.heap.size ≤ gb163)); have GE163 := Aside0.mk ((by rw [hg]; exact bz6_5 : w.heap.size ≤ gb163)); replace HB := Aside0.mk (bs6_1 hb); have NB161_163 := Aside0.mk ((by rw [hg]; exact Nat.ne_of_lt (blk_lt (g := gb161) (o := .cells #[.string a0_0, .slice A0_1 l0_1.length c0_1, .slice A0_2 l0_2.length c0_2] 25 (0, 0)) bb6_13) : gb161 ≠ gb163)); have NB163_161 := Aside0.mk ((by rw [hg]; exact Nat.ne_of_gt (blk_lt (g := gb161) (o := .cells #[.string a0_0, .slice A0_1 l0_1.length c0_1, .slice A0_2 l0_2.length c0_2] 25 (0, 0)) bb6_13) : gb163 ≠ gb161)); replace BK161 := Aside0.mk (bk6_10 (g := gb161) (o := .cells #[.string a0_0, .slice A0_1 l0_1.length c0_1, .slice A0_2 l0_2.length c0_2] 25 (0, 0)) hb); clear hb hbox hg; have hnb21 := NB163_161.out; have hnc21 := NB161_163.out; have hcz22_0 : w20.cell? ⟨gb163, 0, none⟩ = some (.int .i64 0) := (blk_cell BK163.out 0).trans rfl; have hcz22_1 : w20.cell? ⟨gb163, 1, none⟩ = some (.int .i64 0) := (blk_cell BK163.out 1).trans rfl; have hcz22_2 : w20.cell? ⟨gb163, 2, none⟩ = some (.int .i64 0) := (blk_cell BK163.out 2).trans rfl; have hcz22_3 : w20.cell? ⟨gb163, 3, none⟩ = some (.int .i64 0) := (blk_cell BK163.out 3).trans rfl; have hfz22_0 := blk_frozen BK163.out 0; have hfz22_1 := blk_frozen BK163.out 1; have hfz22_2 := blk_frozen BK163.out 2; have hfz22_3 := blk_frozen BK163.out 3; have hcz23_0 : w20.cell? ⟨gb161, 0, none⟩ = some (.string a0_0) := (blk_cell BK161.out 0).trans rfl; have hcz23_1 : w20.cell? ⟨gb161, 1, none⟩ = some (.slice A0_1 l0_1.length c0_1) := (blk_cell BK161.out 1).trans rfl; have hcz23_2 : w20.cell? ⟨gb161, 2, none⟩ = some (.slice A0_2 l0_2.length c0_2) := (blk_cell BK161.out 2).trans rfl; have hfz23_0 := blk_frozen BK161.out 0; have hfz23_1 := blk_frozen BK161.out 1; have hfz23_2 := blk_frozen BK161.out 2) | ((with_reducible refine gate_callee (f := 15) rfl ?_); refine goesL_ (some 38) rfl rfl Tryz.func15 (by kernel_rfl) rfl #[.agg #[.string a0_0, .slice A0_1 l0_1.length c0_1, .slice A0_2 l0_2.length c0_2], .int .i64 ((rd_T45 l1 x12_1).f2)] rfl ba6_20 ?_; (with_reducible refine (graph_Time.calls k1 a0_0 _ _ l0_1 _ _ l0_2 ((rd_T45 l1 x12_1).f2) t168 t169 t170 _ ?side1 ?side2 ?side3 ?side4 A18.out).mono ?_); (case side1 => exact Kd.C_below HR0_1.out bh6_23); (case side2 => exact HC0_1.out); (case side3 => exact Kd.C_below HR0_2.out bh6_23); (case side4 => exact HC0_2.out); rintro e w24 ⟨rfl, hb⟩; refine ⟨_, rfl, ?_⟩; replace HO_5 := Aside0.mk (Kd.R_below (by (with_reducible repeat (first | apply Kd.R_alloc | apply Kd.R_drewN | apply Kd.R_drew)); exact (Kd.R_mono (Kd.R_far (p := ⟨gb163, 3, none⟩) (Kd.R_far (p := ⟨gb163, 2, none⟩) (Kd.R_far (p := ⟨gb163, 1, none⟩) (Kd.R_far (p := ⟨gb163, 0, none⟩) (Kd.R_types HO_5.out BK163.out (by decide)) (fun _ hk => hk.2) (.int .i64 ((rd_T45 l1 x12_1).f0))) (fun _ hk => hk.2) (.int .i64 ((rd_T45 l1 x12_1).f1))) (fun _ hk => hk.2) (.int .i64 ((rd_T45 l1 x12_1).f2))) (fun _ hk => hk.2) (.int .i64 ((rd_T45 l1 x12_1).f3))) (fun _ h_ => h_.1))) hb); replace BK161 := Aside0.mk (blk_below (g := gb161) (o := .cells #[.string a0_0, .slice A0_1 l0_1.length c0_1, .slice A0_2 l0_2.length c0_2] 25 (0, 0)) (by (with_reducible repeat (first | refine blk_drewN ?_ _ | refine blk_drew ?_ | refine blk_alloc ?_ _)); refine blk_far ?_ NB161_163.out _; (with_reducible repeat (first | refine blk_drewN ?_ _ | refine blk_drew ?_ | refine blk_alloc ?_ _)); refine blk_far ?_ NB161_163.out _; (with_reducible repeat (first | refine blk_drewN ?_ _ | refine blk_drew ?_ | refine blk_alloc ?_ _)); refine blk_far ?_ NB161_163.out _; (with_reducible repeat (first | refine blk_drewN ?_ _ | refine blk_drew ?_ | refine blk_alloc ?_ _)); refine blk_far ?_ NB161_163.out _; (with_reducible repeat (first | refine blk_drewN ?_ _ | refine blk_drew ?_ | refine blk_alloc ?_ _)); exact BK161.out) hb); replace BK163 := Aside0.mk (blk_below (g := gb163) (o := .cells #[.int .i64 ((rd_T45 l1 x12_1).f0), .int .i64 ((rd_T45 l1 x12_1).f1), .int .i64 ((rd_T45 l1 x12_1).f2), .int .i64 ((rd_T45 l1 x12_1).f3)] 45 (0, 0)) (by (with_reducible repeat (first | refine blk_drewN ?_ _ | refine blk_drew ?_ | refine blk_alloc ?_ _)); refine blk_put (cs := #[.int .i64 ((rd_T45 l1 x12_1).f0), .int .i64 ((rd_T45 l1 x12_1).f1), .int .i64 ((rd_T45 l1 x12_1).f2), .int .i64 0]) ?_ 3 _ rfl; (with_reducible repeat (first | refine blk_drewN ?_ _ | refine blk_drew ?_ | refine blk_alloc ?_ _)); refine blk_put (cs := #[.int .i64 ((rd_T45 l1 x12_1).f0), .int .i64 ((rd_T45 l1 x12_1).f1), .int .i64 0, .int .i64 0]) ?_ 2 _ rfl; (with_reducible repeat (first | refine blk_drewN ?_ _ | refine blk_drew ?_ | refine blk_alloc ?_ _)); refine blk_put (cs := #[.int .i64 ((rd_T45 l1 x12_1).f0), .int .i64 0, .int .i64 0, .int .i64 0]) ?_ 1 _ rfl; (with_reducible repeat (first | refine blk_drewN ?_ _ | refine blk_drew ?_ | refine blk_alloc ?_ _)); refine blk_put (cs := #[.int .i64 0, .int .i64 0, .int .i64 0, .int .i64 0]) ?_ 0 _ rfl; (with_reducible repeat (first | refine blk_drewN ?_ _ | refine blk_drew ?_ | refine blk_alloc ?_ _)); exact BK163.out) hb); replace HB := Aside0.mk (bs6_2 hb); (try clear hb); (try clear hb2); (try clear hk); (try clear hi)) | ((with_reducible refine gate_dst (N := 8) rfl ?_); refine box_event ?hg (N := 8) ?hd (cs := #[.int .i64 0, .int .u64 0]) (t := 51) ?hr ?_; (case hd => rfl); (case hg => rfl); (case hr => first | (go_simp; done) | (go_simp; rfl)); intro gb171 hg w25 hbox hb; replace HO_5 := Aside0.mk (Kd.R_below (by (with_reducible repeat (first | apply Kd.R_alloc | apply Kd.R_drewN | apply Kd.R_drew)); exact HO_5.out) hb); have BK171 := Aside0.mk (hbox); have GW171 := Aside0.mk ((by rw [hg]; exact bz6_6 : w.heap.size ≤ gb171)); have GE171 := Aside0.mk ((by rw [hg]; exact bz6_6 : w.heap.size ≤ gb171)); replace HB := Aside0.mk (bs6_2 hb); have NB161_171 := Aside0.mk ((by rw [hg]; exact Nat.ne_of_lt (blk_lt (g := gb161) (o := .cells #[.string a0_0, .slice A0_1 l0_1.length c0_1, .slice A0_2 l0_2.length c0_2] 25 (0, 0)) bb6_13) : gb161 ≠ gb171)); have NB171_161 := Aside0.mk ((by rw [hg]; exact Nat.ne_of_gt (blk_lt (g := gb161) (o := .cells #[.string a0_0, .slice A0_1 l0_1.length c0_1, .slice A0_2 l0_2.length c0_2] 25 (0, 0)) bb6_13) : gb171 ≠ gb161)); replace BK161 := Aside0.mk (bk6_10 (g := gb161) (o := .cells #[.string a0_0, .slice A0_1 l0_1.length c0_1, .slice A0_2 l0_2.length c0_2] 25 (0, 0)) hb); have NB163_171 := Aside0.mk ((by rw [hg]; exact Nat.ne_of_lt (blk_lt (g := gb163) (o := .cells #[.int .i64 ((rd_T45 l1 x12_1).f0), .int .i64 ((rd_T45 l1 x12_1).f1), .int .i64 ((rd_T45 l1 x12_1).f2), .int .i64 ((rd_T45 l1 x12_1).f3)] 45 (0, 0)) bb6_14) : gb163 ≠ gb171)); have NB171_163 := Aside0.mk ((by rw [hg]; exact Nat.ne_of_gt (blk_lt (g := gb163) (o := .cells #[.int .i64 ((rd_T45 l1 x12_1).f0), .int .i64 ((rd_T45 l1 x12_1).f1), .int .i64 ((rd_T45 l1 x12_1).f2), .int .i64 ((rd_T45 l1 x12_1).f3)] 45 (0, 0)) bb6_14) : gb171 ≠ gb163)); replace BK163 := Aside0.mk (bk6_11 (g := gb163) (o := .cells #[.int .i64 ((rd_T45 l1 x12_1).f0), .int .i64 ((rd_T45 l1 x12_1).f1), .int .i64 ((rd_T45 l1 x12_1).f2), .int .i64 ((rd_T45 l1 x12_1).f3)] 45 (0, 0)) hb); clear hb hbox hg; have hnb26 := NB171_161.out; have hnc26 := NB161_171.out; have hnb27 := NB171_163.out; have hnc27 := NB163_171.out; have hcz28_0 : w25.cell? ⟨gb171, 0, none⟩ = some (.int .i64 0) := (blk_cell BK171.out 0).trans rfl; have hcz28_1 : w25.cell? ⟨gb171, 1, none⟩ = some (.int .u64 0) := (blk_cell BK171.out 1).trans rfl; have hfz28_0 := blk_frozen BK171.out 0; have hfz28_1 := blk_frozen BK171.out 1; have hcz29_0 : w25.cell? ⟨gb163, 0, none⟩ = some (.int .i64 ((rd_T45 l1 x12_1).f0)) := (blk_cell BK163.out 0).trans rfl; have hcz29_1 : w25.cell? ⟨gb163, 1, none⟩ = some (.int .i64 ((rd_T45 l1 x12_1).f1)) := (blk_cell BK163.out 1).trans rfl; have hcz29_2 : w25.cell? ⟨gb163, 2, none⟩ = some (.int .i64 ((rd_T45 l1 x12_1).f2)) := (blk_cell BK163.out 2).trans rfl; have hcz29_3 : w25.cell? ⟨gb163, 3, none⟩ = some (.int .i64 ((rd_T45 l1 x12_1).f3)) := (blk_cell BK163.out 3).trans rfl; have hfz29_0 := blk_frozen BK163.out 0; have hfz29_1 := blk_frozen BK163.out 1; have hfz29_2 := blk_frozen BK163.out 2; have hfz29_3 := blk_frozen BK163.out 3) | ((with_reducible refine gate_builtin (b := .append) (xs := #[.tmp 41, .tmp 49]) rfl ?_); at_builtin; refine Kd.R_append k48 (w0 := w) w.heap.size rfl (.tmp 41) (.tmp 49) 27 48 (.agg #[(.int .i64 0), (.int .i64 0), (.int .i64 0), (.int .i64 0), (.int .u64 0)]) 40 rfl Tryz.underlying27 info48 rfl (by decide) (by omega) u5 x5_1 (⟨2, (rd_T45 l1 x12_1).f3, (rd_T45 l1 x12_1).f2, 0, t169⟩ : S48) [.int .i64 2, .int .i64 ((rd_T45 l1 x12_1).f3), .int .i64 ((rd_T45 l1 x12_1).f2), .int .i64 0, .int .u64 t169] (fun _ => True) (fun _ => False) rfl (by first | (go_simp; done) | (go_simp; rfl)) ?aP (fun _ hk => hk.elim) ?aF ?aO ?aB ?aS ?aL ?_; (case aP => exact k48_mkM _ _ _ (⟨2, (rd_T45 l1 x12_1).f3, (rd_T45 l1 x12_1).f2, 0, t169⟩ : S48)); (case aB => exact bh6_24); (case aF => exact (fun _ _ => trivial)); (case aO => exact (by (with_reducible repeat (first | apply Kd.R_alloc | apply Kd.R_drewN | apply Kd.R_drew)); exact Kd.R_mono (Kd.R_far (p := ⟨gb171, 1, none⟩) (Kd.R_far (p := ⟨gb171, 0, none⟩) (Kd.R_types HO_5.out BK171.out (by decide)) (fun _ hk => hk.2) (.int .i64 t168)) (fun _ hk => hk.2) (.int .u64 t169)) (fun _ hk => trivial))); (case aS => exact bz6_7); (case aL => have := LMc19.out; omega); intro v173 w30 ho hb hg hat; rw [← Ny172.out] at ho; have n0_ := Aside0.mk (blk_grown (g := gb161) (o := .cells #[.string a0_0, .slice A0_1 l0_1.length c0_1, .slice A0_2 l0_2.length c0_2] 25 (0, 0)) (by (with_reducible repeat (first | refine blk_drewN ?_ _ | refine blk_drew ?_ | refine blk_alloc ?_ _)); refine blk_far ?_ NB161_171.out _; (with_reducible repeat (first | refine blk_drewN ?_ _ | refine blk_drew ?_ | refine blk_alloc ?_ _)); refine blk_far ?_ NB161_171.out _; (with_reducible repeat (first | refine blk_drewN ?_ _ | refine blk_drew ?_ | refine blk_alloc ?_ _)); exact BK161.out) hg (Kd.R_ne HO_5.out BK161.out (by decide))); have n1_ := Aside0.mk (blk_grown (g := gb163) (o := .cells #[.int .i64 ((rd_T45 l1 x12_1).f0), .int .i64 ((rd_T45 l1 x12_1).f1), .int .i64 ((rd_T45 l1 x12_1).f2), .int .i64 ((rd_T45 l1 x12_1).f3)] 45 (0, 0)) (by (with_reducible repeat (first | refine blk_drewN ?_ _ | refine blk_drew ?_ | refine blk_alloc ?_ _)); refine blk_far ?_ NB163_171.out _; (with_reducible repeat (first | refine blk_drewN ?_ _ | refine blk_drew ?_ | refine blk_alloc ?_ _)); refine blk_far ?_ NB163_171.out _; (with_reducible repeat (first | refine blk_drewN ?_ _ | refine blk_drew ?_ | refine blk_alloc ?_ _)); exact BK163.out) hg (Kd.R_ne HO_5.out BK163.out (by decide))); have n2_ := Aside0.mk (blk_grown (g := gb171) (o := .cells #[.int .i64 t168, .int .u64 t169] 51 (0, 0)) (by (with_reducible repeat (first | refine blk_drewN ?_ _ | refine blk_drew ?_ | refine blk_alloc ?_ _)); refine blk_put (cs := #[.int .i64 t168, .int .u64 0]) ?_ 1 _ rfl; (with_reducible repeat (first | refine blk_drewN ?_ _ | refine blk_drew ?_ | refine blk_alloc ?_ _)); refine blk_put (cs := #[.int .i64 0, .int .u64 0]) ?_ 0 _ rfl; (with_reducible repeat (first | refine blk_drewN ?_ _ | refine blk_drew ?_ | refine blk_alloc ?_ _)); exact BK171.out) hg (Kd.R_ne HO_5.out BK171.out (by decide))); have n3_ := Aside0.mk (hb); have n4_ := Aside0.mk (ho); clear BK161; clear BK163; clear BK171; clear HB; clear HO_5; have BK161 := n0_; have BK163 := n1_; have BK171 := n2_; have HB := n3_; have HO174 := n4_; clear n0_ n1_ n2_ n3_ n4_; clear ho hb hg hat))
      go_roundg k1
      case measure => have := HK1.out; omega
      case rel => exact ⟨(y172), (wrap64 (x12_1 + 1)), bd6_22, H', ⟨by have := HK1.out; omega⟩, ⟨by (with_reducible repeat (first | apply Kd.R_alloc | apply Kd.R_drewN | apply Kd.R_drew)); exact HO174.out⟩, ⟨by (with_reducible repeat (first | refine blk_drewN ?_ _ | refine blk_drew ?_ | refine blk_alloc ?_ _)); exact BK161.out⟩, ⟨by repeat (first | (with_reducible first | exact HB.out | apply below_alloc | apply pw_below_drewN | apply below_drew1 | refine below_set ?_ GE161.out | refine below_set ?_ GE163.out | refine below_set ?_ GE171.out) | exact HB.out)⟩⟩

-- BY HAND: function 18 (orders_kept)
-- BY HAND: function 19 (slices_Sort_int_int)
-- BY HAND: function 20 (slices_Compact_int_int)
/-! ### orders_Jobs: function 10 -/
def orders_Jobs.l0 : Nat → List Int → List (S48) → Int → Int → Option (List Int)
  | 0, _, _, _, _ => none
  | k + 1, x3, x7, x8, x9 => if x9 < x8 then (if 0 ≤ x9 then (if x9 < (x7.length : Int) then (if x3.length < 17592186044416 then (orders_Jobs.l0 k (x3 ++ [(rd_T48 x7 x9).f1]) x7 x8 (wrap64 (x9 + 1))) else (none)) else (none)) else (none)) else ((slices_Sort_int_int.f x3).bind fun t186 => ((slices_Compact_int_int.f t186).bind fun t187 => (some t187)))
def orders_Jobs.f (k : Nat) (l0 : List (S48)) : Option (List Int) := (orders_kept.f l0 1).bind fun t178 => (orders_Jobs.l0 k ([] : List Int) t178 (t178.length : Int) 0)
theorem orders_Jobs.mono_l : ∀ k, (∀ y0 y1 y2 y3, LeO (orders_Jobs.l0 k y0 y1 y2 y3) (orders_Jobs.l0 (k + 1) y0 y1 y2 y3))
  | 0 => fun _ _ _ _ r h => by simp [orders_Jobs.l0] at h
  | k + 1 => by
    have ih0 := orders_Jobs.mono_l k
    · intro y0 y1 y2 y3
      unfold orders_Jobs.l0
      repeat' first
      | (with_reducible exact ih0 _ _ _ _)
      | (with_reducible exact LeO.refl _)
      | (with_reducible exact LeO.none _)
      | (with_reducible refine LeO.ite ?_ ?_)
      | (with_reducible refine LeO.bind ?_ (fun _ => ?_))
      | exact ih0 _ _ _ _
      | exact LeO.none _
      | refine LeO.ite ?_ ?_
      | refine LeO.bind ?_ (fun _ => ?_)
theorem orders_Jobs.mono : ∀ a0 k, LeO (orders_Jobs.f k a0) (orders_Jobs.f (k + 1) a0) := by
  intro a0 k
  have ih0 := orders_Jobs.mono_l k
  unfold orders_Jobs.f
  repeat' first
      | (with_reducible exact ih0 _ _ _ _)
      | (with_reducible exact LeO.refl _)
      | (with_reducible exact LeO.none _)
      | (with_reducible refine LeO.ite ?_ ?_)
      | (with_reducible refine LeO.bind ?_ (fun _ => ?_))
      | exact ih0 _ _ _ _
      | exact LeO.none _
      | refine LeO.ite ?_ ?_
      | refine LeO.bind ?_ (fun _ => ?_)
set_option maxHeartbeats 8000000 in
set_option maxRecDepth 100000 in
theorem orders_Jobs.calls (k : Nat) (A0 : Option Addr) (c0 : Nat) (l0 : List (S48)) (r : List Int) (w : World) (hr0 : Kd.C k48 w A0 l0.length l0) (hc0 : l0.length ≤ c0) (h : orders_Jobs.f k l0 = some r) :
    Calls Tryz.prog 10 #[.slice A0 l0.length c0] w fun e w' => ∃ v0_ : Value, e = .returned (v0_) ∧ Kd.R (Kd.int .i64) 3 w' w.heap.size (fun _ => True) v0_ r ∧ Below w.heap.size w w' := by
  have hu48 := Tryz.underlying48
  have HR0 := Aside0.mk hr0
  have HC0 := Aside0.mk hc0
  clear hr0 hc0
  have HB := Aside0.mk (Below.refl w.heap.size w)
  unfold orders_Jobs.f at h
  have H := h
  clear h
  obtain ⟨t178, A2, H⟩ := bdA H
  have H' := Aside0.mk H
  clear H
  go_enter Tryz.func10, Tryz.ntmps10
  go_wp2_with (first | ((with_reducible refine gate_callee (f := 18) rfl ?_); refine goesL_ (some 7) rfl rfl Tryz.func18 (by kernel_rfl) rfl #[.slice A0 l0.length c0, .int .i64 1] rfl ba6_20 ?_; (with_reducible refine (orders_kept.calls _ _ l0 1 t178 _ ?side1 ?side2 A2.out).mono ?_); (case side1 => repeat (first | exact HR0.out | (with_reducible refine Kd.C_alloc ?_ _) | (with_reducible refine Kd.C_drewN ?_ _) | (with_reducible refine Kd.C_drew ?_))); (case side2 => exact HC0.out); rintro e w3 ⟨v179, rfl, ho0, hb⟩; refine ⟨_, rfl, ?_⟩; have HO180 := Aside0.mk (Kd.R_lower ho0 bz6_4); replace HB := Aside0.mk (bs6_0 hb); (try clear hb); (try clear hb2); (try clear hk); (try clear hi); (try clear ho0); obtain ⟨Ao4, co4, eo4⟩ := Kd.R_slice HO180.out; subst eo4))
  go_loopg [3, 9] k (fun kq v3 v9 w' => ∃ (x3_1 : List Int) (x9_1 : Int), v9 = .int .i64 x9_1 ∧ Aside0 (orders_Jobs.l0 kq x3_1 t178 (t178.length : Int) x9_1 = some r) ∧ Aside0 (kq ≤ k) ∧ Aside0 (Kd.R (Kd.int .i64) 3 w' w.heap.size (fun _ => True) v3 x3_1) ∧ Aside0 (Kd.R k48 48 w' w.heap.size (fun _ => True) (.slice Ao4 t178.length co4) t178) ∧ Aside0 (Below w.heap.size w w'))
  case atStart => exact ⟨(([] : List Int)), (0), bd6_22, H', ⟨Nat.le_refl _⟩, ⟨by first | exact Kd.R_nil _ _ _ _ _ | exact Kd.N_nil _ _ _ _ _ | exact Kd.V_nil _ _ _ _ _ | exact Kd.Q_nil _ _ _ _ _ | exact Kd.S_nil _ _ _ _ _⟩, ⟨by (with_reducible repeat (first | apply Kd.R_alloc | apply Kd.R_drewN | apply Kd.R_drew)); exact HO180.out⟩, ⟨by repeat (first | (with_reducible first | exact HB.out | apply below_alloc | apply pw_below_drewN | apply below_drew1) | exact HB.out)⟩⟩
  case round =>
    clear H'
    try clear c1
    try clear p2
    obtain ⟨x3_1, x9_1, rfl, HA, HK1, HO_3, HO_7, HB⟩ := hrel
    cases gk with
    | zero => exact absurd HA.out (by simp [orders_Jobs.l0])
    | succ k1 =>
      have H := HA.out
      clear HA
      simp only [orders_Jobs.l0] at H
      by_cases c5 : x9_1 < (t178.length : Int)
      rotate_left
      · rw [if_neg c5] at H
        have c5b0 := decide_eq_false c5
        clear c5
        obtain ⟨t186, A12, H⟩ := bdA H
        obtain ⟨t187, A13, H⟩ := bdA H
        obtain rfl := Option.some.inj H
        obtain ⟨Ao14, co14, eo14⟩ := Kd.R_slice HO_3.out
        subst eo14
        go_wp2_with (first | ((with_reducible refine gate_callee (f := 19) rfl ?_); refine goesL_ (some 20) rfl rfl Tryz.func19 (by kernel_rfl) rfl #[.slice Ao14 x3_1.length co14] rfl ba6_20 ?_; (with_reducible refine (slices_Sort_int_int.calls (fun k_ => some k_ = (.slice Ao14 x3_1.length co14 : Value).ownBlock) (.slice Ao14 x3_1.length co14) x3_1 t186 w _ ?side1 ?side2 A12.out).mono ?_); (case side1 => repeat (first | (with_reducible first | exact HB.out | apply below_alloc | apply pw_below_drewN | apply below_drew1) | exact HB.out)); (case side2 => exact Kd.R_tight rfl HO_3.out); rintro e w15 ⟨rfl, hy0, hb, hkp⟩; refine ⟨_, rfl, ?_⟩; replace HO_7 := Aside0.mk (Kd.R_mono (ok' := fun k_ => True) (Kd.R_keptB ((Kd.R_apart' HO_7.out (Kd.R_typed HO_3.out) (by decide))) hkp (fun k_ hk_ hs_ => (hk_.2) hs_)) (fun k_ hk_ => trivial)); replace HO_3 := Aside0.mk (Kd.R_reok rfl hy0 (fun k_ e_ => HO_3.out.1 k_ e_)); replace HB := Aside0.mk (hb); (try clear hb); (try clear hkp); (try clear hy0)) | ((with_reducible refine gate_callee (f := 20) rfl ?_); refine goesL_ (some 22) rfl rfl Tryz.func20 (by kernel_rfl) rfl #[.slice Ao14 x3_1.length co14] rfl ba6_20 ?_; (with_reducible refine (slices_Compact_int_int.calls (fun k_ => some k_ = (.slice Ao14 x3_1.length co14 : Value).ownBlock) (.slice Ao14 x3_1.length co14) t186 t187 w _ ?side1 ?side2 A13.out).mono ?_); (case side1 => repeat (first | (with_reducible first | exact HB.out | apply below_alloc | apply pw_below_drewN | apply below_drew1) | exact HB.out)); (case side2 => exact Kd.R_tight rfl HO_3.out); rintro e w16 ⟨v188, rfl, ho0, hb, hkp⟩; refine ⟨_, rfl, ?_⟩; have n0_ := Aside0.mk (Kd.R_mono (ok' := fun k_ => True) (Kd.R_keptB ((Kd.R_apart' HO_7.out (Kd.R_typed HO_3.out) (by decide))) hkp (fun k_ hk_ hs_ => (hk_.2) hs_)) (fun k_ hk_ => trivial)); have n1_ := Aside0.mk (Kd.R_mono (ok' := fun k_ => True) ho0 (fun k_ hk_ => trivial)); have n2_ := Aside0.mk (hb); clear HO_7; clear HB; clear HO_3; have HO_7 := n0_; have HO189 := n1_; have HB := n2_; clear n0_ n1_ n2_; (try clear hb); (try clear hkp); (try clear ho0)))
        go_ret
        exact ⟨_, by first | rfl | (simp [errW_none, errW_some] <;> rfl) | (simp [*, errW_none, errW_some] <;> rfl), by (with_reducible repeat (first | apply Kd.R_alloc | apply Kd.R_drewN | apply Kd.R_drew)); exact HO189.out, by repeat (first | (with_reducible first | exact HB.out | apply below_alloc | apply pw_below_drewN | apply below_drew1) | exact HB.out)⟩
      rw [if_pos c5] at H
      have c5b0 := decide_eq_true c5
      clear c5
      obtain ⟨c6, H⟩ := itS H
      have c6b0 := decide_eq_true c6
      clear c6
      obtain ⟨c7, H⟩ := itS H
      have c7b0 := decide_eq_true c7
      clear c7
      obtain ⟨LMc8, H⟩ := itL H
      obtain ⟨y183, hy183⟩ : ∃ y_ : List Int, y_ = (x3_1 ++ [(rd_T48 t178 x9_1).f1]) := ⟨_, rfl⟩
      replace H : (orders_Jobs.l0 k1 y183 t178 (t178.length : Int) (wrap64 (x9_1 + 1))) = some r := by first | (rw [hy183]; with_reducible exact H) | (have H2_ := (Option.bind_some _ _).symm.trans H; rw [hy183]; with_reducible exact H2_) | (have H2_ := (Option.bind_some _ _).symm.trans H; with_reducible exact H2_) | with_reducible exact H | (rw [hy183]; exact H) | exact H
      have Ny183 := Aside0.mk hy183
      clear hy183
      have H' := Aside0.mk H
      clear H
      have p181 : 0 ≤ (x9_1 : Int) := of_decide_eq_true bb6_21
      have q181 : x9_1 < (t178.length : Int) := of_decide_eq_true bb6_21
      obtain ⟨ad181, e181, hx181_0, hx181_1, hx181_2, hx181_3, hx181_4⟩ := at_T48 (Kd.R_reads' HO_7.out).2.2 x9_1 p181 q181
      cases e181
      replace p181 := eq_true p181
      replace q181 := eq_true q181
      go_wp2_with (first | ((with_reducible refine gate_dst (N := 5) rfl ?_); refine box_event ?hg (N := 5) ?hd (cs := #[.int .i64 0, .int .i64 0, .int .i64 0, .int .i64 0, .int .u64 0]) (t := 48) ?hr ?_; (case hd => rfl); (case hg => rfl); (case hr => first | (go_simp; done) | (go_simp; rfl)); intro gb182 hg w9 hbox hb; replace HO_3 := Aside0.mk (Kd.R_below (by (with_reducible repeat (first | apply Kd.R_alloc | apply Kd.R_drewN | apply Kd.R_drew)); exact HO_3.out) hb); replace HO_7 := Aside0.mk (Kd.R_below (Kd.R_elderB (by (with_reducible repeat (first | apply Kd.R_alloc | apply Kd.R_drewN | apply Kd.R_drew)); exact HO_7.out) gb182 (Nat.le_of_eq hg.symm)) hb); have BK182 := Aside0.mk (hbox); have GW182 := Aside0.mk ((by rw [hg]; exact bz6_4 : w.heap.size ≤ gb182)); have GE182 := Aside0.mk ((by rw [hg]; exact bz6_4 : w.heap.size ≤ gb182)); replace HB := Aside0.mk (bs6_0 hb); clear hb hbox hg; have hcz10_0 : w9.cell? ⟨gb182, 0, none⟩ = some (.int .i64 0) := (blk_cell BK182.out 0).trans rfl; have hcz10_1 : w9.cell? ⟨gb182, 1, none⟩ = some (.int .i64 0) := (blk_cell BK182.out 1).trans rfl; have hcz10_2 : w9.cell? ⟨gb182, 2, none⟩ = some (.int .i64 0) := (blk_cell BK182.out 2).trans rfl; have hcz10_3 : w9.cell? ⟨gb182, 3, none⟩ = some (.int .i64 0) := (blk_cell BK182.out 3).trans rfl; have hcz10_4 : w9.cell? ⟨gb182, 4, none⟩ = some (.int .u64 0) := (blk_cell BK182.out 4).trans rfl; have hfz10_0 := blk_frozen BK182.out 0; have hfz10_1 := blk_frozen BK182.out 1; have hfz10_2 := blk_frozen BK182.out 2; have hfz10_3 := blk_frozen BK182.out 3; have hfz10_4 := blk_frozen BK182.out 4) | ((with_reducible refine gate_builtin (b := .append) (xs := #[.tmp 13, .tmp 16]) rfl ?_); at_builtin; refine Kd.R_append (Kd.int .i64) (w0 := w) w.heap.size rfl (.tmp 13) (.tmp 16) 34 3 (.int .i64 0) 8 rfl Tryz.underlying34 info3 rfl (by decide) (by omega) u3 x3_1 ((rd_T48 t178 x9_1).f1) [.int .i64 ((rd_T48 t178 x9_1).f1)] (fun _ => True) (fun _ => False) rfl (by first | (go_simp; done) | (go_simp; rfl)) ?aP (fun _ hk => hk.elim) ?aF ?aO ?aB ?aS ?aL ?_; (case aP => exact rfl); (case aB => exact bh6_25); (case aF => exact (fun _ _ => trivial)); (case aO => exact (by (with_reducible repeat (first | apply Kd.R_alloc | apply Kd.R_drewN | apply Kd.R_drew)); exact Kd.R_mono (Kd.R_far (p := ⟨gb182, 4, none⟩) (Kd.R_far (p := ⟨gb182, 3, none⟩) (Kd.R_far (p := ⟨gb182, 2, none⟩) (Kd.R_far (p := ⟨gb182, 1, none⟩) (Kd.R_far (p := ⟨gb182, 0, none⟩) (Kd.R_types HO_3.out BK182.out (by decide)) (fun _ hk => hk.2) (.int .i64 ((rd_T48 t178 x9_1).f0))) (fun _ hk => hk.2) (.int .i64 ((rd_T48 t178 x9_1).f1))) (fun _ hk => hk.2) (.int .i64 ((rd_T48 t178 x9_1).f2))) (fun _ hk => hk.2) (.int .i64 ((rd_T48 t178 x9_1).f3))) (fun _ hk => hk.2) (.int .u64 ((rd_T48 t178 x9_1).f4))) (fun _ hk => trivial))); (case aS => exact bz6_8); (case aL => have := LMc8.out; omega); intro v184 w11 ho hb hg hat; rw [← Ny183.out] at ho; have n0_ := Aside0.mk (Kd.R_over' (by (with_reducible repeat (first | apply Kd.R_alloc | apply Kd.R_drewN | apply Kd.R_drew)); exact (Kd.R_mono (Kd.R_far (p := ⟨gb182, 4, none⟩) (Kd.R_far (p := ⟨gb182, 3, none⟩) (Kd.R_far (p := ⟨gb182, 2, none⟩) (Kd.R_far (p := ⟨gb182, 1, none⟩) (Kd.R_far (p := ⟨gb182, 0, none⟩) (Kd.R_mono HO_7.out (fun k_ hk => (⟨hk, hk.2⟩ : _ ∧ k_ ≠ gb182))) (fun _ hk => hk.2) (.int .i64 ((rd_T48 t178 x9_1).f0))) (fun _ hk => hk.2) (.int .i64 ((rd_T48 t178 x9_1).f1))) (fun _ hk => hk.2) (.int .i64 ((rd_T48 t178 x9_1).f2))) (fun _ hk => hk.2) (.int .i64 ((rd_T48 t178 x9_1).f3))) (fun _ hk => hk.2) (.int .u64 ((rd_T48 t178 x9_1).f4))) (fun _ h_ => h_.1))) (Kd.R_typed (by (with_reducible repeat (first | apply Kd.R_alloc | apply Kd.R_drewN | apply Kd.R_drew)); exact (Kd.R_mono (Kd.R_far (p := ⟨gb182, 4, none⟩) (Kd.R_far (p := ⟨gb182, 3, none⟩) (Kd.R_far (p := ⟨gb182, 2, none⟩) (Kd.R_far (p := ⟨gb182, 1, none⟩) (Kd.R_far (p := ⟨gb182, 0, none⟩) (Kd.R_types HO_3.out BK182.out (by decide)) (fun _ hk => hk.2) (.int .i64 ((rd_T48 t178 x9_1).f0))) (fun _ hk => hk.2) (.int .i64 ((rd_T48 t178 x9_1).f1))) (fun _ hk => hk.2) (.int .i64 ((rd_T48 t178 x9_1).f2))) (fun _ hk => hk.2) (.int .i64 ((rd_T48 t178 x9_1).f3))) (fun _ hk => hk.2) (.int .u64 ((rd_T48 t178 x9_1).f4))) (fun _ h_ => h_.1)))) (by decide) hg); have n1_ := Aside0.mk (blk_grown (g := gb182) (o := .cells #[.int .i64 ((rd_T48 t178 x9_1).f0), .int .i64 ((rd_T48 t178 x9_1).f1), .int .i64 ((rd_T48 t178 x9_1).f2), .int .i64 ((rd_T48 t178 x9_1).f3), .int .u64 ((rd_T48 t178 x9_1).f4)] 48 (0, 0)) (by (with_reducible repeat (first | refine blk_drewN ?_ _ | refine blk_drew ?_ | refine blk_alloc ?_ _)); refine blk_put (cs := #[.int .i64 ((rd_T48 t178 x9_1).f0), .int .i64 ((rd_T48 t178 x9_1).f1), .int .i64 ((rd_T48 t178 x9_1).f2), .int .i64 ((rd_T48 t178 x9_1).f3), .int .u64 0]) ?_ 4 _ rfl; (with_reducible repeat (first | refine blk_drewN ?_ _ | refine blk_drew ?_ | refine blk_alloc ?_ _)); refine blk_put (cs := #[.int .i64 ((rd_T48 t178 x9_1).f0), .int .i64 ((rd_T48 t178 x9_1).f1), .int .i64 ((rd_T48 t178 x9_1).f2), .int .i64 0, .int .u64 0]) ?_ 3 _ rfl; (with_reducible repeat (first | refine blk_drewN ?_ _ | refine blk_drew ?_ | refine blk_alloc ?_ _)); refine blk_put (cs := #[.int .i64 ((rd_T48 t178 x9_1).f0), .int .i64 ((rd_T48 t178 x9_1).f1), .int .i64 0, .int .i64 0, .int .u64 0]) ?_ 2 _ rfl; (with_reducible repeat (first | refine blk_drewN ?_ _ | refine blk_drew ?_ | refine blk_alloc ?_ _)); refine blk_put (cs := #[.int .i64 ((rd_T48 t178 x9_1).f0), .int .i64 0, .int .i64 0, .int .i64 0, .int .u64 0]) ?_ 1 _ rfl; (with_reducible repeat (first | refine blk_drewN ?_ _ | refine blk_drew ?_ | refine blk_alloc ?_ _)); refine blk_put (cs := #[.int .i64 0, .int .i64 0, .int .i64 0, .int .i64 0, .int .u64 0]) ?_ 0 _ rfl; (with_reducible repeat (first | refine blk_drewN ?_ _ | refine blk_drew ?_ | refine blk_alloc ?_ _)); exact BK182.out) hg (Kd.R_ne HO_3.out BK182.out (by decide))); have n2_ := Aside0.mk (hb); have n3_ := Aside0.mk (ho); clear HO_7; clear BK182; clear HB; clear HO_3; have HO_7 := n0_; have BK182 := n1_; have HB := n2_; have HO185 := n3_; clear n0_ n1_ n2_ n3_; clear ho hb hg hat))
      go_roundg k1
      case measure => have := HK1.out; omega
      case rel => exact ⟨(y183), (wrap64 (x9_1 + 1)), bd6_22, H', ⟨by have := HK1.out; omega⟩, ⟨by (with_reducible repeat (first | apply Kd.R_alloc | apply Kd.R_drewN | apply Kd.R_drew)); exact HO185.out⟩, ⟨by (with_reducible repeat (first | apply Kd.R_alloc | apply Kd.R_drewN | apply Kd.R_drew)); exact Kd.R_mono HO_7.out (fun _ hk => trivial)⟩, ⟨by repeat (first | (with_reducible first | exact HB.out | apply below_alloc | apply pw_below_drewN | apply below_drew1 | refine below_set ?_ GE182.out) | exact HB.out)⟩⟩

/-! ### orders_Timers: function 12 -/
def orders_Timers.f (l0 : List (S48)) : Option ((List (S48))) := (orders_kept.f l0 2).bind fun t190 => (some t190)
set_option maxHeartbeats 8000000 in
set_option maxRecDepth 100000 in
theorem orders_Timers.calls (A0 : Option Addr) (c0 : Nat) (l0 : List (S48)) (r : List (S48)) (w : World) (hr0 : Kd.C k48 w A0 l0.length l0) (hc0 : l0.length ≤ c0) (h : orders_Timers.f l0 = some r) :
    Calls Tryz.prog 12 #[.slice A0 l0.length c0] w fun e w' => ∃ v0_ : Value, e = .returned (v0_) ∧ Kd.R k48 48 w' w.heap.size (fun _ => True) v0_ r ∧ Below w.heap.size w w' := by
  have HR0 := Aside0.mk hr0
  have HC0 := Aside0.mk hc0
  clear hr0 hc0
  have HB := Aside0.mk (Below.refl w.heap.size w)
  unfold orders_Timers.f at h
  have H := h
  clear h
  obtain ⟨t190, A2, H⟩ := bdA H
  obtain rfl := Option.some.inj H
  go_enter Tryz.func12, Tryz.ntmps12
  go_wp2_with (first | ((with_reducible refine gate_callee (f := 18) rfl ?_); refine goesL_ (some 4) rfl rfl Tryz.func18 (by kernel_rfl) rfl #[.slice A0 l0.length c0, .int .i64 2] rfl ba6_20 ?_; (with_reducible refine (orders_kept.calls _ _ l0 2 t190 _ ?side1 ?side2 A2.out).mono ?_); (case side1 => repeat (first | exact HR0.out | (with_reducible refine Kd.C_alloc ?_ _) | (with_reducible refine Kd.C_drewN ?_ _) | (with_reducible refine Kd.C_drew ?_))); (case side2 => exact HC0.out); rintro e w3 ⟨v191, rfl, ho0, hb⟩; refine ⟨_, rfl, ?_⟩; have HO192 := Aside0.mk (Kd.R_lower ho0 bz6_4); replace HB := Aside0.mk (bs6_0 hb); (try clear hb); (try clear hb2); (try clear hk); (try clear hi); (try clear ho0)))
  go_ret
  exact ⟨_, by first | rfl | (simp [errW_none, errW_some] <;> rfl) | (simp [*, errW_none, errW_some] <;> rfl), by (with_reducible repeat (first | apply Kd.R_alloc | apply Kd.R_drewN | apply Kd.R_drew)); exact HO192.out, by repeat (first | (with_reducible first | exact HB.out | apply below_alloc | apply pw_below_drewN | apply below_drew1) | exact HB.out)⟩

/-! ### remontoirlaw27_wakes: function 5 -/
def remontoirlaw27_wakes.f (k : Nat)  : Option (Bool) := (orders_Of.f k (⟨#[]⟩ : ByteArray) (([(⟨3, 0, 3, 0, (⟨#[]⟩ : ByteArray)⟩ : S41), (⟨8, 0, 0, 1, (⟨#[80, 84, 57, 83]⟩ : ByteArray)⟩ : S41)] : List (S41))) ([] : List (S43)) (([(⟨2, 0, 1, 5⟩ : S45), (⟨1, 0, 0, 0⟩ : S45), (⟨3, 0, 2, 5⟩ : S45), (⟨4, 0, 0, 5⟩ : S45)] : List (S45)))).bind fun t200 => (if (t200.length : Int) = 3 then (if 0 < (t200.length : Int) then (if (((rd_T48 t200 0).f0) == 1 && (((rd_T48 t200 0).f1) == 5 && (((rd_T48 t200 0).f2) == 1 && (((rd_T48 t200 0).f3) == 3 && (((rd_T48 t200 0).f4) == 0))))) = true then (if 1 < (t200.length : Int) then (if (((rd_T48 t200 1).f0) == 2 && (((rd_T48 t200 1).f1) == 5 && (((rd_T48 t200 1).f2) == 2 && (((rd_T48 t200 1).f3) == 0 && (((rd_T48 t200 1).f4) == 9))))) = true then (if 2 < (t200.length : Int) then (if (((rd_T48 t200 2).f0) == 3 && (((rd_T48 t200 2).f1) == 5 && (((rd_T48 t200 2).f2) == 0 && (((rd_T48 t200 2).f3) == 0 && (((rd_T48 t200 2).f4) == 0))))) = true then ((orders_Jobs.f k t200).bind fun t206 => (if (t206.length : Int) = 0 then (if 2 ≤ (t200.length : Int) then ((orders_Jobs.f k (t200.take 2)).bind fun t213 => (if (t213.length : Int) = 1 then ((orders_Timers.f (t200.take 2)).bind fun t220 => (some ((t220.length : Int) == 1))) else (none))) else (none)) else (none))) else (none)) else (none)) else (none)) else (none)) else (none)) else (none)) else (none))
theorem remontoirlaw27_wakes.mono : ∀ k, LeO (remontoirlaw27_wakes.f k ) (remontoirlaw27_wakes.f (k + 1) ) := by
  intro  k
  unfold remontoirlaw27_wakes.f
  repeat' first
      | (with_reducible exact orders_Jobs.mono _ _)
      | (with_reducible exact orders_Of.mono _ _ _ _ _)
      | (with_reducible exact LeO.refl _)
      | (with_reducible exact LeO.none _)
      | (with_reducible refine LeO.ite ?_ ?_)
      | (with_reducible refine LeO.bind ?_ (fun _ => ?_))
      | exact orders_Jobs.mono _ _
      | exact orders_Of.mono _ _ _ _ _
      | exact LeO.none _
      | refine LeO.ite ?_ ?_
      | refine LeO.bind ?_ (fun _ => ?_)
set_option maxHeartbeats 8000000 in
set_option maxRecDepth 100000 in
theorem remontoirlaw27_wakes.calls (k : Nat)  (r : Bool) (w : World) (h : remontoirlaw27_wakes.f k  = some r) :
    Calls Tryz.prog 5 #[] w fun e w' => e = .returned (.bool r) ∧ Below w.heap.size w w' := by
  have hu41 := Tryz.underlying41
  have hu25 := Tryz.underlying25
  have hu45 := Tryz.underlying45
  have hu48 := Tryz.underlying48
  have HB := Aside0.mk (Below.refl w.heap.size w)
  unfold remontoirlaw27_wakes.f at h
  have H := h
  clear h
  obtain ⟨y193, hy193⟩ : ∃ y_ : List (S41), y_ = (([(⟨3, 0, 3, 0, (⟨#[]⟩ : ByteArray)⟩ : S41), (⟨8, 0, 0, 1, (⟨#[80, 84, 57, 83]⟩ : ByteArray)⟩ : S41)] : List (S41))) := ⟨_, rfl⟩
  replace H : ((orders_Of.f k (⟨#[]⟩ : ByteArray) y193 ([] : List (S43)) (([(⟨2, 0, 1, 5⟩ : S45), (⟨1, 0, 0, 0⟩ : S45), (⟨3, 0, 2, 5⟩ : S45), (⟨4, 0, 0, 5⟩ : S45)] : List (S45)))).bind fun t200 => (if (t200.length : Int) = 3 then (if 0 < (t200.length : Int) then (if (((rd_T48 t200 0).f0) == 1 && (((rd_T48 t200 0).f1) == 5 && (((rd_T48 t200 0).f2) == 1 && (((rd_T48 t200 0).f3) == 3 && (((rd_T48 t200 0).f4) == 0))))) = true then (if 1 < (t200.length : Int) then (if (((rd_T48 t200 1).f0) == 2 && (((rd_T48 t200 1).f1) == 5 && (((rd_T48 t200 1).f2) == 2 && (((rd_T48 t200 1).f3) == 0 && (((rd_T48 t200 1).f4) == 9))))) = true then (if 2 < (t200.length : Int) then (if (((rd_T48 t200 2).f0) == 3 && (((rd_T48 t200 2).f1) == 5 && (((rd_T48 t200 2).f2) == 0 && (((rd_T48 t200 2).f3) == 0 && (((rd_T48 t200 2).f4) == 0))))) = true then ((orders_Jobs.f k t200).bind fun t206 => (if (t206.length : Int) = 0 then (if 2 ≤ (t200.length : Int) then ((orders_Jobs.f k (t200.take 2)).bind fun t213 => (if (t213.length : Int) = 1 then ((orders_Timers.f (t200.take 2)).bind fun t220 => (some ((t220.length : Int) == 1))) else (none))) else (none)) else (none))) else (none)) else (none)) else (none)) else (none)) else (none)) else (none)) else (none))) = some r := by first | (rw [hy193]; with_reducible exact H) | (have H2_ := (Option.bind_some _ _).symm.trans H; rw [hy193]; with_reducible exact H2_) | (have H2_ := (Option.bind_some _ _).symm.trans H; with_reducible exact H2_) | with_reducible exact H | (rw [hy193]; exact H) | exact H
  have Ny193 := Aside0.mk hy193
  clear hy193
  obtain ⟨y197, hy197⟩ : ∃ y_ : List (S45), y_ = (([(⟨2, 0, 1, 5⟩ : S45), (⟨1, 0, 0, 0⟩ : S45), (⟨3, 0, 2, 5⟩ : S45), (⟨4, 0, 0, 5⟩ : S45)] : List (S45))) := ⟨_, rfl⟩
  replace H : ((orders_Of.f k (⟨#[]⟩ : ByteArray) y193 ([] : List (S43)) y197).bind fun t200 => (if (t200.length : Int) = 3 then (if 0 < (t200.length : Int) then (if (((rd_T48 t200 0).f0) == 1 && (((rd_T48 t200 0).f1) == 5 && (((rd_T48 t200 0).f2) == 1 && (((rd_T48 t200 0).f3) == 3 && (((rd_T48 t200 0).f4) == 0))))) = true then (if 1 < (t200.length : Int) then (if (((rd_T48 t200 1).f0) == 2 && (((rd_T48 t200 1).f1) == 5 && (((rd_T48 t200 1).f2) == 2 && (((rd_T48 t200 1).f3) == 0 && (((rd_T48 t200 1).f4) == 9))))) = true then (if 2 < (t200.length : Int) then (if (((rd_T48 t200 2).f0) == 3 && (((rd_T48 t200 2).f1) == 5 && (((rd_T48 t200 2).f2) == 0 && (((rd_T48 t200 2).f3) == 0 && (((rd_T48 t200 2).f4) == 0))))) = true then ((orders_Jobs.f k t200).bind fun t206 => (if (t206.length : Int) = 0 then (if 2 ≤ (t200.length : Int) then ((orders_Jobs.f k (t200.take 2)).bind fun t213 => (if (t213.length : Int) = 1 then ((orders_Timers.f (t200.take 2)).bind fun t220 => (some ((t220.length : Int) == 1))) else (none))) else (none)) else (none))) else (none)) else (none)) else (none)) else (none)) else (none)) else (none)) else (none))) = some r := by first | (rw [hy197]; with_reducible exact H) | (have H2_ := (Option.bind_some _ _).symm.trans H; rw [hy197]; with_reducible exact H2_) | (have H2_ := (Option.bind_some _ _).symm.trans H; with_reducible exact H2_) | with_reducible exact H | (rw [hy197]; exact H) | exact H
  have Ny197 := Aside0.mk hy197
  clear hy197
  obtain ⟨t200, A1, H⟩ := bdA H
  obtain ⟨c2, H⟩ := itS H
  have c2b0 := beq_iff_eq.mpr c2
  have c2b1 := bne_eq_false_iff_eq.mpr c2
  clear c2
  obtain ⟨c3, H⟩ := itS H
  have c3b0 := decide_eq_true c3
  have c3b1 : decide (0 < t200.length) = true := decide_eq_true (by omega)
  clear c3
  obtain ⟨c4, H⟩ := itS H
  have c4b0 : (((rd_T48 t200 0).f0) == 1 && (((rd_T48 t200 0).f1) == 5 && (((rd_T48 t200 0).f2) == 1 && (((rd_T48 t200 0).f3) == 3 && (((rd_T48 t200 0).f4) == 0))))) = true := c4
  (try (have c4b1 : decide (((rd_T48 t200 0).f0) = 1 && (((rd_T48 t200 0).f1) == 5 && (((rd_T48 t200 0).f2) == 1 && (((rd_T48 t200 0).f3) == 3 && (((rd_T48 t200 0).f4) == 0))))) = true := by simpa using c4))
  (try (have c4b2 : (((rd_T48 t200 0).f0) == 1 && (((rd_T48 t200 0).f1) == 5 && (((rd_T48 t200 0).f2) == 1 && (((rd_T48 t200 0).f3) == 3 && (((rd_T48 t200 0).f4) == 0))))) = true := by simpa using c4))
  clear c4
  obtain ⟨c5, H⟩ := itS H
  have c5b0 := decide_eq_true c5
  have c5b1 : decide (1 < t200.length) = true := decide_eq_true (by omega)
  clear c5
  obtain ⟨c6, H⟩ := itS H
  have c6b0 : (((rd_T48 t200 1).f0) == 2 && (((rd_T48 t200 1).f1) == 5 && (((rd_T48 t200 1).f2) == 2 && (((rd_T48 t200 1).f3) == 0 && (((rd_T48 t200 1).f4) == 9))))) = true := c6
  (try (have c6b1 : decide (((rd_T48 t200 1).f0) = 2 && (((rd_T48 t200 1).f1) == 5 && (((rd_T48 t200 1).f2) == 2 && (((rd_T48 t200 1).f3) == 0 && (((rd_T48 t200 1).f4) == 9))))) = true := by simpa using c6))
  (try (have c6b2 : (((rd_T48 t200 1).f0) == 2 && (((rd_T48 t200 1).f1) == 5 && (((rd_T48 t200 1).f2) == 2 && (((rd_T48 t200 1).f3) == 0 && (((rd_T48 t200 1).f4) == 9))))) = true := by simpa using c6))
  clear c6
  obtain ⟨c7, H⟩ := itS H
  have c7b0 := decide_eq_true c7
  have c7b1 : decide (2 < t200.length) = true := decide_eq_true (by omega)
  clear c7
  obtain ⟨c8, H⟩ := itS H
  have c8b0 : (((rd_T48 t200 2).f0) == 3 && (((rd_T48 t200 2).f1) == 5 && (((rd_T48 t200 2).f2) == 0 && (((rd_T48 t200 2).f3) == 0 && (((rd_T48 t200 2).f4) == 0))))) = true := c8
  (try (have c8b1 : decide (((rd_T48 t200 2).f0) = 3 && (((rd_T48 t200 2).f1) == 5 && (((rd_T48 t200 2).f2) == 0 && (((rd_T48 t200 2).f3) == 0 && (((rd_T48 t200 2).f4) == 0))))) = true := by simpa using c8))
  (try (have c8b2 : (((rd_T48 t200 2).f0) == 3 && (((rd_T48 t200 2).f1) == 5 && (((rd_T48 t200 2).f2) == 0 && (((rd_T48 t200 2).f3) == 0 && (((rd_T48 t200 2).f4) == 0))))) = true := by simpa using c8))
  clear c8
  obtain ⟨t206, A9, H⟩ := bdA H
  obtain ⟨c10, H⟩ := itS H
  have c10b0 := beq_iff_eq.mpr c10
  have c10b1 := bne_eq_false_iff_eq.mpr c10
  clear c10
  obtain ⟨c11b0, c11b1, H⟩ := itF H
  obtain ⟨y209, hy209⟩ : ∃ y_ : List (S48), y_ = (t200.take 2) := ⟨_, rfl⟩
  replace H : ((orders_Jobs.f k y209).bind fun t213 => (if (t213.length : Int) = 1 then ((orders_Timers.f (t200.take 2)).bind fun t220 => (some ((t220.length : Int) == 1))) else (none))) = some r := by first | (rw [hy209]; with_reducible exact H) | (have H2_ := (Option.bind_some _ _).symm.trans H; rw [hy209]; with_reducible exact H2_) | (have H2_ := (Option.bind_some _ _).symm.trans H; with_reducible exact H2_) | with_reducible exact H | (rw [hy209]; exact H) | exact H
  have Ny209 := Aside0.mk hy209
  clear hy209
  obtain ⟨t213, A12, H⟩ := bdA H
  obtain ⟨c13, H⟩ := itS H
  have c13b0 := beq_iff_eq.mpr c13
  have c13b1 := bne_eq_false_iff_eq.mpr c13
  clear c13
  have c14b0 := eq_true (of_decide_eq_true bb6_21 : 2 ≤ (t200.length : Int))
  obtain ⟨y216, hy216⟩ : ∃ y_ : List (S48), y_ = (t200.take 2) := ⟨_, rfl⟩
  replace H : ((orders_Timers.f y216).bind fun t220 => (some ((t220.length : Int) == 1))) = some r := by first | (rw [hy216]; with_reducible exact H) | (have H2_ := (Option.bind_some _ _).symm.trans H; rw [hy216]; with_reducible exact H2_) | (have H2_ := (Option.bind_some _ _).symm.trans H; with_reducible exact H2_) | with_reducible exact H | (rw [hy216]; exact H) | exact H
  have Ny216 := Aside0.mk hy216
  clear hy216
  obtain ⟨t220, A15, H⟩ := bdA H
  obtain rfl := Option.some.inj H
  go_enter Tryz.func5, Tryz.ntmps5
  go_wp2_with (first | ((with_reducible refine gate_dst (N := 5) rfl ?_); (try (refine gate_guard (by rfl) ?_; dsimp only)); refine Kd.R_lit k41 _ 41 ?hg (N := 5) ?hd (xs := ([(⟨3, 0, 3, 0, (⟨#[]⟩ : ByteArray)⟩ : S41), (⟨8, 0, 0, 1, (⟨#[80, 84, 57, 83]⟩ : ByteArray)⟩ : S41)] : List (S41))) (inner := [.int .i64 3, .int .i64 0, .int .i64 3, .int .i64 0, .string (⟨#[]⟩ : ByteArray), .int .i64 8, .int .i64 0, .int .i64 0, .int .i64 1, .string (⟨#[80, 84, 57, 83]⟩ : ByteArray)]) (ok := fun _ => True) (okp := fun _ => True) ?hr ?hp (fun _ hk => hk) trivial (Below.refl _ _) (Nat.le_refl _) (by simp) ?_; (case hd => rfl); (case hg => rfl); (case hr => first | (go_simp; done) | (go_simp; rfl)); (case hp => exact (Reps.c5 (show Kd.M k41 _ _ _ (⟨3, 0, 3, 0, (⟨#[]⟩ : ByteArray)⟩ : S41) [.int .i64 3, .int .i64 0, .int .i64 3, .int .i64 0, .string (⟨#[]⟩ : ByteArray)] from (k41_mkM _ _ _ (⟨3, 0, 3, 0, (⟨#[]⟩ : ByteArray)⟩ : S41) )) (Reps.c5 (show Kd.M k41 _ _ _ (⟨8, 0, 0, 1, (⟨#[80, 84, 57, 83]⟩ : ByteArray)⟩ : S41) [.int .i64 8, .int .i64 0, .int .i64 0, .int .i64 1, .string (⟨#[80, 84, 57, 83]⟩ : ByteArray)] from (k41_mkM _ _ _ (⟨8, 0, 0, 1, (⟨#[80, 84, 57, 83]⟩ : ByteArray)⟩ : S41) )) (Reps.none _ _)))); intro v194 w16 ho17 hb hg_ hnew_; clear hg_ hnew_; (first | rw [← Ny193.out] at ho17 | (simp only [Int.reduceToNat] at ho17; rw [← Ny193.out] at ho17)); have HO195 := Aside0.mk (Kd.R_lower ho17 bz6_4); replace HB := Aside0.mk (bs6_0 hb); clear hb ho17; obtain ⟨Ao18, co18, eo18⟩ := Kd.R_slice HO195.out; subst eo18) | ((with_reducible refine gate_dst (N := 1) rfl ?_); (try (refine gate_guard (by rfl) ?_; dsimp only)); refine box_event ?hg (N := 1) ?hd (cs := #[.string (⟨#[]⟩ : ByteArray), .slice none 0 0, .slice none 0 0]) (t := 25) ?hr ?_; (case hd => rfl); (case hg => rfl); (case hr => first | (go_simp; done) | (go_simp; rfl)); intro gb196 hg w19 hbox hb; replace HO195 := Aside0.mk (Kd.R_below br6_15 hb); have BK196 := Aside0.mk (hbox); have GW196 := Aside0.mk ((by rw [hg]; exact bz6_4 : w.heap.size ≤ gb196)); have GE196 := Aside0.mk ((by rw [hg]; exact bz6_4 : w.heap.size ≤ gb196)); replace HB := Aside0.mk (bs6_0 hb); clear hb hbox hg; have hcz20_0 : w19.cell? ⟨gb196, 0, none⟩ = some (.string (⟨#[]⟩ : ByteArray)) := (blk_cell BK196.out 0).trans rfl; have hcz20_1 : w19.cell? ⟨gb196, 1, none⟩ = some (.slice none 0 0) := (blk_cell BK196.out 1).trans rfl; have hcz20_2 : w19.cell? ⟨gb196, 2, none⟩ = some (.slice none 0 0) := (blk_cell BK196.out 2).trans rfl; have hfz20_0 := blk_frozen BK196.out 0; have hfz20_1 := blk_frozen BK196.out 1; have hfz20_2 := blk_frozen BK196.out 2) | ((with_reducible refine gate_dst (N := 12) rfl ?_); (try (refine gate_guard (by rfl) ?_; dsimp only)); refine Kd.R_lit k45 _ 45 ?hg (N := 12) ?hd (xs := ([(⟨2, 0, 1, 5⟩ : S45), (⟨1, 0, 0, 0⟩ : S45), (⟨3, 0, 2, 5⟩ : S45), (⟨4, 0, 0, 5⟩ : S45)] : List (S45))) (inner := [.int .i64 2, .int .i64 0, .int .i64 1, .int .i64 5, .int .i64 1, .int .i64 0, .int .i64 0, .int .i64 0, .int .i64 3, .int .i64 0, .int .i64 2, .int .i64 5, .int .i64 4, .int .i64 0, .int .i64 0, .int .i64 5]) (ok := fun _ => True) (okp := fun _ => True) ?hr ?hp (fun _ hk => hk) trivial (Below.refl _ _) (Nat.le_refl _) (by simp) ?_; (case hd => rfl); (case hg => rfl); (case hr => first | (go_simp; done) | (go_simp; rfl)); (case hp => exact (Reps.c4 (show Kd.M k45 _ _ _ (⟨2, 0, 1, 5⟩ : S45) [.int .i64 2, .int .i64 0, .int .i64 1, .int .i64 5] from (k45_mkM _ _ _ (⟨2, 0, 1, 5⟩ : S45) )) (Reps.c4 (show Kd.M k45 _ _ _ (⟨1, 0, 0, 0⟩ : S45) [.int .i64 1, .int .i64 0, .int .i64 0, .int .i64 0] from (k45_mkM _ _ _ (⟨1, 0, 0, 0⟩ : S45) )) (Reps.c4 (show Kd.M k45 _ _ _ (⟨3, 0, 2, 5⟩ : S45) [.int .i64 3, .int .i64 0, .int .i64 2, .int .i64 5] from (k45_mkM _ _ _ (⟨3, 0, 2, 5⟩ : S45) )) (Reps.c4 (show Kd.M k45 _ _ _ (⟨4, 0, 0, 5⟩ : S45) [.int .i64 4, .int .i64 0, .int .i64 0, .int .i64 5] from (k45_mkM _ _ _ (⟨4, 0, 0, 5⟩ : S45) )) (Reps.none _ _)))))); intro v198 w21 ho22 hb hg_ hnew_; clear hg_ hnew_; (first | rw [← Ny197.out] at ho22 | (simp only [Int.reduceToNat] at ho22; rw [← Ny197.out] at ho22)); replace HO195 := Aside0.mk (Kd.R_below (by (with_reducible repeat (first | apply Kd.R_alloc | apply Kd.R_drewN | apply Kd.R_drew)); exact (Kd.R_mono (Kd.R_far (p := ⟨gb196, 2, none⟩) (Kd.R_far (p := ⟨gb196, 1, none⟩) (Kd.R_far (p := ⟨gb196, 0, none⟩) (Kd.R_types HO195.out BK196.out (by decide)) (fun _ hk => hk.2) (.string (⟨#[]⟩ : ByteArray))) (fun _ hk => hk.2) (.slice Ao18 y193.length co18)) (fun _ hk => hk.2) (.slice none 0 0)) (fun _ h_ => h_.1))) hb); have HO199 := Aside0.mk (Kd.R_lower ho22 bz6_9); replace BK196 := Aside0.mk (blk_below (g := gb196) (o := .cells #[.string (⟨#[]⟩ : ByteArray), .slice Ao18 y193.length co18, .slice none 0 0] 25 (0, 0)) (by (with_reducible repeat (first | refine blk_drewN ?_ _ | refine blk_drew ?_ | refine blk_alloc ?_ _)); refine blk_put (cs := #[.string (⟨#[]⟩ : ByteArray), .slice Ao18 y193.length co18, .slice none 0 0]) ?_ 2 _ rfl; (with_reducible repeat (first | refine blk_drewN ?_ _ | refine blk_drew ?_ | refine blk_alloc ?_ _)); refine blk_put (cs := #[.string (⟨#[]⟩ : ByteArray), .slice none 0 0, .slice none 0 0]) ?_ 1 _ rfl; (with_reducible repeat (first | refine blk_drewN ?_ _ | refine blk_drew ?_ | refine blk_alloc ?_ _)); refine blk_put (cs := #[.string (⟨#[]⟩ : ByteArray), .slice none 0 0, .slice none 0 0]) ?_ 0 _ rfl; (with_reducible repeat (first | refine blk_drewN ?_ _ | refine blk_drew ?_ | refine blk_alloc ?_ _)); exact BK196.out) hb); replace HB := Aside0.mk (bs6_3 hb); clear hb ho22; obtain ⟨Ao23, co23, eo23⟩ := Kd.R_slice HO199.out; subst eo23) | ((with_reducible refine gate_callee (f := 7) rfl ?_); refine goesL_ (some 13) rfl rfl Tryz.func7 (by kernel_rfl) rfl #[.agg #[.string (⟨#[]⟩ : ByteArray), .slice Ao18 y193.length co18, .slice none 0 0], .slice Ao23 y197.length co23] rfl ba6_20 ?_; (refine (orders_Of.calls k (⟨#[]⟩ : ByteArray) _ _ y193 _ _ ([] : List (S43)) _ _ y197 t200 _ ?side1 ?side2 ?side3 ?side4 ?side5 ?side6 A1.out).mono ?_); (case side1 => repeat (first | exact (Kd.R_reads' HO195.out).2.2 | (with_reducible refine Kd.C_alloc ?_ _) | (with_reducible refine Kd.C_drewN ?_ _) | (with_reducible refine Kd.C_drew ?_))); (case side2 => exact (Kd.R_reads' HO195.out).2.1); (case side3 => exact Kd.C_nil _ _); (case side4 => exact Nat.le_refl _); (case side5 => repeat (first | exact (Kd.R_reads' HO199.out).2.2 | (with_reducible refine Kd.C_alloc ?_ _) | (with_reducible refine Kd.C_drewN ?_ _) | (with_reducible refine Kd.C_drew ?_))); (case side6 => exact (Kd.R_reads' HO199.out).2.1); rintro e w24 ⟨v201, rfl, ho0, hb⟩; refine ⟨_, rfl, ?_⟩; replace HO195 := Aside0.mk (Kd.R_below br6_15 hb); replace HO199 := Aside0.mk (Kd.R_below br6_16 hb); have HO202 := Aside0.mk (Kd.R_lower ho0 bz6_9); replace BK196 := Aside0.mk (bk6_12 (g := gb196) (o := .cells #[.string (⟨#[]⟩ : ByteArray), .slice Ao18 y193.length co18, .slice none 0 0] 25 (0, 0)) hb); replace HB := Aside0.mk (bs6_3 hb); (try clear hb); (try clear hb2); (try clear hk); (try clear hi); (try clear ho0); obtain ⟨Ao25, co25, eo25⟩ := Kd.R_slice HO202.out; subst eo25; have p203 : 0 ≤ (0 : Int) := (by omega); have q203 : 0 < (t200.length : Int) := of_decide_eq_true bb6_21; obtain ⟨ad203, e203, hx203_0, hx203_1, hx203_2, hx203_3, hx203_4⟩ := at_T48 (Kd.R_reads' HO202.out).2.2 0 p203 q203; cases e203; have qi203 : (0 < t200.length) = True := eq_true (by omega); (try rw [show ((0 : Int)).toNat = 0 from rfl] at hx203_0); (try rw [show 0 * 5 = 0 from rfl] at hx203_0); (try rw [Addr.add_zero'] at hx203_0); (try rw [show ((0 : Int)).toNat = 0 from rfl] at hx203_1); (try rw [show 0 * 5 = 0 from rfl] at hx203_1); (try rw [Addr.add_zero'] at hx203_1); (try rw [show ((0 : Int)).toNat = 0 from rfl] at hx203_2); (try rw [show 0 * 5 = 0 from rfl] at hx203_2); (try rw [Addr.add_zero'] at hx203_2); (try rw [show ((0 : Int)).toNat = 0 from rfl] at hx203_3); (try rw [show 0 * 5 = 0 from rfl] at hx203_3); (try rw [Addr.add_zero'] at hx203_3); (try rw [show ((0 : Int)).toNat = 0 from rfl] at hx203_4); (try rw [show 0 * 5 = 0 from rfl] at hx203_4); (try rw [Addr.add_zero'] at hx203_4); replace p203 := eq_true p203; replace q203 := eq_true q203; have p204 : 0 ≤ (1 : Int) := (by omega); have q204 : 1 < (t200.length : Int) := of_decide_eq_true bb6_21; obtain ⟨ad204, e204, hx204_0, hx204_1, hx204_2, hx204_3, hx204_4⟩ := at_T48 (Kd.R_reads' HO202.out).2.2 1 p204 q204; obtain rfl : ad203 = ad204 := (by injection e204); (try simp only [show (1 : Int).toNat = 1 from rfl, Nat.reduceMul, Nat.reduceEqDiff, Go.Addr.add, ↓reduceIte] at hx204_0); (try simp only [show (1 : Int).toNat = 1 from rfl, Nat.reduceMul, Nat.reduceEqDiff, Go.Addr.add, ↓reduceIte] at hx204_1); (try simp only [show (1 : Int).toNat = 1 from rfl, Nat.reduceMul, Nat.reduceEqDiff, Go.Addr.add, ↓reduceIte] at hx204_2); (try simp only [show (1 : Int).toNat = 1 from rfl, Nat.reduceMul, Nat.reduceEqDiff, Go.Addr.add, ↓reduceIte] at hx204_3); (try simp only [show (1 : Int).toNat = 1 from rfl, Nat.reduceMul, Nat.reduceEqDiff, Go.Addr.add, ↓reduceIte] at hx204_4); have qi204 : (1 < t200.length) = True := eq_true (by omega); (try rw [show ((1 : Int)).toNat = 1 from rfl] at hx204_0); (try rw [show 1 * 5 = 5 from rfl] at hx204_0); (try rw [show ((1 : Int)).toNat = 1 from rfl] at hx204_1); (try rw [show 1 * 5 = 5 from rfl] at hx204_1); (try rw [show ((1 : Int)).toNat = 1 from rfl] at hx204_2); (try rw [show 1 * 5 = 5 from rfl] at hx204_2); (try rw [show ((1 : Int)).toNat = 1 from rfl] at hx204_3); (try rw [show 1 * 5 = 5 from rfl] at hx204_3); (try rw [show ((1 : Int)).toNat = 1 from rfl] at hx204_4); (try rw [show 1 * 5 = 5 from rfl] at hx204_4); replace p204 := eq_true p204; replace q204 := eq_true q204; have p205 : 0 ≤ (2 : Int) := (by omega); have q205 : 2 < (t200.length : Int) := of_decide_eq_true bb6_21; obtain ⟨ad205, e205, hx205_0, hx205_1, hx205_2, hx205_3, hx205_4⟩ := at_T48 (Kd.R_reads' HO202.out).2.2 2 p205 q205; obtain rfl : ad203 = ad205 := (by injection e205); (try simp only [show (2 : Int).toNat = 2 from rfl, Nat.reduceMul, Nat.reduceEqDiff, Go.Addr.add, ↓reduceIte] at hx205_0); (try simp only [show (2 : Int).toNat = 2 from rfl, Nat.reduceMul, Nat.reduceEqDiff, Go.Addr.add, ↓reduceIte] at hx205_1); (try simp only [show (2 : Int).toNat = 2 from rfl, Nat.reduceMul, Nat.reduceEqDiff, Go.Addr.add, ↓reduceIte] at hx205_2); (try simp only [show (2 : Int).toNat = 2 from rfl, Nat.reduceMul, Nat.reduceEqDiff, Go.Addr.add, ↓reduceIte] at hx205_3); (try simp only [show (2 : Int).toNat = 2 from rfl, Nat.reduceMul, Nat.reduceEqDiff, Go.Addr.add, ↓reduceIte] at hx205_4); have qi205 : (2 < t200.length) = True := eq_true (by omega); (try rw [show ((2 : Int)).toNat = 2 from rfl] at hx205_0); (try rw [show 2 * 5 = 10 from rfl] at hx205_0); (try rw [show ((2 : Int)).toNat = 2 from rfl] at hx205_1); (try rw [show 2 * 5 = 10 from rfl] at hx205_1); (try rw [show ((2 : Int)).toNat = 2 from rfl] at hx205_2); (try rw [show 2 * 5 = 10 from rfl] at hx205_2); (try rw [show ((2 : Int)).toNat = 2 from rfl] at hx205_3); (try rw [show 2 * 5 = 10 from rfl] at hx205_3); (try rw [show ((2 : Int)).toNat = 2 from rfl] at hx205_4); (try rw [show 2 * 5 = 10 from rfl] at hx205_4); replace p205 := eq_true p205; replace q205 := eq_true q205) | (go_at_call 10; (with_reducible refine (orders_Jobs.calls k _ _ t200 t206 _ ?side1 ?side2 A9.out).mono ?_); (case side1 => repeat (first | exact (Kd.R_reads' HO202.out).2.2 | (with_reducible refine Kd.C_alloc ?_ _) | (with_reducible refine Kd.C_drewN ?_ _) | (with_reducible refine Kd.C_drew ?_))); (case side2 => exact (Kd.R_reads' HO202.out).2.1); rintro e w26 ⟨v207, rfl, ho0, hb⟩; replace HO195 := Aside0.mk (Kd.R_below br6_15 hb); replace HO199 := Aside0.mk (Kd.R_below br6_16 hb); replace HO202 := Aside0.mk (Kd.R_below br6_17 hb); have HO208 := Aside0.mk (Kd.R_lower ho0 bz6_9); replace BK196 := Aside0.mk (bk6_12 (g := gb196) (o := .cells #[.string (⟨#[]⟩ : ByteArray), .slice Ao18 y193.length co18, .slice none 0 0] 25 (0, 0)) hb); replace HB := Aside0.mk (bs6_3 hb); (try clear hb); (try clear hb2); (try clear hk); (try clear hi); (try clear ho0); obtain ⟨Ao27, co27, eo27⟩ := Kd.R_slice HO208.out; subst eo27; have q28 : (2 : Int) ≤ ((t200.length : Int) : Int) := of_decide_eq_true bb6_21; obtain ⟨i028, hi028, _, hsz28, _⟩ := info_parts info48; have hroom28 : t200.length ≤ co25 := (Kd.R_reads' HO202.out).2.1; have hC28 : Kd.C k48 _ (some ad203) t200.length t200 := (Kd.R_reads' HO202.out).2.2; have hcut28 := cut_to (P := Tryz.prog) 27 48 .i64 Tryz.underlying27 hi028 (some ad203) t200.length co25 2 (by omega) q28 hroom28; have hr28 := Kd.C_take (m := 2) hC28 (by omega); have hy28 : y209.length = (2 : Int).toNat := (by rw [Ny209.out, List.length_take]; omega); rw [← Ny209.out] at hr28; rw [← hy28] at hcut28; have HR212 := Aside0.mk hr28; have HC212 := Aside0.mk (show y209.length ≤ co25 from by omega); clear hr28 hC28 hroom28 hi028 hsz28; have KY28 := Aside0.mk hy28; clear hy28; have KL28 := Aside0.mk (show 2 ≤ t200.length from by omega); replace q28 := eq_true q28) | (go_at_call 10; (with_reducible refine (orders_Jobs.calls k _ _ y209 t213 _ ?side1 ?side2 A12.out).mono ?_); (case side1 => repeat (first | exact (by repeat (first | (with_reducible exact HR212.out) | (with_reducible refine Kd.C_alloc ?_ _) | (with_reducible refine Kd.C_drewN ?_ _) | (with_reducible refine Kd.C_drew ?_) | exact HR212.out)) | (with_reducible refine Kd.C_alloc ?_ _) | (with_reducible refine Kd.C_drewN ?_ _) | (with_reducible refine Kd.C_drew ?_))); (case side2 => exact HC212.out); rintro e w29 ⟨v214, rfl, ho0, hb⟩; replace HO195 := Aside0.mk (Kd.R_below br6_15 hb); replace HO199 := Aside0.mk (Kd.R_below br6_16 hb); replace HO202 := Aside0.mk (Kd.R_below br6_17 hb); have HO215 := Aside0.mk (Kd.R_lower (Kd.R_new' ho0 (Kd.R_lt br6_18)) bz6_9); replace HO208 := Aside0.mk (Kd.R_elder' br6_18 (Kd.R_base ho0) hb); replace BK196 := Aside0.mk (bk6_12 (g := gb196) (o := .cells #[.string (⟨#[]⟩ : ByteArray), .slice Ao18 y193.length co18, .slice none 0 0] 25 (0, 0)) hb); replace HR212 := Aside0.mk (Kd.C_below (by repeat (first | (with_reducible exact HR212.out) | (with_reducible refine Kd.C_alloc ?_ _) | (with_reducible refine Kd.C_drewN ?_ _) | (with_reducible refine Kd.C_drew ?_) | exact HR212.out)) hb); replace HB := Aside0.mk (bs6_3 hb); (try clear hb); (try clear hb2); (try clear hk); (try clear hi); (try clear ho0); obtain ⟨Ao30, co30, eo30⟩ := Kd.R_slice HO215.out; subst eo30; have q31 : (2 : Int) ≤ ((t200.length : Int) : Int) := of_decide_eq_true bb6_21; obtain ⟨i031, hi031, _, hsz31, _⟩ := info_parts info48; have hroom31 : t200.length ≤ co25 := (Kd.R_reads' HO202.out).2.1; have hC31 : Kd.C k48 _ (some ad203) t200.length t200 := (Kd.R_reads' HO202.out).2.2; (try clear hcut28); have hcut31 := cut_to (P := Tryz.prog) 27 48 .i64 Tryz.underlying27 hi031 (some ad203) t200.length co25 2 (by omega) q31 hroom31; have hr31 := Kd.C_take (m := 2) hC31 (by omega); have hy31 : y216.length = (2 : Int).toNat := (by rw [Ny216.out, List.length_take]; omega); rw [← Ny216.out] at hr31; rw [← hy31] at hcut31; have HR219 := Aside0.mk hr31; have HC219 := Aside0.mk (show y216.length ≤ co25 from by omega); clear hr31 hC31 hroom31 hi031 hsz31; have KY31 := Aside0.mk hy31; clear hy31; have KL31 := Aside0.mk (show 2 ≤ t200.length from by omega); replace q31 := eq_true q31) | (go_at_call 12; (with_reducible refine (orders_Timers.calls _ _ y216 t220 _ ?side1 ?side2 A15.out).mono ?_); (case side1 => repeat (first | exact (by repeat (first | (with_reducible exact HR219.out) | (with_reducible refine Kd.C_alloc ?_ _) | (with_reducible refine Kd.C_drewN ?_ _) | (with_reducible refine Kd.C_drew ?_) | exact HR219.out)) | (with_reducible refine Kd.C_alloc ?_ _) | (with_reducible refine Kd.C_drewN ?_ _) | (with_reducible refine Kd.C_drew ?_))); (case side2 => exact HC219.out); rintro e w32 ⟨v221, rfl, ho0, hb⟩; replace HO195 := Aside0.mk (Kd.R_below br6_15 hb); replace HO199 := Aside0.mk (Kd.R_below br6_16 hb); replace HO208 := Aside0.mk (Kd.R_below br6_18 hb); replace HO215 := Aside0.mk (Kd.R_below br6_19 hb); have HO222 := Aside0.mk (Kd.R_lower (Kd.R_new' ho0 (Kd.R_lt br6_17)) bz6_9); replace HO202 := Aside0.mk (Kd.R_elder' br6_17 (Kd.R_base ho0) hb); replace BK196 := Aside0.mk (bk6_12 (g := gb196) (o := .cells #[.string (⟨#[]⟩ : ByteArray), .slice Ao18 y193.length co18, .slice none 0 0] 25 (0, 0)) hb); replace HR212 := Aside0.mk (Kd.C_below (by repeat (first | (with_reducible exact HR212.out) | (with_reducible refine Kd.C_alloc ?_ _) | (with_reducible refine Kd.C_drewN ?_ _) | (with_reducible refine Kd.C_drew ?_) | exact HR212.out)) hb); replace HR219 := Aside0.mk (Kd.C_below (by repeat (first | (with_reducible exact HR219.out) | (with_reducible refine Kd.C_alloc ?_ _) | (with_reducible refine Kd.C_drewN ?_ _) | (with_reducible refine Kd.C_drew ?_) | exact HR219.out)) hb); replace HB := Aside0.mk (bs6_3 hb); (try clear hb); (try clear hb2); (try clear hk); (try clear hi); (try clear ho0); obtain ⟨Ao33, co33, eo33⟩ := Kd.R_slice HO222.out; subst eo33))
  go_ret
  exact ⟨by first | rfl | (simp [errW_none, errW_some] <;> rfl) | (simp [*, errW_none, errW_some] <;> rfl), by repeat (first | (with_reducible first | exact HB.out | apply below_alloc | apply pw_below_drewN | apply below_drew1 | refine below_set ?_ GE196.out) | exact HB.out)⟩

/-! ### remontoirkeep_Orders: function 6 -/
def remontoirkeep_Orders.l0 : Nat → List (S48) → List (S48) → Int → Option (Bool)
  | 0, _, _, _ => none
  | k + 1, x0, x1, x5 => if x5 < (x0.length : Int) then (if 0 ≤ x5 then (if x5 < (x1.length : Int) then (if (!(((rd_T48 x0 x5).f0) == ((rd_T48 x1 x5).f0)) || (!(((rd_T48 x0 x5).f1) == ((rd_T48 x1 x5).f1)) || (!(((rd_T48 x0 x5).f2) == ((rd_T48 x1 x5).f2)) || (!(((rd_T48 x0 x5).f3) == ((rd_T48 x1 x5).f3)) || (!(((rd_T48 x0 x5).f4) == ((rd_T48 x1 x5).f4))))))) = true then (some false) else (remontoirkeep_Orders.l0 k x0 x1 (wrap64 (x5 + 1)))) else (none)) else (none)) else (some true)
def remontoirkeep_Orders.f (k : Nat) (l0 : List (S48)) (l1 : List (S48)) : Option (Bool) := if (l0.length : Int) = (l1.length : Int) then (remontoirkeep_Orders.l0 k l0 l1 0) else (some false)
theorem remontoirkeep_Orders.mono_l : ∀ k, (∀ y0 y1 y2, LeO (remontoirkeep_Orders.l0 k y0 y1 y2) (remontoirkeep_Orders.l0 (k + 1) y0 y1 y2))
  | 0 => fun _ _ _ r h => by simp [remontoirkeep_Orders.l0] at h
  | k + 1 => by
    have ih0 := remontoirkeep_Orders.mono_l k
    · intro y0 y1 y2
      unfold remontoirkeep_Orders.l0
      repeat' first
      | (with_reducible exact ih0 _ _ _)
      | (with_reducible exact LeO.refl _)
      | (with_reducible exact LeO.none _)
      | (with_reducible refine LeO.ite ?_ ?_)
      | (with_reducible refine LeO.bind ?_ (fun _ => ?_))
      | exact ih0 _ _ _
      | exact LeO.none _
      | refine LeO.ite ?_ ?_
      | refine LeO.bind ?_ (fun _ => ?_)
theorem remontoirkeep_Orders.mono : ∀ a0 a1 k, LeO (remontoirkeep_Orders.f k a0 a1) (remontoirkeep_Orders.f (k + 1) a0 a1) := by
  intro a0 a1 k
  have ih0 := remontoirkeep_Orders.mono_l k
  unfold remontoirkeep_Orders.f
  repeat' first
      | (with_reducible exact ih0 _ _ _)
      | (with_reducible exact LeO.refl _)
      | (with_reducible exact LeO.none _)
      | (with_reducible refine LeO.ite ?_ ?_)
      | (with_reducible refine LeO.bind ?_ (fun _ => ?_))
      | exact ih0 _ _ _
      | exact LeO.none _
      | refine LeO.ite ?_ ?_
      | refine LeO.bind ?_ (fun _ => ?_)
set_option maxHeartbeats 8000000 in
set_option maxRecDepth 100000 in
theorem remontoirkeep_Orders.calls (k : Nat) (A0 : Option Addr) (c0 : Nat) (l0 : List (S48)) (A1 : Option Addr) (c1 : Nat) (l1 : List (S48)) (r : Bool) (w : World) (hr0 : Kd.C k48 w A0 l0.length l0) (hc0 : l0.length ≤ c0) (hr1 : Kd.C k48 w A1 l1.length l1) (hc1 : l1.length ≤ c1) (h : remontoirkeep_Orders.f k l0 l1 = some r) :
    Calls Tryz.prog 6 #[.slice A0 l0.length c0, .slice A1 l1.length c1] w fun e w' => e = .returned (.bool r) ∧ Drawn0 w w' := by
  have hu48 := Tryz.underlying48
  have HR0 := Aside0.mk hr0
  have HC0 := Aside0.mk hc0
  clear hr0 hc0
  have HR1 := Aside0.mk hr1
  have HC1 := Aside0.mk hc1
  clear hr1 hc1
  unfold remontoirkeep_Orders.f at h
  have H := h
  clear h
  by_cases c3 : (l0.length : Int) = (l1.length : Int)
  rotate_left
  · rw [if_neg c3] at H
    have c3b0 := beq_eq_false_iff_ne.mpr c3
    have c3b1 := bne_iff_ne.mpr c3
    have c3b2 : (l0.length == l1.length) = false := by first | simpa using c3 | (simp at c3 ⊢; omega)
    obtain rfl := Option.some.inj H
    go_enter Tryz.func6, Tryz.ntmps6
    go_wp2
    repeat (go_quiet (fail); try go_wp2)
    go_ret
    exact ⟨by first | rfl | (simp; done) | (simp [*]; done), by repeat (first | exact Drawn0.refl _ | apply Drawn0.step)⟩
  rw [if_pos c3] at H
  have c3b0 := beq_iff_eq.mpr c3
  have c3b1 := bne_eq_false_iff_eq.mpr c3
  have c3b2 : (l0.length == l1.length) = true := by first | simpa using c3 | (simp at c3 ⊢; omega)
  clear c3
  have H' := Aside0.mk H
  clear H
  go_enter Tryz.func6, Tryz.ntmps6
  go_wp2
  repeat (go_quiet (fail); try go_wp2)
  go_loopg [5] k (fun kq v5 w' => ∃ (x5_1 : Int), v5 = .int .i64 x5_1 ∧ Aside0 (remontoirkeep_Orders.l0 kq l0 l1 x5_1 = some r) ∧ Aside0 (kq ≤ k) ∧ Drawn0 w w')
  case atStart => exact ⟨(0), bd6_22, H', ⟨Nat.le_refl _⟩, by repeat (first | exact Drawn0.refl _ | apply Drawn0.step)⟩
  case round =>
    clear H'
    try clear c1
    try clear p2
    try clear c3
    try clear c3b0
    try clear c3b1
    try clear c3b2
    obtain ⟨x5_1, rfl, HA, HK1, ⟨m1, rfl⟩⟩ := hrel
    cases gk with
    | zero => exact absurd HA.out (by simp [remontoirkeep_Orders.l0])
    | succ k1 =>
      have H := HA.out
      clear HA
      simp only [remontoirkeep_Orders.l0] at H
      by_cases c4 : x5_1 < (l0.length : Int)
      rotate_left
      · rw [if_neg c4] at H
        have c4b0 := decide_eq_false c4
        clear c4
        obtain rfl := Option.some.inj H
        go_wp2
        repeat (go_quiet (fail); try go_wp2)
        go_ret
        exact ⟨by first | rfl | (simp; done) | (simp [*]; done), by repeat (first | exact Drawn0.refl _ | apply Drawn0.step)⟩
      rw [if_pos c4] at H
      have c4b0 := decide_eq_true c4
      clear c4
      obtain ⟨c5, H⟩ := itS H
      have c5b0 := decide_eq_true c5
      clear c5
      obtain ⟨c6, H⟩ := itS H
      have c6b0 := decide_eq_true c6
      clear c6
      by_cases c7 : (!(((rd_T48 l0 x5_1).f0) == ((rd_T48 l1 x5_1).f0)) || (!(((rd_T48 l0 x5_1).f1) == ((rd_T48 l1 x5_1).f1)) || (!(((rd_T48 l0 x5_1).f2) == ((rd_T48 l1 x5_1).f2)) || (!(((rd_T48 l0 x5_1).f3) == ((rd_T48 l1 x5_1).f3)) || (!(((rd_T48 l0 x5_1).f4) == ((rd_T48 l1 x5_1).f4))))))) = true
      · rw [if_pos c7] at H
        have c7b0 : (!(((rd_T48 l0 x5_1).f0) == ((rd_T48 l1 x5_1).f0)) || (!(((rd_T48 l0 x5_1).f1) == ((rd_T48 l1 x5_1).f1)) || (!(((rd_T48 l0 x5_1).f2) == ((rd_T48 l1 x5_1).f2)) || (!(((rd_T48 l0 x5_1).f3) == ((rd_T48 l1 x5_1).f3)) || (!(((rd_T48 l0 x5_1).f4) == ((rd_T48 l1 x5_1).f4))))))) = true := c7
        clear c7
        obtain rfl := Option.some.inj H
        have p223 : 0 ≤ (x5_1 : Int) := of_decide_eq_true bb6_21
        have q223 : x5_1 < (l0.length : Int) := of_decide_eq_true bb6_21
        obtain ⟨ad223, e223, hx223_0, hx223_1, hx223_2, hx223_3, hx223_4⟩ := at_T48 HR0.out x5_1 p223 q223
        cases e223
        replace p223 := eq_true p223
        replace q223 := eq_true q223
        have p224 : 0 ≤ (x5_1 : Int) := of_decide_eq_true bb6_21
        have q224 : x5_1 < (l1.length : Int) := of_decide_eq_true bb6_21
        obtain ⟨ad224, e224, hx224_0, hx224_1, hx224_2, hx224_3, hx224_4⟩ := at_T48 HR1.out x5_1 p224 q224
        cases e224
        replace p224 := eq_true p224
        replace q224 := eq_true q224
        go_wp2
        repeat (go_quiet (fail); try go_wp2)
        go_ret
        exact ⟨by first | rfl | (simp; done) | (simp [*]; done), by repeat (first | exact Drawn0.refl _ | apply Drawn0.step)⟩
      rw [if_neg c7] at H
      have c7b0 : (!(((rd_T48 l0 x5_1).f0) == ((rd_T48 l1 x5_1).f0)) || (!(((rd_T48 l0 x5_1).f1) == ((rd_T48 l1 x5_1).f1)) || (!(((rd_T48 l0 x5_1).f2) == ((rd_T48 l1 x5_1).f2)) || (!(((rd_T48 l0 x5_1).f3) == ((rd_T48 l1 x5_1).f3)) || (!(((rd_T48 l0 x5_1).f4) == ((rd_T48 l1 x5_1).f4))))))) = false := by simpa using c7
      clear c7
      have H' := Aside0.mk H
      clear H
      have p223 : 0 ≤ (x5_1 : Int) := of_decide_eq_true bb6_21
      have q223 : x5_1 < (l0.length : Int) := of_decide_eq_true bb6_21
      obtain ⟨ad223, e223, hx223_0, hx223_1, hx223_2, hx223_3, hx223_4⟩ := at_T48 HR0.out x5_1 p223 q223
      cases e223
      replace p223 := eq_true p223
      replace q223 := eq_true q223
      have p224 : 0 ≤ (x5_1 : Int) := of_decide_eq_true bb6_21
      have q224 : x5_1 < (l1.length : Int) := of_decide_eq_true bb6_21
      obtain ⟨ad224, e224, hx224_0, hx224_1, hx224_2, hx224_3, hx224_4⟩ := at_T48 HR1.out x5_1 p224 q224
      cases e224
      replace p224 := eq_true p224
      replace q224 := eq_true q224
      go_wp2
      repeat (go_quiet (fail); try go_wp2)
      go_roundg k1
      case measure => have := HK1.out; omega
      case rel => exact ⟨(wrap64 (x5_1 + 1)), bd6_22, H', ⟨by have := HK1.out; omega⟩, by repeat (first | exact Drawn0.refl _ | apply Drawn0.step)⟩

/-! ### remontoirref18_Is: function 16 -/
def remontoirref18_Is.f (a0_0 : ByteArray) (l0_1 : List (S41)) (l0_2 : List (S43)) (a1 : Int) : Option (Bool) := if a1 ≥ 1 then (some (decide (a1 ≤ (l0_1.length : Int)))) else (some false)
set_option maxHeartbeats 8000000 in
set_option maxRecDepth 100000 in
theorem remontoirref18_Is.calls (a0_0 : ByteArray) (A0_1 : Option Addr) (c0_1 : Nat) (l0_1 : List (S41)) (A0_2 : Option Addr) (c0_2 : Nat) (l0_2 : List (S43)) (a1 : Int) (r : Bool) (w : World) (hr0_1 : Kd.C k41 w A0_1 l0_1.length l0_1) (hc0_1 : l0_1.length ≤ c0_1) (hr0_2 : Kd.C k43 w A0_2 l0_2.length l0_2) (hc0_2 : l0_2.length ≤ c0_2) (h : remontoirref18_Is.f a0_0 l0_1 l0_2 a1 = some r) :
    Calls Tryz.prog 16 #[.agg #[.string a0_0, .slice A0_1 l0_1.length c0_1, .slice A0_2 l0_2.length c0_2], .int .i64 a1] w fun e w' => e = .returned (.bool r) ∧ Below w.heap.size w w' := by
  have hu25 := Tryz.underlying25
  have HR0_1 := Aside0.mk hr0_1
  have HC0_1 := Aside0.mk hc0_1
  clear hr0_1 hc0_1
  have HR0_2 := Aside0.mk hr0_2
  have HC0_2 := Aside0.mk hc0_2
  clear hr0_2 hc0_2
  have HB := Aside0.mk (Below.refl w.heap.size w)
  unfold remontoirref18_Is.f at h
  have H := h
  clear h
  by_cases c3 : a1 ≥ 1
  rotate_left
  · rw [if_neg c3] at H
    have c3b0 : decide (1 ≤ a1) = false := decide_eq_false c3
    clear c3
    obtain rfl := Option.some.inj H
    go_enter Tryz.func16, Tryz.ntmps16
    go_wp2_with (first | ((with_reducible refine gate_dst (N := 2) rfl ?_); (try (refine gate_guard (by rfl) ?_; dsimp only)); refine box_event ?hg (N := 2) ?hd (cs := #[.string a0_0, .slice A0_1 l0_1.length c0_1, .slice A0_2 l0_2.length c0_2]) (t := 25) ?hr ?_; (case hd => rfl); (case hg => rfl); (case hr => first | (go_simp; done) | (go_simp; rfl)); intro gb225 hg w6 hbox hb; have BK225 := Aside0.mk (hbox); have GW225 := Aside0.mk ((by rw [hg]; exact bz6_4 : w.heap.size ≤ gb225)); have GE225 := Aside0.mk ((by rw [hg]; exact bz6_4 : w.heap.size ≤ gb225)); replace HB := Aside0.mk (bs6_0 hb); clear hb hbox hg))
    go_ret
    exact ⟨by first | rfl | (simp [errW_none, errW_some] <;> rfl) | (simp [*, errW_none, errW_some] <;> rfl), by repeat (first | (with_reducible first | exact HB.out | apply below_alloc | apply pw_below_drewN | apply below_drew1 | refine below_set ?_ GE225.out) | exact HB.out)⟩
  rw [if_pos c3] at H
  have c3b0 : decide (1 ≤ a1) = true := decide_eq_true c3
  clear c3
  obtain rfl := Option.some.inj H
  go_enter Tryz.func16, Tryz.ntmps16
  go_wp2_with (first | ((with_reducible refine gate_dst (N := 2) rfl ?_); (try (refine gate_guard (by rfl) ?_; dsimp only)); refine box_event ?hg (N := 2) ?hd (cs := #[.string a0_0, .slice A0_1 l0_1.length c0_1, .slice A0_2 l0_2.length c0_2]) (t := 25) ?hr ?_; (case hd => rfl); (case hg => rfl); (case hr => first | (go_simp; done) | (go_simp; rfl)); intro gb225 hg w4 hbox hb; have BK225 := Aside0.mk (hbox); have GW225 := Aside0.mk ((by rw [hg]; exact bz6_4 : w.heap.size ≤ gb225)); have GE225 := Aside0.mk ((by rw [hg]; exact bz6_4 : w.heap.size ≤ gb225)); replace HB := Aside0.mk (bs6_0 hb); clear hb hbox hg; have hcz5_0 : w4.cell? ⟨gb225, 0, none⟩ = some (.string a0_0) := (blk_cell BK225.out 0).trans rfl; have hcz5_1 : w4.cell? ⟨gb225, 1, none⟩ = some (.slice A0_1 l0_1.length c0_1) := (blk_cell BK225.out 1).trans rfl; have hcz5_2 : w4.cell? ⟨gb225, 2, none⟩ = some (.slice A0_2 l0_2.length c0_2) := (blk_cell BK225.out 2).trans rfl; have hfz5_0 := blk_frozen BK225.out 0; have hfz5_1 := blk_frozen BK225.out 1; have hfz5_2 := blk_frozen BK225.out 2))
  go_ret
  exact ⟨by first | rfl | (simp [errW_none, errW_some] <;> rfl) | (simp [*, errW_none, errW_some] <;> rfl), by repeat (first | (with_reducible first | exact HB.out | apply below_alloc | apply pw_below_drewN | apply below_drew1 | refine below_set ?_ GE225.out) | exact HB.out)⟩

end Go.Proofs.YtflnkchpfbcgiaaGreatDoor.Q
