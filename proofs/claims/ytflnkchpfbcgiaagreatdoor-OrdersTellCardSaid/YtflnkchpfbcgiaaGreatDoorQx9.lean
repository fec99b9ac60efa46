-- Written by this session's program xprint.py (which runs the kit's print with some functions given by hand). Lean checks it.
import Derived.Test.YtflnkchpfbcgiaaGreatDoorQx0
import Derived.Test.YtflnkchpfbcgiaaGreatDoorQx8
namespace Go.Proofs.YtflnkchpfbcgiaaGreatDoor.Q
open Go.RowKit Go.Proofs.YtflnkchpfbcgiaaGreatDoorW.PrintWords Go.Proofs.YtflnkchpfbcgiaaGreatDoorW.PrintLast Go.Proofs.YtflnkchpfbcgiaaGreatDoorW.PrintMore
attribute [local go_sem] max2_int min2_int max_two min_two max_three min_three max_four min_four   -- for this text's walks alone
set_option linter.unusedVariables false
set_option linter.unusedSimpArgs false
theorem bs9_0 {w W w2 : World} (k : Below W.heap.size W w2) (h : Below w.heap.size w W := by repeat (first | (with_reducible first | exact HB.out | apply below_alloc | apply pw_below_drewN | apply below_drew1) | exact HB.out)) : Below w.heap.size w w2 := below_step h k
theorem bs9_1 {w W w2 : World} (k : Below W.heap.size W w2) (h : Below w.heap.size w W := by repeat (first | (with_reducible first | exact HB.out | apply below_alloc | apply pw_below_drewN | apply below_drew1 | refine below_set ?_ GE242.out) | exact HB.out)) : Below w.heap.size w w2 := below_step h k
theorem bz9_2 {w W : World} (h : Below w.heap.size w W := by repeat (first | (with_reducible first | exact HB.out | apply below_alloc | apply pw_below_drewN | apply below_drew1) | exact HB.out)) : w.heap.size ≤ W.heap.size := below_size h
theorem bk9_3 {w w1 : World} {g : Nat} {o : Obj} (hb : Below w.heap.size w w1) (h : w.heap[g]? = some o := by (with_reducible repeat (first | refine blk_drewN ?_ _ | refine blk_drew ?_ | refine blk_alloc ?_ _)); exact BK242.out) : w1.heap[g]? = some o := blk_below h hb


/-! ### remontoirref18_once: function 25 -/
def remontoirref18_once.f (k : Nat) (a0 : ByteArray) : Option (Int × Int × Bool) := (remontoirref02_Parse.f k a0).bind fun bt243 => (if bt243.2 = 0 then (if bt243.1 = 0 then (some (0, 0, false)) else (some (1, bt243.1, true))) else (some (0, 0, false)))
theorem remontoirref18_once.mono : ∀ a0 k, LeO (remontoirref18_once.f k a0) (remontoirref18_once.f (k + 1) a0) := by
  intro a0 k
  unfold remontoirref18_once.f
  repeat' first
      | (with_reducible exact remontoirref02_Parse.mono _ _)
      | (with_reducible exact LeO.refl _)
      | (with_reducible exact LeO.none _)
      | (with_reducible refine LeO.ite ?_ ?_)
      | (with_reducible refine LeO.bind ?_ (fun _ => ?_))
      | exact remontoirref02_Parse.mono _ _
      | exact LeO.none _
      | refine LeO.ite ?_ ?_
      | refine LeO.bind ?_ (fun _ => ?_)
set_option maxHeartbeats 8000000 in
set_option maxRecDepth 100000 in
theorem remontoirref18_once.calls (k : Nat) (a0 : ByteArray) (r1 : Int) (r2 : Int) (r3 : Bool) (w : World) (h : remontoirref18_once.f k a0 = some (r1, r2, r3)) :
    Calls Tryz.prog 25 #[.string a0] w fun e w' => e = .returned (.tuple #[.agg #[.int .i64 r1, .int .u64 r2], .bool r3]) ∧ Below w.heap.size w w' := by
  have hu51 := Tryz.underlying51
  have HB := Aside0.mk (Below.refl w.heap.size w)
  unfold remontoirref18_once.f at h
  have H := h
  clear h
  obtain ⟨⟨t243, t244⟩, A2, H⟩ := bdA H
  dsimp only at H
  by_cases c3 : t244 = 0
  rotate_left
  · rw [if_neg c3] at H
    have c3b0 := beq_eq_false_iff_ne.mpr c3
    have c3b1 := bne_iff_ne.mpr c3
    simp only [Option.some.injEq, Prod.mk.injEq] at H
    obtain ⟨rfl, rfl, rfl⟩ := H
    go_enter Tryz.func25, Tryz.ntmps25
    go_wp2_with (first | ((with_reducible refine gate_dst (N := 2) rfl ?_); refine box_event ?hg (N := 2) ?hd (cs := #[.int .i64 0, .int .u64 0]) (t := 51) ?hr ?_; (case hd => rfl); (case hg => rfl); (case hr => first | (go_simp; done) | (go_simp; rfl)); intro gb242 hg w11 hbox hb; have BK242 := Aside0.mk (hbox); have GW242 := Aside0.mk ((by rw [hg]; exact bz9_2 : w.heap.size ≤ gb242)); have GE242 := Aside0.mk ((by rw [hg]; exact bz9_2 : w.heap.size ≤ gb242)); replace HB := Aside0.mk (bs9_0 hb); clear hb hbox hg) | ((with_reducible refine gate_callee (f := 34) rfl ?_); refine goesL_ (some 8) rfl rfl Tryz.func34 (by kernel_rfl) rfl #[.string a0] rfl (by (try simp only [List.map_toArray, List.map_cons, List.map_nil]); first | done | rfl | (simp only [List.length_drop, List.length_take]; rfl)) ?_; (with_reducible refine (remontoirref02_Parse.calls k a0 t243 t244 _ A2.out).mono ?_); rintro e w12 ⟨rfl, hb⟩; refine ⟨_, rfl, ?_⟩; replace BK242 := Aside0.mk (bk9_3 (g := gb242) (o := .cells #[.int .i64 0, .int .u64 0] 51 (0, 0)) hb); replace HB := Aside0.mk (bs9_1 hb); (try clear hb); (try clear hb2); (try clear hk); (try clear hi); have hcz13_0 : w12.cell? ⟨gb242, 0, none⟩ = some (.int .i64 0) := (blk_cell BK242.out 0).trans rfl; have hcz13_1 : w12.cell? ⟨gb242, 1, none⟩ = some (.int .u64 0) := (blk_cell BK242.out 1).trans rfl; have hfz13_0 := blk_frozen BK242.out 0; have hfz13_1 := blk_frozen BK242.out 1))
    refine bodyPost_ret (results_ct rfl _ _ gb242 51 #[.int .i64 0, .int .u64 0] (0, 0) _ rfl (by (with_reducible repeat (first | refine blk_drewN ?_ _ | refine blk_drew ?_ | refine blk_alloc ?_ _)); refine blk_put (cs := #[.int .i64 0, .int .u64 0]) ?_ 1 _ rfl; (with_reducible repeat (first | refine blk_drewN ?_ _ | refine blk_drew ?_ | refine blk_alloc ?_ _)); refine blk_put (cs := #[.int .i64 0, .int .u64 0]) ?_ 0 _ rfl; (with_reducible repeat (first | refine blk_drewN ?_ _ | refine blk_drew ?_ | refine blk_alloc ?_ _)); exact BK242.out) Tryz.underlying51 rfl (by kernel_rfl)) rfl ?_
    exact ⟨by first | rfl | (simp [errW_none, errW_some] <;> rfl) | (simp [*, errW_none, errW_some] <;> rfl), by repeat (first | (with_reducible first | exact HB.out | apply below_alloc | apply pw_below_drewN | apply below_drew1 | refine below_set ?_ GE242.out) | exact HB.out)⟩
  rw [if_pos c3] at H
  have c3b0 := beq_iff_eq.mpr c3
  have c3b1 := bne_eq_false_iff_eq.mpr c3
  clear c3
  by_cases c4 : t243 = 0
  rotate_left
  · rw [if_neg c4] at H
    have c4b0 := beq_eq_false_iff_ne.mpr c4
    have c4b1 := bne_iff_ne.mpr c4
    simp only [Option.some.injEq, Prod.mk.injEq] at H
    obtain ⟨rfl, rfl, rfl⟩ := H
    go_enter Tryz.func25, Tryz.ntmps25
    go_wp2_with (first | ((with_reducible refine gate_dst (N := 2) rfl ?_); refine box_event ?hg (N := 2) ?hd (cs := #[.int .i64 0, .int .u64 0]) (t := 51) ?hr ?_; (case hd => rfl); (case hg => rfl); (case hr => first | (go_simp; done) | (go_simp; rfl)); intro gb242 hg w8 hbox hb; have BK242 := Aside0.mk (hbox); have GW242 := Aside0.mk ((by rw [hg]; exact bz9_2 : w.heap.size ≤ gb242)); have GE242 := Aside0.mk ((by rw [hg]; exact bz9_2 : w.heap.size ≤ gb242)); replace HB := Aside0.mk (bs9_0 hb); clear hb hbox hg) | ((with_reducible refine gate_callee (f := 34) rfl ?_); refine goesL_ (some 8) rfl rfl Tryz.func34 (by kernel_rfl) rfl #[.string a0] rfl (by (try simp only [List.map_toArray, List.map_cons, List.map_nil]); first | done | rfl | (simp only [List.length_drop, List.length_take]; rfl)) ?_; (with_reducible refine (remontoirref02_Parse.calls k a0 t243 t244 _ A2.out).mono ?_); rintro e w9 ⟨rfl, hb⟩; refine ⟨_, rfl, ?_⟩; replace BK242 := Aside0.mk (bk9_3 (g := gb242) (o := .cells #[.int .i64 0, .int .u64 0] 51 (0, 0)) hb); replace HB := Aside0.mk (bs9_1 hb); (try clear hb); (try clear hb2); (try clear hk); (try clear hi); have hcz10_0 : w9.cell? ⟨gb242, 0, none⟩ = some (.int .i64 0) := (blk_cell BK242.out 0).trans rfl; have hcz10_1 : w9.cell? ⟨gb242, 1, none⟩ = some (.int .u64 0) := (blk_cell BK242.out 1).trans rfl; have hfz10_0 := blk_frozen BK242.out 0; have hfz10_1 := blk_frozen BK242.out 1))
    refine bodyPost_ret (results_ct rfl _ _ gb242 51 #[.int .i64 1, .int .u64 t243] (0, 0) _ rfl (by (with_reducible repeat (first | refine blk_drewN ?_ _ | refine blk_drew ?_ | refine blk_alloc ?_ _)); refine blk_put (cs := #[.int .i64 1, .int .u64 0]) ?_ 1 _ rfl; (with_reducible repeat (first | refine blk_drewN ?_ _ | refine blk_drew ?_ | refine blk_alloc ?_ _)); refine blk_put (cs := #[.int .i64 0, .int .u64 0]) ?_ 0 _ rfl; (with_reducible repeat (first | refine blk_drewN ?_ _ | refine blk_drew ?_ | refine blk_alloc ?_ _)); exact BK242.out) Tryz.underlying51 rfl (by kernel_rfl)) rfl ?_
    exact ⟨by first | rfl | (simp [errW_none, errW_some] <;> rfl) | (simp [*, errW_none, errW_some] <;> rfl), by repeat (first | (with_reducible first | exact HB.out | apply below_alloc | apply pw_below_drewN | apply below_drew1 | refine below_set ?_ GE242.out) | exact HB.out)⟩
  rw [if_pos c4] at H
  have c4b0 := beq_iff_eq.mpr c4
  have c4b1 := bne_eq_false_iff_eq.mpr c4
  clear c4
  simp only [Option.some.injEq, Prod.mk.injEq] at H
  obtain ⟨rfl, rfl, rfl⟩ := H
  go_enter Tryz.func25, Tryz.ntmps25
  go_wp2_with (first | ((with_reducible refine gate_dst (N := 2) rfl ?_); refine box_event ?hg (N := 2) ?hd (cs := #[.int .i64 0, .int .u64 0]) (t := 51) ?hr ?_; (case hd => rfl); (case hg => rfl); (case hr => first | (go_simp; done) | (go_simp; rfl)); intro gb242 hg w5 hbox hb; have BK242 := Aside0.mk (hbox); have GW242 := Aside0.mk ((by rw [hg]; exact bz9_2 : w.heap.size ≤ gb242)); have GE242 := Aside0.mk ((by rw [hg]; exact bz9_2 : w.heap.size ≤ gb242)); replace HB := Aside0.mk (bs9_0 hb); clear hb hbox hg) | ((with_reducible refine gate_callee (f := 34) rfl ?_); refine goesL_ (some 8) rfl rfl Tryz.func34 (by kernel_rfl) rfl #[.string a0] rfl (by (try simp only [List.map_toArray, List.map_cons, List.map_nil]); first | done | rfl | (simp only [List.length_drop, List.length_take]; rfl)) ?_; (with_reducible refine (remontoirref02_Parse.calls k a0 t243 t244 _ A2.out).mono ?_); rintro e w6 ⟨rfl, hb⟩; refine ⟨_, rfl, ?_⟩; replace BK242 := Aside0.mk (bk9_3 (g := gb242) (o := .cells #[.int .i64 0, .int .u64 0] 51 (0, 0)) hb); replace HB := Aside0.mk (bs9_1 hb); (try clear hb); (try clear hb2); (try clear hk); (try clear hi); have hcz7_0 : w6.cell? ⟨gb242, 0, none⟩ = some (.int .i64 0) := (blk_cell BK242.out 0).trans rfl; have hcz7_1 : w6.cell? ⟨gb242, 1, none⟩ = some (.int .u64 0) := (blk_cell BK242.out 1).trans rfl; have hfz7_0 := blk_frozen BK242.out 0; have hfz7_1 := blk_frozen BK242.out 1))
  refine bodyPost_ret (results_ct rfl _ _ gb242 51 #[.int .i64 0, .int .u64 0] (0, 0) _ rfl (by (with_reducible repeat (first | refine blk_drewN ?_ _ | refine blk_drew ?_ | refine blk_alloc ?_ _)); refine blk_put (cs := #[.int .i64 0, .int .u64 0]) ?_ 1 _ rfl; (with_reducible repeat (first | refine blk_drewN ?_ _ | refine blk_drew ?_ | refine blk_alloc ?_ _)); refine blk_put (cs := #[.int .i64 0, .int .u64 0]) ?_ 0 _ rfl; (with_reducible repeat (first | refine blk_drewN ?_ _ | refine blk_drew ?_ | refine blk_alloc ?_ _)); exact BK242.out) Tryz.underlying51 rfl (by kernel_rfl)) rfl ?_
  exact ⟨by first | rfl | (simp [errW_none, errW_some] <;> rfl) | (simp [*, errW_none, errW_some] <;> rfl), by repeat (first | (with_reducible first | exact HB.out | apply below_alloc | apply pw_below_drewN | apply below_drew1 | refine below_set ?_ GE242.out) | exact HB.out)⟩

end Go.Proofs.YtflnkchpfbcgiaaGreatDoor.Q
