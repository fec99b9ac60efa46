-- Written by this session's program xprint.py (which runs the kit's print with some functions given by hand). Lean checks it.
import Derived.Test.YtflnkchpfbcgiaaGreatDoorQx0
import Derived.Test.YtflnkchpfbcgiaaGreatDoorQx8
namespace Go.Proofs.YtflnkchpfbcgiaaGreatDoor.Q
open Go.RowKit Go.Proofs.YtflnkchpfbcgiaaGreatDoorW.PrintWords Go.Proofs.YtflnkchpfbcgiaaGreatDoorW.PrintLast Go.Proofs.YtflnkchpfbcgiaaGreatDoorW.PrintMore
attribute [local go_sem] max2_int min2_int max_two min_two max_three min_three max_four min_four   -- for this text's walks alone
set_option linter.unusedVariables false
set_option linter.unusedSimpArgs false
theorem bs10_0 {w W w2 : World} (k : Below W.heap.size W w2) (h : Below w.heap.size w W := by repeat (first | (with_reducible first | exact HB.out | apply below_alloc | apply pw_below_drewN | apply below_drew1) | exact HB.out)) : Below w.heap.size w w2 := below_step h k
theorem bs10_1 {w W w2 : World} (k : Below W.heap.size W w2) (h : Below w.heap.size w W := by repeat (first | (with_reducible first | exact HB.out | apply below_alloc | apply pw_below_drewN | apply below_drew1 | refine below_set ?_ GE245.out) | exact HB.out)) : Below w.heap.size w w2 := below_step h k
theorem bs10_2 {w W w2 : World} (k : Below W.heap.size W w2) (h : Below w.heap.size w W := by repeat (first | (with_reducible first | exact HB.out | apply below_alloc | apply pw_below_drewN | apply below_drew1 | refine below_set ?_ GE245.out | refine below_set ?_ GE246.out) | exact HB.out)) : Below w.heap.size w w2 := below_step h k
theorem bz10_3 {w W : World} (h : Below w.heap.size w W := by repeat (first | (with_reducible first | exact HB.out | apply below_alloc | apply pw_below_drewN | apply below_drew1) | exact HB.out)) : w.heap.size ≤ W.heap.size := below_size h
theorem bz10_4 {w W : World} (h : Below w.heap.size w W := by repeat (first | (with_reducible first | exact HB.out | apply below_alloc | apply pw_below_drewN | apply below_drew1 | refine below_set ?_ GE245.out) | exact HB.out)) : w.heap.size ≤ W.heap.size := below_size h
theorem bk10_5 {w w1 : World} {g : Nat} {o : Obj} (hb : Below w.heap.size w w1) (h : w.heap[g]? = some o := by (with_reducible repeat (first | refine blk_drewN ?_ _ | refine blk_drew ?_ | refine blk_alloc ?_ _)); exact BK245.out) : w1.heap[g]? = some o := blk_below h hb
theorem bk10_6 {w w1 : World} {g : Nat} {o : Obj} (hb : Below w.heap.size w w1) (h : w.heap[g]? = some o := by (with_reducible repeat (first | refine blk_drewN ?_ _ | refine blk_drew ?_ | refine blk_alloc ?_ _)); exact BK246.out) : w1.heap[g]? = some o := blk_below h hb
theorem bb10_7 {w : World} {g : Nat} {o : Obj} (h : w.heap[g]? = some o := by (with_reducible repeat (first | refine blk_drewN ?_ _ | refine blk_drew ?_ | refine blk_alloc ?_ _)); exact BK245.out) : w.heap[g]? = some o := h
theorem bb10_8 {p : Prop} (h : p := by first | (with_reducible assumption) | assumption) : p := h
theorem bd10_9 {p : Prop} (h : p := by first | rfl | (simp; done) | (simp [*]; done)) : p := h


/-! ### remontoirref03_Parse: function 26 -/
mutual
def remontoirref03_Parse.j0 : Nat → ByteArray → Bool → Int → Int → Option (Int × Int × Int)
  | 0, _, _, _, _ => none
  | k + 1, x0, x17, x247000, x247001 => if x17 = true then (some (x247000, x247001, 2)) else (if (x0.size : Int) > 1 then (if 1 < (x0.size : Int) then (remontoirref03_Parse.j1 k x0 ((bt x0 1) == 47) x247000 x247001) else (none)) else (remontoirref03_Parse.j1 k x0 false x247000 x247001))
def remontoirref03_Parse.j1 : Nat → ByteArray → Bool → Int → Int → Option (Int × Int × Int)
  | 0, _, _, _, _ => none
  | k + 1, x0, x26, x247000, x247001 => if x26 = true then (some (x247000, x247001, 5)) else (remontoirref03_Parse.l0 k x0 1 0 x247000 x247001)
def remontoirref03_Parse.l0 : Nat → ByteArray → Int → Int → Int → Int → Option (Int × Int × Int)
  | 0, _, _, _, _, _ => none
  | k + 1, x0, x5, x6, x247000, x247001 => if x5 < (x0.size : Int) then (if 0 ≤ x5 then (if (bt x0 x5) ≥ 48 then (remontoirref03_Parse.j3 k x0 x5 x6 (decide ((bt x0 x5) ≤ 57)) x247000 x247001) else (remontoirref03_Parse.j3 k x0 x5 x6 false x247000 x247001)) else (none)) else (remontoirref03_Parse.j3 k x0 x5 x6 false x247000 x247001)
def remontoirref03_Parse.j3 : Nat → ByteArray → Int → Int → Bool → Int → Int → Option (Int × Int × Int)
  | 0, _, _, _, _, _, _ => none
  | k + 1, x0, x5, x6, x43, x247000, x247001 => if x43 = true then (if x5 < 9 then (if 0 ≤ x5 then (if x5 < (x0.size : Int) then (remontoirref03_Parse.l0 k x0 (wrap64 (x5 + 1)) (wrap64 ((wrap64 (10 * x6)) + (((bt x0 x5) - 48) % 256))) x247000 x247001) else (none)) else (none)) else (remontoirref03_Parse.l0 k x0 (wrap64 (x5 + 1)) x6 x247000 x247001)) else (if x5 = 1 then (remontoirref03_Parse.j4 k x0 x5 x6 true x247000 x247001) else (if x5 > 8 then (remontoirref03_Parse.j4 k x0 x5 x6 true x247000 x247001) else (if 1 < (x0.size : Int) then (if (bt x0 1) = 48 then (remontoirref03_Parse.j4 k x0 x5 x6 true x247000 x247001) else (if x5 = (x0.size : Int) then (remontoirref03_Parse.j4 k x0 x5 x6 true x247000 x247001) else (if 0 ≤ x5 then (if x5 < (x0.size : Int) then (remontoirref03_Parse.j4 k x0 x5 x6 ((bt x0 x5) != 47) x247000 x247001) else (none)) else (none)))) else (none))))
def remontoirref03_Parse.j4 : Nat → ByteArray → Int → Int → Bool → Int → Int → Option (Int × Int × Int)
  | 0, _, _, _, _, _, _ => none
  | k + 1, x0, x5, x6, x78, x247000, x247001 => if x78 = true then (some (x247000, x247001, 2)) else (if x6 > 1000000 then (some (x247000, x247001, 3)) else (if 0 ≤ (wrap64 (x5 + 1)) then (if (wrap64 (x5 + 1)) ≤ (x0.size : Int) then ((remontoirref02_Parse.f k (x0.extract ((wrap64 (x5 + 1)) : Int).toNat x0.size)).bind fun bt247 => (if bt247.2 = 0 then (if bt247.1 = 0 then (some (x247000, x247001, 6)) else (some (x6, bt247.1, 0))) else (some (x247000, x247001, bt247.2)))) else (none)) else (none)))
end
def remontoirref03_Parse.f (k : Nat) (a0 : ByteArray) : Option (Int × Int × Int) := if (a0.size : Int) < 1 then (remontoirref03_Parse.j0 k a0 true 0 0) else (if 0 < (a0.size : Int) then (remontoirref03_Parse.j0 k a0 ((bt a0 0) != 82) 0 0) else (none))
theorem remontoirref03_Parse.mono_l : ∀ k, (∀ y0 y1 y2 y3, LeO (remontoirref03_Parse.j0 k y0 y1 y2 y3) (remontoirref03_Parse.j0 (k + 1) y0 y1 y2 y3)) ∧ (∀ y0 y1 y2 y3, LeO (remontoirref03_Parse.j1 k y0 y1 y2 y3) (remontoirref03_Parse.j1 (k + 1) y0 y1 y2 y3)) ∧ (∀ y0 y1 y2 y3 y4, LeO (remontoirref03_Parse.l0 k y0 y1 y2 y3 y4) (remontoirref03_Parse.l0 (k + 1) y0 y1 y2 y3 y4)) ∧ (∀ y0 y1 y2 y3 y4 y5, LeO (remontoirref03_Parse.j3 k y0 y1 y2 y3 y4 y5) (remontoirref03_Parse.j3 (k + 1) y0 y1 y2 y3 y4 y5)) ∧ (∀ y0 y1 y2 y3 y4 y5, LeO (remontoirref03_Parse.j4 k y0 y1 y2 y3 y4 y5) (remontoirref03_Parse.j4 (k + 1) y0 y1 y2 y3 y4 y5))
  | 0 => ⟨fun _ _ _ _ r h => by simp [remontoirref03_Parse.j0] at h, fun _ _ _ _ r h => by simp [remontoirref03_Parse.j1] at h, fun _ _ _ _ _ r h => by simp [remontoirref03_Parse.l0] at h, fun _ _ _ _ _ _ r h => by simp [remontoirref03_Parse.j3] at h, fun _ _ _ _ _ _ r h => by simp [remontoirref03_Parse.j4] at h⟩
  | k + 1 => by
    obtain ⟨ih0, ih1, ih2, ih3, ih4⟩ := remontoirref03_Parse.mono_l k
    refine ⟨?_, ?_, ?_, ?_, ?_⟩
    · intro y0 y1 y2 y3
      unfold remontoirref03_Parse.j0
      repeat' first
      | (with_reducible exact ih0 _ _ _ _)
      | (with_reducible exact ih1 _ _ _ _)
      | (with_reducible exact ih2 _ _ _ _ _)
      | (with_reducible exact ih3 _ _ _ _ _ _)
      | (with_reducible exact ih4 _ _ _ _ _ _)
      | (with_reducible exact remontoirref02_Parse.mono _ _)
      | (with_reducible exact LeO.refl _)
      | (with_reducible exact LeO.none _)
      | (with_reducible refine LeO.ite ?_ ?_)
      | (with_reducible refine LeO.bind ?_ (fun _ => ?_))
      | exact ih0 _ _ _ _
      | exact ih1 _ _ _ _
      | exact ih2 _ _ _ _ _
      | exact ih3 _ _ _ _ _ _
      | exact ih4 _ _ _ _ _ _
      | exact remontoirref02_Parse.mono _ _
      | exact LeO.none _
      | refine LeO.ite ?_ ?_
      | refine LeO.bind ?_ (fun _ => ?_)
    · intro y0 y1 y2 y3
      unfold remontoirref03_Parse.j1
      repeat' first
      | (with_reducible exact ih0 _ _ _ _)
      | (with_reducible exact ih1 _ _ _ _)
      | (with_reducible exact ih2 _ _ _ _ _)
      | (with_reducible exact ih3 _ _ _ _ _ _)
      | (with_reducible exact ih4 _ _ _ _ _ _)
      | (with_reducible exact remontoirref02_Parse.mono _ _)
      | (with_reducible exact LeO.refl _)
      | (with_reducible exact LeO.none _)
      | (with_reducible refine LeO.ite ?_ ?_)
      | (with_reducible refine LeO.bind ?_ (fun _ => ?_))
      | exact ih0 _ _ _ _
      | exact ih1 _ _ _ _
      | exact ih2 _ _ _ _ _
      | exact ih3 _ _ _ _ _ _
      | exact ih4 _ _ _ _ _ _
      | exact remontoirref02_Parse.mono _ _
      | exact LeO.none _
      | refine LeO.ite ?_ ?_
      | refine LeO.bind ?_ (fun _ => ?_)
    · intro y0 y1 y2 y3 y4
      unfold remontoirref03_Parse.l0
      repeat' first
      | (with_reducible exact ih0 _ _ _ _)
      | (with_reducible exact ih1 _ _ _ _)
      | (with_reducible exact ih2 _ _ _ _ _)
      | (with_reducible exact ih3 _ _ _ _ _ _)
      | (with_reducible exact ih4 _ _ _ _ _ _)
      | (with_reducible exact remontoirref02_Parse.mono _ _)
      | (with_reducible exact LeO.refl _)
      | (with_reducible exact LeO.none _)
      | (with_reducible refine LeO.ite ?_ ?_)
      | (with_reducible refine LeO.bind ?_ (fun _ => ?_))
      | exact ih0 _ _ _ _
      | exact ih1 _ _ _ _
      | exact ih2 _ _ _ _ _
      | exact ih3 _ _ _ _ _ _
      | exact ih4 _ _ _ _ _ _
      | exact remontoirref02_Parse.mono _ _
      | exact LeO.none _
      | refine LeO.ite ?_ ?_
      | refine LeO.bind ?_ (fun _ => ?_)
    · intro y0 y1 y2 y3 y4 y5
      unfold remontoirref03_Parse.j3
      repeat' first
      | (with_reducible exact ih0 _ _ _ _)
      | (with_reducible exact ih1 _ _ _ _)
      | (with_reducible exact ih2 _ _ _ _ _)
      | (with_reducible exact ih3 _ _ _ _ _ _)
      | (with_reducible exact ih4 _ _ _ _ _ _)
      | (with_reducible exact remontoirref02_Parse.mono _ _)
      | (with_reducible exact LeO.refl _)
      | (with_reducible exact LeO.none _)
      | (with_reducible refine LeO.ite ?_ ?_)
      | (with_reducible refine LeO.bind ?_ (fun _ => ?_))
      | exact ih0 _ _ _ _
      | exact ih1 _ _ _ _
      | exact ih2 _ _ _ _ _
      | exact ih3 _ _ _ _ _ _
      | exact ih4 _ _ _ _ _ _
      | exact remontoirref02_Parse.mono _ _
      | exact LeO.none _
      | refine LeO.ite ?_ ?_
      | refine LeO.bind ?_ (fun _ => ?_)
    · intro y0 y1 y2 y3 y4 y5
      unfold remontoirref03_Parse.j4
      repeat' first
      | (with_reducible exact ih0 _ _ _ _)
      | (with_reducible exact ih1 _ _ _ _)
      | (with_reducible exact ih2 _ _ _ _ _)
      | (with_reducible exact ih3 _ _ _ _ _ _)
      | (with_reducible exact ih4 _ _ _ _ _ _)
      | (with_reducible exact remontoirref02_Parse.mono _ _)
      | (with_reducible exact LeO.refl _)
      | (with_reducible exact LeO.none _)
      | (with_reducible refine LeO.ite ?_ ?_)
      | (with_reducible refine LeO.bind ?_ (fun _ => ?_))
      | exact ih0 _ _ _ _
      | exact ih1 _ _ _ _
      | exact ih2 _ _ _ _ _
      | exact ih3 _ _ _ _ _ _
      | exact ih4 _ _ _ _ _ _
      | exact remontoirref02_Parse.mono _ _
      | exact LeO.none _
      | refine LeO.ite ?_ ?_
      | refine LeO.bind ?_ (fun _ => ?_)
theorem remontoirref03_Parse.mono : ∀ a0 k, LeO (remontoirref03_Parse.f k a0) (remontoirref03_Parse.f (k + 1) a0) := by
  intro a0 k
  obtain ⟨ih0, ih1, ih2, ih3, ih4⟩ := remontoirref03_Parse.mono_l k
  unfold remontoirref03_Parse.f
  repeat' first
      | (with_reducible exact ih0 _ _ _ _)
      | (with_reducible exact ih1 _ _ _ _)
      | (with_reducible exact ih2 _ _ _ _ _)
      | (with_reducible exact ih3 _ _ _ _ _ _)
      | (with_reducible exact ih4 _ _ _ _ _ _)
      | (with_reducible exact remontoirref02_Parse.mono _ _)
      | (with_reducible exact LeO.refl _)
      | (with_reducible exact LeO.none _)
      | (with_reducible refine LeO.ite ?_ ?_)
      | (with_reducible refine LeO.bind ?_ (fun _ => ?_))
      | exact ih0 _ _ _ _
      | exact ih1 _ _ _ _
      | exact ih2 _ _ _ _ _
      | exact ih3 _ _ _ _ _ _
      | exact ih4 _ _ _ _ _ _
      | exact remontoirref02_Parse.mono _ _
      | exact LeO.none _
      | refine LeO.ite ?_ ?_
      | refine LeO.bind ?_ (fun _ => ?_)
set_option maxHeartbeats 8000000 in
set_option maxRecDepth 100000 in
theorem remontoirref03_Parse.calls (k : Nat) (a0 : ByteArray) (r1 : Int) (r2 : Int) (r3 : Int) (w : World) (h : remontoirref03_Parse.f k a0 = some (r1, r2, r3)) :
    Calls Tryz.prog 26 #[.string a0] w fun e w' => e = .returned (.tuple #[.agg #[.int .i64 r1, .int .u64 r2], .int .i64 r3]) ∧ Below w.heap.size w w' := by
  have hu51 := Tryz.underlying51
  have HB := Aside0.mk (Below.refl w.heap.size w)
  unfold remontoirref03_Parse.f at h
  have H := h
  clear h
  have HC2 := Aside0.mk H
  clear H
  go_enter Tryz.func26, Tryz.ntmps26
  go_upto_region 2 with (first | ((with_reducible refine gate_dst (N := 2) rfl ?_); (try (refine gate_guard (by rfl) ?_; dsimp only)); refine box_event ?hg (N := 2) ?hd (cs := #[.int .i64 0, .int .u64 0]) (t := 51) ?hr ?_; (case hd => rfl); (case hg => rfl); (case hr => first | (go_simp; done) | (go_simp; rfl)); intro gb245 hg w3 hbox hb; have BK245 := Aside0.mk (hbox); have GW245 := Aside0.mk ((by rw [hg]; exact bz10_3 : w.heap.size ≤ gb245)); have GE245 := Aside0.mk ((by rw [hg]; exact bz10_3 : w.heap.size ≤ gb245)); replace HB := Aside0.mk (bs10_0 hb); clear hb hbox hg) | ((with_reducible refine gate_dst (N := 4) rfl ?_); (try (refine gate_guard (by rfl) ?_; dsimp only)); refine box_event ?hg (N := 4) ?hd (cs := #[.int .i64 0, .int .u64 0]) (t := 51) ?hr ?_; (case hd => rfl); (case hg => rfl); (case hr => first | (go_simp; done) | (go_simp; rfl)); intro gb246 hg w4 hbox hb; have BK246 := Aside0.mk (hbox); have GW246 := Aside0.mk ((by rw [hg]; exact bz10_4 : w.heap.size ≤ gb246)); have GE246 := Aside0.mk ((by rw [hg]; exact bz10_4 : w.heap.size ≤ gb246)); replace HB := Aside0.mk (bs10_1 hb); have NB245_246 := Aside0.mk ((by rw [hg]; exact Nat.ne_of_lt (blk_lt (g := gb245) (o := .cells #[.int .i64 0, .int .u64 0] 51 (0, 0)) bb10_7) : gb245 ≠ gb246)); have NB246_245 := Aside0.mk ((by rw [hg]; exact Nat.ne_of_gt (blk_lt (g := gb245) (o := .cells #[.int .i64 0, .int .u64 0] 51 (0, 0)) bb10_7) : gb246 ≠ gb245)); replace BK245 := Aside0.mk (bk10_5 (g := gb245) (o := .cells #[.int .i64 0, .int .u64 0] 51 (0, 0)) hb); clear hb hbox hg; have hnb5 := NB246_245.out; have hnc5 := NB245_246.out; have hcz6_0 : w4.cell? ⟨gb246, 0, none⟩ = some (.int .i64 0) := (blk_cell BK246.out 0).trans rfl; have hcz6_1 : w4.cell? ⟨gb246, 1, none⟩ = some (.int .u64 0) := (blk_cell BK246.out 1).trans rfl; have hfz6_0 := blk_frozen BK246.out 0; have hfz6_1 := blk_frozen BK246.out 1))
  (try simp only [Act.put, List.setIfInBounds_toArray, List.set_cons_zero, List.set_cons_succ])
  go_cut [17] (fun v17 wc => ∃ (kq : Nat) (x17_1 : Bool), v17 = .bool x17_1 ∧ Aside0 (remontoirref03_Parse.j0 kq a0 x17_1 0 0 = some (r1, r2, r3)) ∧ Aside0 (kq ≤ k) ∧ Aside0 (wc.heap[gb245]? = some (.cells #[.int .i64 0, .int .u64 0] 51 (0, 0))) ∧ Aside0 (wc.heap[gb246]? = some (.cells #[.int .i64 0, .int .u64 0] 51 (0, 0))) ∧ Aside0 (Below w.heap.size w wc))
  case first =>
    have H := HC2.out
    clear HC2
    by_cases c7 : (a0.size : Int) < 1
    · rw [if_pos c7] at H
      have c7b0 := decide_eq_true c7
      have c7b1 : decide (a0.size < 1) = true := decide_eq_true (by omega)
      clear c7
      (first | rw [c7b0] | (simp only [i64_w, i32_w]; rw [c7b0]) | skip)
      have H' := Aside0.mk H
      clear H
      go_wp2
      go_meet
      case rel => exact ⟨_, (true), bd10_9, H', ⟨by first | omega | exact Nat.le_refl _⟩, ⟨by (with_reducible repeat (first | refine blk_drewN ?_ _ | refine blk_drew ?_ | refine blk_alloc ?_ _)); refine blk_far ?_ NB245_246.out _; (with_reducible repeat (first | refine blk_drewN ?_ _ | refine blk_drew ?_ | refine blk_alloc ?_ _)); refine blk_far ?_ NB245_246.out _; (with_reducible repeat (first | refine blk_drewN ?_ _ | refine blk_drew ?_ | refine blk_alloc ?_ _)); exact BK245.out⟩, ⟨by (with_reducible repeat (first | refine blk_drewN ?_ _ | refine blk_drew ?_ | refine blk_alloc ?_ _)); refine blk_put (cs := #[.int .i64 0, .int .u64 0]) ?_ 1 _ rfl; (with_reducible repeat (first | refine blk_drewN ?_ _ | refine blk_drew ?_ | refine blk_alloc ?_ _)); refine blk_put (cs := #[.int .i64 0, .int .u64 0]) ?_ 0 _ rfl; (with_reducible repeat (first | refine blk_drewN ?_ _ | refine blk_drew ?_ | refine blk_alloc ?_ _)); exact BK246.out⟩, ⟨by repeat (first | (with_reducible first | exact HB.out | apply below_alloc | apply pw_below_drewN | apply below_drew1 | refine below_set ?_ GE245.out | refine below_set ?_ GE246.out) | exact HB.out)⟩⟩
    rw [if_neg c7] at H
    have c7b0 := decide_eq_false c7
    have c7b1 : decide (a0.size < 1) = false := decide_eq_false (by omega)
    clear c7
    (first | rw [c7b0] | (simp only [i64_w, i32_w]; rw [c7b0]) | skip)
    obtain ⟨c8, H⟩ := itS H
    have c8b0 := decide_eq_true c8
    have c8b1 : decide (0 < a0.size) = true := decide_eq_true (by omega)
    clear c8
    have H' := Aside0.mk H
    clear H
    have p9 : 0 ≤ (0 : Int) := (by omega)
    have q9 : 0 < a0.size := (by have : (0 : Int) < (a0.size : Int) := of_decide_eq_true bb10_8; omega)
    have hx9 : ∀ h : 0 < a0.size, ((a0[0]'h).toNat : Int) = bt a0 0 := bt_at a0 0
    clear p9
    have qi9 : (0 < (a0.size : Int)) = True := eq_true (of_decide_eq_true bb10_8)
    replace q9 := eq_true q9
    go_wp2
    go_meet
    case rel => exact ⟨_, (((bt a0 0) != 82)), bd10_9, H', ⟨by first | omega | exact Nat.le_refl _⟩, ⟨by (with_reducible repeat (first | refine blk_drewN ?_ _ | refine blk_drew ?_ | refine blk_alloc ?_ _)); refine blk_far ?_ NB245_246.out _; (with_reducible repeat (first | refine blk_drewN ?_ _ | refine blk_drew ?_ | refine blk_alloc ?_ _)); refine blk_far ?_ NB245_246.out _; (with_reducible repeat (first | refine blk_drewN ?_ _ | refine blk_drew ?_ | refine blk_alloc ?_ _)); exact BK245.out⟩, ⟨by (with_reducible repeat (first | refine blk_drewN ?_ _ | refine blk_drew ?_ | refine blk_alloc ?_ _)); refine blk_put (cs := #[.int .i64 0, .int .u64 0]) ?_ 1 _ rfl; (with_reducible repeat (first | refine blk_drewN ?_ _ | refine blk_drew ?_ | refine blk_alloc ?_ _)); refine blk_put (cs := #[.int .i64 0, .int .u64 0]) ?_ 0 _ rfl; (with_reducible repeat (first | refine blk_drewN ?_ _ | refine blk_drew ?_ | refine blk_alloc ?_ _)); exact BK246.out⟩, ⟨by repeat (first | (with_reducible first | exact HB.out | apply below_alloc | apply pw_below_drewN | apply below_drew1 | refine below_set ?_ GE245.out | refine below_set ?_ GE246.out) | exact HB.out)⟩⟩
  case rest =>
    clear HC2
    try clear c2
    try clear p2
    try clear c5
    try clear c7
    try clear c7b0
    try clear c7b1
    try clear c8
    try clear c8b0
    try clear c8b1
    try clear p9
    try clear q9
    try clear hx9
    try clear qi9
    try clear hcz6_0
    try clear hcz6_1
    try clear hfz6_0
    try clear hfz6_1
    try clear p9
    try clear q9
    obtain ⟨kq, x17_1, rfl, HA, HJ1, BK245, BK246, HB⟩ := hcut
    cases kq with
    | zero => exact absurd HA.out (by simp [remontoirref03_Parse.j0])
    | succ kj1 =>
      have H := HA.out
      clear HA
      simp only [remontoirref03_Parse.j0] at H
      by_cases c10 : x17_1 = true
      · subst c10
        rw [if_pos rfl] at H
        simp only [Option.some.injEq, Prod.mk.injEq] at H
        obtain ⟨rfl, rfl, rfl⟩ := H
        have hnb11 := NB246_245.out
        have hnc11 := NB245_246.out
        have hcz12_0 : wc.cell? ⟨gb246, 0, none⟩ = some (.int .i64 0) := (blk_cell BK246.out 0).trans rfl
        have hcz12_1 : wc.cell? ⟨gb246, 1, none⟩ = some (.int .u64 0) := (blk_cell BK246.out 1).trans rfl
        have hfz12_0 := blk_frozen BK246.out 0
        have hfz12_1 := blk_frozen BK246.out 1
        have hcz13_0 : wc.cell? ⟨gb245, 0, none⟩ = some (.int .i64 0) := (blk_cell BK245.out 0).trans rfl
        have hcz13_1 : wc.cell? ⟨gb245, 1, none⟩ = some (.int .u64 0) := (blk_cell BK245.out 1).trans rfl
        have hfz13_0 := blk_frozen BK245.out 0
        have hfz13_1 := blk_frozen BK245.out 1
        go_wp2
        refine bodyPost_ret (results_ct rfl _ _ gb245 51 #[.int .i64 0, .int .u64 0] (0, 0) _ rfl (by (with_reducible repeat (first | refine blk_drewN ?_ _ | refine blk_drew ?_ | refine blk_alloc ?_ _)); refine blk_put (cs := #[.int .i64 0, .int .u64 0]) ?_ 1 _ rfl; (with_reducible repeat (first | refine blk_drewN ?_ _ | refine blk_drew ?_ | refine blk_alloc ?_ _)); refine blk_put (cs := #[.int .i64 0, .int .u64 0]) ?_ 0 _ rfl; (with_reducible repeat (first | refine blk_drewN ?_ _ | refine blk_drew ?_ | refine blk_alloc ?_ _)); exact BK245.out) Tryz.underlying51 rfl (by kernel_rfl)) rfl ?_
        exact ⟨by first | rfl | (simp [errW_none, errW_some] <;> rfl) | (simp [*, errW_none, errW_some] <;> rfl), by repeat (first | (with_reducible first | exact HB.out | apply below_alloc | apply pw_below_drewN | apply below_drew1 | refine below_set ?_ GE245.out | refine below_set ?_ GE246.out) | exact HB.out)⟩
      replace c10 := Bool.eq_false_iff.mpr c10
      subst c10
      rw [if_neg nft] at H
      have HC14 := Aside0.mk H
      clear H
      go_upto_region 4 with (fail)
      go_cut [26] (fun v26 wc => ∃ (kq : Nat) (x26_13 : Bool), v26 = .bool x26_13 ∧ Aside0 (remontoirref03_Parse.j1 kq a0 x26_13 0 0 = some (r1, r2, r3)) ∧ Aside0 (kq ≤ kj1) ∧ Aside0 (wc.heap[gb245]? = some (.cells #[.int .i64 0, .int .u64 0] 51 (0, 0))) ∧ Aside0 (wc.heap[gb246]? = some (.cells #[.int .i64 0, .int .u64 0] 51 (0, 0))) ∧ Aside0 (Below w.heap.size w wc))
      case first =>
        have H := HC14.out
        clear HC14
        by_cases c15 : (a0.size : Int) > 1
        rotate_left
        · rw [if_neg c15] at H
          have c15b0 : decide (1 < (a0.size : Int)) = false := decide_eq_false c15
          have c15b1 : decide (1 < a0.size) = false := decide_eq_false (by omega)
          clear c15
          (first | rw [c15b0] | (simp only [i64_w, i32_w]; rw [c15b0]) | skip)
          have H' := Aside0.mk H
          clear H
          go_wp2
          go_meet
          case rel => exact ⟨_, (false), bd10_9, H', ⟨by have := HJ1.out; first | omega | exact Nat.le_refl _⟩, ⟨by (with_reducible repeat (first | refine blk_drewN ?_ _ | refine blk_drew ?_ | refine blk_alloc ?_ _)); exact BK245.out⟩, ⟨by (with_reducible repeat (first | refine blk_drewN ?_ _ | refine blk_drew ?_ | refine blk_alloc ?_ _)); exact BK246.out⟩, ⟨by repeat (first | (with_reducible first | exact HB.out | apply below_alloc | apply pw_below_drewN | apply below_drew1 | refine below_set ?_ GE245.out | refine below_set ?_ GE246.out) | exact HB.out)⟩⟩
        rw [if_pos c15] at H
        have c15b0 : decide (1 < (a0.size : Int)) = true := decide_eq_true c15
        have c15b1 : decide (1 < a0.size) = true := decide_eq_true (by omega)
        clear c15
        (first | rw [c15b0] | (simp only [i64_w, i32_w]; rw [c15b0]) | skip)
        obtain ⟨c16, H⟩ := itS H
        have c16b0 := decide_eq_true c16
        have c16b1 : decide (1 < a0.size) = true := decide_eq_true (by omega)
        clear c16
        have H' := Aside0.mk H
        clear H
        have p17 : 0 ≤ (1 : Int) := (by omega)
        have q17 : 1 < a0.size := (by have : (1 : Int) < (a0.size : Int) := of_decide_eq_true bb10_8; omega)
        have hx17 : ∀ h : 1 < a0.size, ((a0[1]'h).toNat : Int) = bt a0 1 := bt_at a0 1
        clear p17
        have qi17 : (1 < (a0.size : Int)) = True := eq_true (of_decide_eq_true bb10_8)
        replace q17 := eq_true q17
        go_wp2
        go_meet
        case rel => exact ⟨_, (((bt a0 1) == 47)), bd10_9, H', ⟨by have := HJ1.out; first | omega | exact Nat.le_refl _⟩, ⟨by (with_reducible repeat (first | refine blk_drewN ?_ _ | refine blk_drew ?_ | refine blk_alloc ?_ _)); exact BK245.out⟩, ⟨by (with_reducible repeat (first | refine blk_drewN ?_ _ | refine blk_drew ?_ | refine blk_alloc ?_ _)); exact BK246.out⟩, ⟨by repeat (first | (with_reducible first | exact HB.out | apply below_alloc | apply pw_below_drewN | apply below_drew1 | refine below_set ?_ GE245.out | refine below_set ?_ GE246.out) | exact HB.out)⟩⟩
      case rest =>
        clear HC14
        try clear c1
        try clear p1
        try clear q1
        try clear hx1
        try clear qi1
        try clear c2
        try clear p2
        try clear c5
        try clear c7
        try clear c7b0
        try clear c7b1
        try clear c8
        try clear c8b0
        try clear c8b1
        try clear p9
        try clear q9
        try clear hx9
        try clear qi9
        try clear c10
        try clear c11
        try clear c15
        try clear c15b0
        try clear c15b1
        try clear c16
        try clear c16b0
        try clear c16b1
        try clear p17
        try clear q17
        try clear hx17
        try clear qi17
        try clear hcz12_0
        try clear hcz12_1
        try clear hcz13_0
        try clear hcz13_1
        try clear hcz6_0
        try clear hcz6_1
        try clear hfz12_0
        try clear hfz12_1
        try clear hfz13_0
        try clear hfz13_1
        try clear hfz6_0
        try clear hfz6_1
        try clear p17
        try clear p2
        try clear p9
        try clear q17
        try clear q9
        obtain ⟨kq, x26_13, rfl, HA, HJ13, BK245, BK246, HB⟩ := hcut
        cases kq with
        | zero => exact absurd HA.out (by simp [remontoirref03_Parse.j1])
        | succ kj13 =>
          have H := HA.out
          clear HA
          simp only [remontoirref03_Parse.j1] at H
          by_cases c18 : x26_13 = true
          · subst c18
            rw [if_pos rfl] at H
            simp only [Option.some.injEq, Prod.mk.injEq] at H
            obtain ⟨rfl, rfl, rfl⟩ := H
            have hnb19 := NB246_245.out
            have hnc19 := NB245_246.out
            have hcz20_0 : wc.cell? ⟨gb246, 0, none⟩ = some (.int .i64 0) := (blk_cell BK246.out 0).trans rfl
            have hcz20_1 : wc.cell? ⟨gb246, 1, none⟩ = some (.int .u64 0) := (blk_cell BK246.out 1).trans rfl
            have hfz20_0 := blk_frozen BK246.out 0
            have hfz20_1 := blk_frozen BK246.out 1
            have hcz21_0 : wc.cell? ⟨gb245, 0, none⟩ = some (.int .i64 0) := (blk_cell BK245.out 0).trans rfl
            have hcz21_1 : wc.cell? ⟨gb245, 1, none⟩ = some (.int .u64 0) := (blk_cell BK245.out 1).trans rfl
            have hfz21_0 := blk_frozen BK245.out 0
            have hfz21_1 := blk_frozen BK245.out 1
            go_wp2
            refine bodyPost_ret (results_ct rfl _ _ gb245 51 #[.int .i64 0, .int .u64 0] (0, 0) _ rfl (by (with_reducible repeat (first | refine blk_drewN ?_ _ | refine blk_drew ?_ | refine blk_alloc ?_ _)); refine blk_put (cs := #[.int .i64 0, .int .u64 0]) ?_ 1 _ rfl; (with_reducible repeat (first | refine blk_drewN ?_ _ | refine blk_drew ?_ | refine blk_alloc ?_ _)); refine blk_put (cs := #[.int .i64 0, .int .u64 0]) ?_ 0 _ rfl; (with_reducible repeat (first | refine blk_drewN ?_ _ | refine blk_drew ?_ | refine blk_alloc ?_ _)); exact BK245.out) Tryz.underlying51 rfl (by kernel_rfl)) rfl ?_
            exact ⟨by first | rfl | (simp [errW_none, errW_some] <;> rfl) | (simp [*, errW_none, errW_some] <;> rfl), by repeat (first | (with_reducible first | exact HB.out | apply below_alloc | apply pw_below_drewN | apply below_drew1 | refine below_set ?_ GE245.out | refine below_set ?_ GE246.out) | exact HB.out)⟩
          replace c18 := Bool.eq_false_iff.mpr c18
          subst c18
          rw [if_neg nft] at H
          have H' := Aside0.mk H
          clear H
          go_wp2
          go_loopg [5, 6] kj13 (fun kq v5 v6 w' => ∃ (x5_3 : Int) (x6_3 : Int), v5 = .int .i64 x5_3 ∧ v6 = .int .i64 x6_3 ∧ Aside0 (remontoirref03_Parse.l0 kq a0 x5_3 x6_3 0 0 = some (r1, r2, r3)) ∧ Aside0 (kq ≤ kj13) ∧ Aside0 (w'.heap[gb245]? = some (.cells #[.int .i64 0, .int .u64 0] 51 (0, 0))) ∧ Aside0 (w'.heap[gb246]? = some (.cells #[.int .i64 0, .int .u64 0] 51 (0, 0))) ∧ Aside0 (Below w.heap.size w w'))
          case atStart => exact ⟨(1), (0), bd10_9, bd10_9, H', ⟨Nat.le_refl _⟩, ⟨by (with_reducible repeat (first | refine blk_drewN ?_ _ | refine blk_drew ?_ | refine blk_alloc ?_ _)); exact BK245.out⟩, ⟨by (with_reducible repeat (first | refine blk_drewN ?_ _ | refine blk_drew ?_ | refine blk_alloc ?_ _)); exact BK246.out⟩, ⟨by repeat (first | (with_reducible first | exact HB.out | apply below_alloc | apply pw_below_drewN | apply below_drew1 | refine below_set ?_ GE245.out | refine below_set ?_ GE246.out) | exact HB.out)⟩⟩
          case round =>
            clear H'
            try clear c1
            try clear p1
            try clear q1
            try clear hx1
            try clear qi1
            try clear c2
            try clear p2
            try clear c5
            try clear c7
            try clear c7b0
            try clear c7b1
            try clear c8
            try clear c8b0
            try clear c8b1
            try clear p9
            try clear q9
            try clear hx9
            try clear qi9
            try clear c10
            try clear c11
            try clear c15
            try clear c15b0
            try clear c15b1
            try clear c16
            try clear c16b0
            try clear c16b1
            try clear p17
            try clear q17
            try clear hx17
            try clear qi17
            try clear c18
            try clear c19
            try clear hcz12_0
            try clear hcz12_1
            try clear hcz13_0
            try clear hcz13_1
            try clear hcz20_0
            try clear hcz20_1
            try clear hcz21_0
            try clear hcz21_1
            try clear hcz6_0
            try clear hcz6_1
            try clear hfz12_0
            try clear hfz12_1
            try clear hfz13_0
            try clear hfz13_1
            try clear hfz20_0
            try clear hfz20_1
            try clear hfz21_0
            try clear hfz21_1
            try clear hfz6_0
            try clear hfz6_1
            try clear p1
            try clear p17
            try clear p2
            try clear p9
            try clear q1
            try clear q17
            try clear q9
            obtain ⟨x5_3, x6_3, rfl, rfl, HA, HK3, BK245, BK246, HB⟩ := hrel
            cases gk with
            | zero => exact absurd HA.out (by simp [remontoirref03_Parse.l0])
            | succ k3 =>
              have H := HA.out
              clear HA
              simp only [remontoirref03_Parse.l0] at H
              have HC22 := Aside0.mk H
              clear H
              go_upto_region 7 with (fail)
              go_cut [43] (fun v43 wc => ∃ (kq : Nat) (x43_21 : Bool), v43 = .bool x43_21 ∧ Aside0 (remontoirref03_Parse.j3 kq a0 x5_3 x6_3 x43_21 0 0 = some (r1, r2, r3)) ∧ Aside0 (kq ≤ k3) ∧ Aside0 (wc.heap[gb245]? = some (.cells #[.int .i64 0, .int .u64 0] 51 (0, 0))) ∧ Aside0 (wc.heap[gb246]? = some (.cells #[.int .i64 0, .int .u64 0] 51 (0, 0))) ∧ Aside0 (Below w.heap.size w wc))
              case first =>
                have H := HC22.out
                clear HC22
                by_cases c23 : x5_3 < (a0.size : Int)
                rotate_left
                · rw [if_neg c23] at H
                  have c23b0 := decide_eq_false c23
                  clear c23
                  (first | rw [c23b0] | (simp only [i64_w, i32_w]; rw [c23b0]) | skip)
                  have H' := Aside0.mk H
                  clear H
                  go_wp2
                  go_meet
                  case rel => exact ⟨_, (false), bd10_9, H', ⟨by have := HJ1.out; have := HJ13.out; have := HK3.out; first | omega | exact Nat.le_refl _⟩, ⟨by (with_reducible repeat (first | refine blk_drewN ?_ _ | refine blk_drew ?_ | refine blk_alloc ?_ _)); exact BK245.out⟩, ⟨by (with_reducible repeat (first | refine blk_drewN ?_ _ | refine blk_drew ?_ | refine blk_alloc ?_ _)); exact BK246.out⟩, ⟨by repeat (first | (with_reducible first | exact HB.out | apply below_alloc | apply pw_below_drewN | apply below_drew1 | refine below_set ?_ GE245.out | refine below_set ?_ GE246.out) | exact HB.out)⟩⟩
                rw [if_pos c23] at H
                have c23b0 := decide_eq_true c23
                clear c23
                (first | rw [c23b0] | (simp only [i64_w, i32_w]; rw [c23b0]) | skip)
                obtain ⟨c24, H⟩ := itS H
                have c24b0 := decide_eq_true c24
                clear c24
                by_cases c26 : (bt a0 x5_3) ≥ 48
                rotate_left
                · rw [if_neg c26] at H
                  have c26b0 : decide (48 ≤ (bt a0 x5_3)) = false := decide_eq_false c26
                  clear c26
                  have H' := Aside0.mk H
                  clear H
                  have p25 : 0 ≤ (x5_3 : Int) := of_decide_eq_true bb10_8
                  have q25 : x5_3 < (a0.size : Int) := of_decide_eq_true bb10_8
                  have hx25 := bt_at a0 x5_3
                  replace p25 := eq_true p25
                  replace q25 := eq_true q25
                  go_wp2
                  go_meet
                  case rel => exact ⟨_, (false), bd10_9, H', ⟨by have := HJ1.out; have := HJ13.out; have := HK3.out; first | omega | exact Nat.le_refl _⟩, ⟨by (with_reducible repeat (first | refine blk_drewN ?_ _ | refine blk_drew ?_ | refine blk_alloc ?_ _)); exact BK245.out⟩, ⟨by (with_reducible repeat (first | refine blk_drewN ?_ _ | refine blk_drew ?_ | refine blk_alloc ?_ _)); exact BK246.out⟩, ⟨by repeat (first | (with_reducible first | exact HB.out | apply below_alloc | apply pw_below_drewN | apply below_drew1 | refine below_set ?_ GE245.out | refine below_set ?_ GE246.out) | exact HB.out)⟩⟩
                rw [if_pos c26] at H
                have c26b0 : decide (48 ≤ (bt a0 x5_3)) = true := decide_eq_true c26
                clear c26
                have H' := Aside0.mk H
                clear H
                have p25 : 0 ≤ (x5_3 : Int) := of_decide_eq_true bb10_8
                have q25 : x5_3 < (a0.size : Int) := of_decide_eq_true bb10_8
                have hx25 := bt_at a0 x5_3
                replace p25 := eq_true p25
                replace q25 := eq_true q25
                have p27 : 0 ≤ (x5_3 : Int) := of_decide_eq_true bb10_8
                have q27 : x5_3 < (a0.size : Int) := of_decide_eq_true bb10_8
                have hx27 := bt_at a0 x5_3
                replace p27 := eq_true p27
                replace q27 := eq_true q27
                go_wp2
                go_meet
                case rel => exact ⟨_, (decide ((bt a0 x5_3) ≤ 57)), bd10_9, H', ⟨by have := HJ1.out; have := HJ13.out; have := HK3.out; first | omega | exact Nat.le_refl _⟩, ⟨by (with_reducible repeat (first | refine blk_drewN ?_ _ | refine blk_drew ?_ | refine blk_alloc ?_ _)); exact BK245.out⟩, ⟨by (with_reducible repeat (first | refine blk_drewN ?_ _ | refine blk_drew ?_ | refine blk_alloc ?_ _)); exact BK246.out⟩, ⟨by repeat (first | (with_reducible first | exact HB.out | apply below_alloc | apply pw_below_drewN | apply below_drew1 | refine below_set ?_ GE245.out | refine below_set ?_ GE246.out) | exact HB.out)⟩⟩
              case rest =>
                clear HC22
                try clear c1
                try clear p1
                try clear q1
                try clear hx1
                try clear qi1
                try clear c2
                try clear p2
                try clear q2
                try clear hx2
                try clear c5
                try clear c7
                try clear c7b0
                try clear c7b1
                try clear c8
                try clear c8b0
                try clear c8b1
                try clear p9
                try clear q9
                try clear hx9
                try clear qi9
                try clear c10
                try clear c11
                try clear c15
                try clear c15b0
                try clear c15b1
                try clear c16
                try clear c16b0
                try clear c16b1
                try clear p17
                try clear q17
                try clear hx17
                try clear qi17
                try clear c18
                try clear c19
                try clear c23
                try clear c23b0
                try clear c24
                try clear c24b0
                try clear p25
                try clear q25
                try clear hx25
                try clear c26
                try clear c26b0
                try clear p27
                try clear q27
                try clear hx27
                try clear hcz12_0
                try clear hcz12_1
                try clear hcz13_0
                try clear hcz13_1
                try clear hcz20_0
                try clear hcz20_1
                try clear hcz21_0
                try clear hcz21_1
                try clear hcz6_0
                try clear hcz6_1
                try clear hfz12_0
                try clear hfz12_1
                try clear hfz13_0
                try clear hfz13_1
                try clear hfz20_0
                try clear hfz20_1
                try clear hfz21_0
                try clear hfz21_1
                try clear hfz6_0
                try clear hfz6_1
                try clear p1
                try clear p17
                try clear p2
                try clear p25
                try clear p27
                try clear p9
                try clear q1
                try clear q17
                try clear q25
                try clear q27
                try clear q9
                obtain ⟨kq, x43_21, rfl, HA, HJ21, BK245, BK246, HB⟩ := hcut
                cases kq with
                | zero => exact absurd HA.out (by simp [remontoirref03_Parse.j3])
                | succ kj21 =>
                  have H := HA.out
                  clear HA
                  simp only [remontoirref03_Parse.j3] at H
                  by_cases c28 : x43_21 = true
                  · subst c28
                    rw [if_pos rfl] at H
                    by_cases c29 : x5_3 < 9
                    rotate_left
                    · rw [if_neg c29] at H
                      have c29b0 := decide_eq_false c29
                      clear c29
                      have H' := Aside0.mk H
                      clear H
                      go_wp2
                      go_roundg kj21
                      case measure => have := HJ1.out; have := HJ13.out; have := HK3.out; have := HJ21.out; omega
                      case rel => exact ⟨(wrap64 (x5_3 + 1)), (x6_3), bd10_9, bd10_9, H', ⟨by have := HJ1.out; have := HJ13.out; have := HK3.out; have := HJ21.out; omega⟩, ⟨by (with_reducible repeat (first | refine blk_drewN ?_ _ | refine blk_drew ?_ | refine blk_alloc ?_ _)); exact BK245.out⟩, ⟨by (with_reducible repeat (first | refine blk_drewN ?_ _ | refine blk_drew ?_ | refine blk_alloc ?_ _)); exact BK246.out⟩, ⟨by repeat (first | (with_reducible first | exact HB.out | apply below_alloc | apply pw_below_drewN | apply below_drew1 | refine below_set ?_ GE245.out | refine below_set ?_ GE246.out) | exact HB.out)⟩⟩
                    rw [if_pos c29] at H
                    have c29b0 := decide_eq_true c29
                    clear c29
                    obtain ⟨c30, H⟩ := itS H
                    have c30b0 := decide_eq_true c30
                    clear c30
                    obtain ⟨c31, H⟩ := itS H
                    have c31b0 := decide_eq_true c31
                    clear c31
                    have H' := Aside0.mk H
                    clear H
                    have p32 : 0 ≤ (x5_3 : Int) := of_decide_eq_true bb10_8
                    have q32 : x5_3 < (a0.size : Int) := of_decide_eq_true bb10_8
                    have hx32 := bt_at a0 x5_3
                    replace p32 := eq_true p32
                    replace q32 := eq_true q32
                    go_wp2
                    go_roundg kj21
                    case measure => have := HJ1.out; have := HJ13.out; have := HK3.out; have := HJ21.out; omega
                    case rel => exact ⟨(wrap64 (x5_3 + 1)), (wrap64 ((wrap64 (10 * x6_3)) + (((bt a0 x5_3) - 48) % 256))), bd10_9, bd10_9, H', ⟨by have := HJ1.out; have := HJ13.out; have := HK3.out; have := HJ21.out; omega⟩, ⟨by (with_reducible repeat (first | refine blk_drewN ?_ _ | refine blk_drew ?_ | refine blk_alloc ?_ _)); exact BK245.out⟩, ⟨by (with_reducible repeat (first | refine blk_drewN ?_ _ | refine blk_drew ?_ | refine blk_alloc ?_ _)); exact BK246.out⟩, ⟨by repeat (first | (with_reducible first | exact HB.out | apply below_alloc | apply pw_below_drewN | apply below_drew1 | refine below_set ?_ GE245.out | refine below_set ?_ GE246.out) | exact HB.out)⟩⟩
                  replace c28 := Bool.eq_false_iff.mpr c28
                  subst c28
                  rw [if_neg nft] at H
                  have HC33 := Aside0.mk H
                  clear H
                  go_upto_region 11 with (fail)
                  go_cut [78] (fun v78 wc => ∃ (kq : Nat) (x78_32 : Bool), v78 = .bool x78_32 ∧ Aside0 (remontoirref03_Parse.j4 kq a0 x5_3 x6_3 x78_32 0 0 = some (r1, r2, r3)) ∧ Aside0 (kq ≤ kj21) ∧ Aside0 (wc.heap[gb245]? = some (.cells #[.int .i64 0, .int .u64 0] 51 (0, 0))) ∧ Aside0 (wc.heap[gb246]? = some (.cells #[.int .i64 0, .int .u64 0] 51 (0, 0))) ∧ Aside0 (Below w.heap.size w wc))
                  case first =>
                    have H := HC33.out
                    clear HC33
                    by_cases c34 : x5_3 = 1
                    · rw [if_pos c34] at H
                      have c34b0 := beq_iff_eq.mpr c34
                      have c34b1 := bne_eq_false_iff_eq.mpr c34
                      clear c34
                      (first | rw [c34b0] | (simp only [i64_w, i32_w]; rw [c34b0]) | skip)
                      have H' := Aside0.mk H
                      clear H
                      go_wp2
                      go_meet
                      case rel => exact ⟨_, (true), bd10_9, H', ⟨by have := HJ1.out; have := HJ13.out; have := HK3.out; have := HJ21.out; first | omega | exact Nat.le_refl _⟩, ⟨by (with_reducible repeat (first | refine blk_drewN ?_ _ | refine blk_drew ?_ | refine blk_alloc ?_ _)); exact BK245.out⟩, ⟨by (with_reducible repeat (first | refine blk_drewN ?_ _ | refine blk_drew ?_ | refine blk_alloc ?_ _)); exact BK246.out⟩, ⟨by repeat (first | (with_reducible first | exact HB.out | apply below_alloc | apply pw_below_drewN | apply below_drew1 | refine below_set ?_ GE245.out | refine below_set ?_ GE246.out) | exact HB.out)⟩⟩
                    rw [if_neg c34] at H
                    have c34b0 := beq_eq_false_iff_ne.mpr c34
                    have c34b1 := bne_iff_ne.mpr c34
                    (first | rw [c34b0] | (simp only [i64_w, i32_w]; rw [c34b0]) | skip)
                    by_cases c35 : x5_3 > 8
                    · rw [if_pos c35] at H
                      have c35b0 : decide (8 < x5_3) = true := decide_eq_true c35
                      clear c35
                      have H' := Aside0.mk H
                      clear H
                      go_wp2
                      go_meet
                      case rel => exact ⟨_, (true), bd10_9, H', ⟨by have := HJ1.out; have := HJ13.out; have := HK3.out; have := HJ21.out; first | omega | exact Nat.le_refl _⟩, ⟨by (with_reducible repeat (first | refine blk_drewN ?_ _ | refine blk_drew ?_ | refine blk_alloc ?_ _)); exact BK245.out⟩, ⟨by (with_reducible repeat (first | refine blk_drewN ?_ _ | refine blk_drew ?_ | refine blk_alloc ?_ _)); exact BK246.out⟩, ⟨by repeat (first | (with_reducible first | exact HB.out | apply below_alloc | apply pw_below_drewN | apply below_drew1 | refine below_set ?_ GE245.out | refine below_set ?_ GE246.out) | exact HB.out)⟩⟩
                    rw [if_neg c35] at H
                    have c35b0 : decide (8 < x5_3) = false := decide_eq_false c35
                    clear c35
                    obtain ⟨c36, H⟩ := itS H
                    have c36b0 := decide_eq_true c36
                    have c36b1 : decide (1 < a0.size) = true := decide_eq_true (by omega)
                    clear c36
                    by_cases c38 : (bt a0 1) = 48
                    · rw [if_pos c38] at H
                      have c38b0 := beq_iff_eq.mpr c38
                      have c38b1 := bne_eq_false_iff_eq.mpr c38
                      clear c38
                      have H' := Aside0.mk H
                      clear H
                      have p37 : 0 ≤ (1 : Int) := (by omega)
                      have q37 : 1 < a0.size := (by have : (1 : Int) < (a0.size : Int) := of_decide_eq_true bb10_8; omega)
                      have hx37 : ∀ h : 1 < a0.size, ((a0[1]'h).toNat : Int) = bt a0 1 := bt_at a0 1
                      clear p37
                      have qi37 : (1 < (a0.size : Int)) = True := eq_true (of_decide_eq_true bb10_8)
                      replace q37 := eq_true q37
                      go_wp2
                      go_meet
                      case rel => exact ⟨_, (true), bd10_9, H', ⟨by have := HJ1.out; have := HJ13.out; have := HK3.out; have := HJ21.out; first | omega | exact Nat.le_refl _⟩, ⟨by (with_reducible repeat (first | refine blk_drewN ?_ _ | refine blk_drew ?_ | refine blk_alloc ?_ _)); exact BK245.out⟩, ⟨by (with_reducible repeat (first | refine blk_drewN ?_ _ | refine blk_drew ?_ | refine blk_alloc ?_ _)); exact BK246.out⟩, ⟨by repeat (first | (with_reducible first | exact HB.out | apply below_alloc | apply pw_below_drewN | apply below_drew1 | refine below_set ?_ GE245.out | refine below_set ?_ GE246.out) | exact HB.out)⟩⟩
                    rw [if_neg c38] at H
                    have c38b0 := beq_eq_false_iff_ne.mpr c38
                    have c38b1 := bne_iff_ne.mpr c38
                    by_cases c39 : x5_3 = (a0.size : Int)
                    · rw [if_pos c39] at H
                      have c39b0 := beq_iff_eq.mpr c39
                      have c39b1 := bne_eq_false_iff_eq.mpr c39
                      clear c39
                      have H' := Aside0.mk H
                      clear H
                      have p37 : 0 ≤ (1 : Int) := (by omega)
                      have q37 : 1 < a0.size := (by have : (1 : Int) < (a0.size : Int) := of_decide_eq_true bb10_8; omega)
                      have hx37 : ∀ h : 1 < a0.size, ((a0[1]'h).toNat : Int) = bt a0 1 := bt_at a0 1
                      clear p37
                      have qi37 : (1 < (a0.size : Int)) = True := eq_true (of_decide_eq_true bb10_8)
                      replace q37 := eq_true q37
                      go_wp2
                      go_meet
                      case rel => exact ⟨_, (true), bd10_9, H', ⟨by have := HJ1.out; have := HJ13.out; have := HK3.out; have := HJ21.out; first | omega | exact Nat.le_refl _⟩, ⟨by (with_reducible repeat (first | refine blk_drewN ?_ _ | refine blk_drew ?_ | refine blk_alloc ?_ _)); exact BK245.out⟩, ⟨by (with_reducible repeat (first | refine blk_drewN ?_ _ | refine blk_drew ?_ | refine blk_alloc ?_ _)); exact BK246.out⟩, ⟨by repeat (first | (with_reducible first | exact HB.out | apply below_alloc | apply pw_below_drewN | apply below_drew1 | refine below_set ?_ GE245.out | refine below_set ?_ GE246.out) | exact HB.out)⟩⟩
                    rw [if_neg c39] at H
                    have c39b0 := beq_eq_false_iff_ne.mpr c39
                    have c39b1 := bne_iff_ne.mpr c39
                    obtain ⟨c40, H⟩ := itS H
                    have c40b0 := decide_eq_true c40
                    clear c40
                    obtain ⟨c41, H⟩ := itS H
                    have c41b0 := decide_eq_true c41
                    clear c41
                    have H' := Aside0.mk H
                    clear H
                    have p37 : 0 ≤ (1 : Int) := (by omega)
                    have q37 : 1 < a0.size := (by have : (1 : Int) < (a0.size : Int) := of_decide_eq_true bb10_8; omega)
                    have hx37 : ∀ h : 1 < a0.size, ((a0[1]'h).toNat : Int) = bt a0 1 := bt_at a0 1
                    clear p37
                    have qi37 : (1 < (a0.size : Int)) = True := eq_true (of_decide_eq_true bb10_8)
                    replace q37 := eq_true q37
                    have p42 : 0 ≤ (x5_3 : Int) := of_decide_eq_true bb10_8
                    have q42 : x5_3 < (a0.size : Int) := of_decide_eq_true bb10_8
                    have hx42 := bt_at a0 x5_3
                    replace p42 := eq_true p42
                    replace q42 := eq_true q42
                    go_wp2
                    go_meet
                    case rel => exact ⟨_, (((bt a0 x5_3) != 47)), bd10_9, H', ⟨by have := HJ1.out; have := HJ13.out; have := HK3.out; have := HJ21.out; first | omega | exact Nat.le_refl _⟩, ⟨by (with_reducible repeat (first | refine blk_drewN ?_ _ | refine blk_drew ?_ | refine blk_alloc ?_ _)); exact BK245.out⟩, ⟨by (with_reducible repeat (first | refine blk_drewN ?_ _ | refine blk_drew ?_ | refine blk_alloc ?_ _)); exact BK246.out⟩, ⟨by repeat (first | (with_reducible first | exact HB.out | apply below_alloc | apply pw_below_drewN | apply below_drew1 | refine below_set ?_ GE245.out | refine below_set ?_ GE246.out) | exact HB.out)⟩⟩
                  case rest =>
                    clear HC33
                    try clear c1
                    try clear p1
                    try clear q1
                    try clear hx1
                    try clear qi1
                    try clear c2
                    try clear p2
                    try clear q2
                    try clear hx2
                    try clear c3
                    try clear p3
                    try clear q3
                    try clear hx3
                    try clear qi3
                    try clear c4
                    try clear p4
                    try clear q4
                    try clear hx4
                    try clear c5
                    try clear p6
                    try clear c7
                    try clear c7b0
                    try clear c7b1
                    try clear c8
                    try clear c8b0
                    try clear c8b1
                    try clear p9
                    try clear q9
                    try clear hx9
                    try clear qi9
                    try clear c10
                    try clear c11
                    try clear c15
                    try clear c15b0
                    try clear c15b1
                    try clear c16
                    try clear c16b0
                    try clear c16b1
                    try clear p17
                    try clear q17
                    try clear hx17
                    try clear qi17
                    try clear c18
                    try clear c19
                    try clear c23
                    try clear c23b0
                    try clear c24
                    try clear c24b0
                    try clear p25
                    try clear q25
                    try clear hx25
                    try clear c26
                    try clear c26b0
                    try clear p27
                    try clear q27
                    try clear hx27
                    try clear c28
                    try clear c29
                    try clear c29b0
                    try clear c30
                    try clear c30b0
                    try clear c31
                    try clear c31b0
                    try clear p32
                    try clear q32
                    try clear hx32
                    try clear c34
                    try clear c34b0
                    try clear c34b1
                    try clear c35
                    try clear c35b0
                    try clear c36
                    try clear c36b0
                    try clear c36b1
                    try clear p37
                    try clear q37
                    try clear hx37
                    try clear qi37
                    try clear c38
                    try clear c38b0
                    try clear c38b1
                    try clear c39
                    try clear c39b0
                    try clear c39b1
                    try clear c40
                    try clear c40b0
                    try clear c41
                    try clear c41b0
                    try clear p42
                    try clear q42
                    try clear hx42
                    try clear hcz12_0
                    try clear hcz12_1
                    try clear hcz13_0
                    try clear hcz13_1
                    try clear hcz20_0
                    try clear hcz20_1
                    try clear hcz21_0
                    try clear hcz21_1
                    try clear hcz6_0
                    try clear hcz6_1
                    try clear hfz12_0
                    try clear hfz12_1
                    try clear hfz13_0
                    try clear hfz13_1
                    try clear hfz20_0
                    try clear hfz20_1
                    try clear hfz21_0
                    try clear hfz21_1
                    try clear hfz6_0
                    try clear hfz6_1
                    try clear p1
                    try clear p17
                    try clear p2
                    try clear p25
                    try clear p27
                    try clear p32
                    try clear p37
                    try clear p42
                    try clear p9
                    try clear q1
                    try clear q17
                    try clear q2
                    try clear q25
                    try clear q27
                    try clear q32
                    try clear q37
                    try clear q42
                    try clear q9
                    obtain ⟨kq, x78_32, rfl, HA, HJ32, BK245, BK246, HB⟩ := hcut
                    cases kq with
                    | zero => exact absurd HA.out (by simp [remontoirref03_Parse.j4])
                    | succ kj32 =>
                      have H := HA.out
                      clear HA
                      simp only [remontoirref03_Parse.j4] at H
                      by_cases c43 : x78_32 = true
                      · subst c43
                        rw [if_pos rfl] at H
                        simp only [Option.some.injEq, Prod.mk.injEq] at H
                        obtain ⟨rfl, rfl, rfl⟩ := H
                        have hnb44 := NB246_245.out
                        have hnc44 := NB245_246.out
                        have hcz45_0 : wc.cell? ⟨gb246, 0, none⟩ = some (.int .i64 0) := (blk_cell BK246.out 0).trans rfl
                        have hcz45_1 : wc.cell? ⟨gb246, 1, none⟩ = some (.int .u64 0) := (blk_cell BK246.out 1).trans rfl
                        have hfz45_0 := blk_frozen BK246.out 0
                        have hfz45_1 := blk_frozen BK246.out 1
                        have hcz46_0 : wc.cell? ⟨gb245, 0, none⟩ = some (.int .i64 0) := (blk_cell BK245.out 0).trans rfl
                        have hcz46_1 : wc.cell? ⟨gb245, 1, none⟩ = some (.int .u64 0) := (blk_cell BK245.out 1).trans rfl
                        have hfz46_0 := blk_frozen BK245.out 0
                        have hfz46_1 := blk_frozen BK245.out 1
                        go_wp2
                        refine bodyPost_ret (results_ct rfl _ _ gb245 51 #[.int .i64 0, .int .u64 0] (0, 0) _ rfl (by (with_reducible repeat (first | refine blk_drewN ?_ _ | refine blk_drew ?_ | refine blk_alloc ?_ _)); refine blk_put (cs := #[.int .i64 0, .int .u64 0]) ?_ 1 _ rfl; (with_reducible repeat (first | refine blk_drewN ?_ _ | refine blk_drew ?_ | refine blk_alloc ?_ _)); refine blk_put (cs := #[.int .i64 0, .int .u64 0]) ?_ 0 _ rfl; (with_reducible repeat (first | refine blk_drewN ?_ _ | refine blk_drew ?_ | refine blk_alloc ?_ _)); exact BK245.out) Tryz.underlying51 rfl (by kernel_rfl)) rfl ?_
                        exact ⟨by first | rfl | (simp [errW_none, errW_some] <;> rfl) | (simp [*, errW_none, errW_some] <;> rfl), by repeat (first | (with_reducible first | exact HB.out | apply below_alloc | apply pw_below_drewN | apply below_drew1 | refine below_set ?_ GE245.out | refine below_set ?_ GE246.out) | exact HB.out)⟩
                      replace c43 := Bool.eq_false_iff.mpr c43
                      subst c43
                      rw [if_neg nft] at H
                      by_cases c47 : x6_3 > 1000000
                      · rw [if_pos c47] at H
                        have c47b0 : decide (1000000 < x6_3) = true := decide_eq_true c47
                        clear c47
                        simp only [Option.some.injEq, Prod.mk.injEq] at H
                        obtain ⟨rfl, rfl, rfl⟩ := H
                        have hnb48 := NB246_245.out
                        have hnc48 := NB245_246.out
                        have hcz49_0 : wc.cell? ⟨gb246, 0, none⟩ = some (.int .i64 0) := (blk_cell BK246.out 0).trans rfl
                        have hcz49_1 : wc.cell? ⟨gb246, 1, none⟩ = some (.int .u64 0) := (blk_cell BK246.out 1).trans rfl
                        have hfz49_0 := blk_frozen BK246.out 0
                        have hfz49_1 := blk_frozen BK246.out 1
                        have hcz50_0 : wc.cell? ⟨gb245, 0, none⟩ = some (.int .i64 0) := (blk_cell BK245.out 0).trans rfl
                        have hcz50_1 : wc.cell? ⟨gb245, 1, none⟩ = some (.int .u64 0) := (blk_cell BK245.out 1).trans rfl
                        have hfz50_0 := blk_frozen BK245.out 0
                        have hfz50_1 := blk_frozen BK245.out 1
                        go_wp2
                        refine bodyPost_ret (results_ct rfl _ _ gb245 51 #[.int .i64 0, .int .u64 0] (0, 0) _ rfl (by (with_reducible repeat (first | refine blk_drewN ?_ _ | refine blk_drew ?_ | refine blk_alloc ?_ _)); refine blk_put (cs := #[.int .i64 0, .int .u64 0]) ?_ 1 _ rfl; (with_reducible repeat (first | refine blk_drewN ?_ _ | refine blk_drew ?_ | refine blk_alloc ?_ _)); refine blk_put (cs := #[.int .i64 0, .int .u64 0]) ?_ 0 _ rfl; (with_reducible repeat (first | refine blk_drewN ?_ _ | refine blk_drew ?_ | refine blk_alloc ?_ _)); exact BK245.out) Tryz.underlying51 rfl (by kernel_rfl)) rfl ?_
                        exact ⟨by first | rfl | (simp [errW_none, errW_some] <;> rfl) | (simp [*, errW_none, errW_some] <;> rfl), by repeat (first | (with_reducible first | exact HB.out | apply below_alloc | apply pw_below_drewN | apply below_drew1 | refine below_set ?_ GE245.out | refine below_set ?_ GE246.out) | exact HB.out)⟩
                      rw [if_neg c47] at H
                      have c47b0 : decide (1000000 < x6_3) = false := decide_eq_false c47
                      clear c47
                      obtain ⟨ji51, hji51⟩ : ∃ j_ : Int, (wrap64 (x5_3 + 1)) = j_ := ⟨_, rfl⟩
                      replace H : (if 0 ≤ (ji51) then (if (ji51) ≤ (a0.size : Int) then ((remontoirref02_Parse.f kj32 (a0.extract ((ji51) : Int).toNat a0.size)).bind fun bt247 => (if bt247.2 = 0 then (if bt247.1 = 0 then (some (0, 0, 6)) else (some (x6_3, bt247.1, 0))) else (some (0, 0, bt247.2)))) else (none)) else (none)) = some (r1, r2, r3) := by first | (rw [hji51] at H; exact H) | (simp only [hji51] at H ⊢; exact H)
                      have hji51w : (IntKind.i64.wrap (x5_3 + 1)) = ji51 := (i64_w _).trans hji51
                      obtain ⟨c52b0, c52b1, H⟩ := itF H
                      obtain ⟨c53b0, c53b1, H⟩ := itF H
                      obtain ⟨⟨t247, t248⟩, A54, H⟩ := bdA H
                      dsimp only at H
                      by_cases c55 : t248 = 0
                      rotate_left
                      · rw [if_neg c55] at H
                        have c55b0 := beq_eq_false_iff_ne.mpr c55
                        have c55b1 := bne_iff_ne.mpr c55
                        simp only [Option.some.injEq, Prod.mk.injEq] at H
                        obtain ⟨rfl, rfl, rfl⟩ := H
                        go_wp2_with (first | ((with_reducible refine gate_callee (f := 34) rfl ?_); refine goesL_ (some 88) rfl rfl Tryz.func34 (by kernel_rfl) rfl #[.string (a0.extract ((ji51) : Int).toNat a0.size)] rfl (by (try simp only [List.map_toArray, List.map_cons, List.map_nil]); first | done | (simp only [hji51]; rfl) | rfl | (simp only [List.length_drop, List.length_take]; rfl)) ?_; (with_reducible refine (remontoirref02_Parse.calls kj32 (a0.extract ((ji51) : Int).toNat a0.size) t247 t248 _ A54.out).mono ?_); rintro e w64 ⟨rfl, hb⟩; refine ⟨_, rfl, ?_⟩; replace BK245 := Aside0.mk (bk10_5 (g := gb245) (o := .cells #[.int .i64 0, .int .u64 0] 51 (0, 0)) hb); replace BK246 := Aside0.mk (bk10_6 (g := gb246) (o := .cells #[.int .i64 0, .int .u64 0] 51 (0, 0)) hb); replace HB := Aside0.mk (bs10_2 hb); (try clear hb); (try clear hb2); (try clear hk); (try clear hi); have hnb65 := NB246_245.out; have hnc65 := NB245_246.out; have hcz66_0 : w64.cell? ⟨gb246, 0, none⟩ = some (.int .i64 0) := (blk_cell BK246.out 0).trans rfl; have hcz66_1 : w64.cell? ⟨gb246, 1, none⟩ = some (.int .u64 0) := (blk_cell BK246.out 1).trans rfl; have hfz66_0 := blk_frozen BK246.out 0; have hfz66_1 := blk_frozen BK246.out 1; have hcz67_0 : w64.cell? ⟨gb245, 0, none⟩ = some (.int .i64 0) := (blk_cell BK245.out 0).trans rfl; have hcz67_1 : w64.cell? ⟨gb245, 1, none⟩ = some (.int .u64 0) := (blk_cell BK245.out 1).trans rfl; have hfz67_0 := blk_frozen BK245.out 0; have hfz67_1 := blk_frozen BK245.out 1))
                        refine bodyPost_ret (results_ct rfl _ _ gb245 51 #[.int .i64 0, .int .u64 0] (0, 0) _ rfl (by (with_reducible repeat (first | refine blk_drewN ?_ _ | refine blk_drew ?_ | refine blk_alloc ?_ _)); refine blk_put (cs := #[.int .i64 0, .int .u64 0]) ?_ 1 _ rfl; (with_reducible repeat (first | refine blk_drewN ?_ _ | refine blk_drew ?_ | refine blk_alloc ?_ _)); refine blk_put (cs := #[.int .i64 0, .int .u64 0]) ?_ 0 _ rfl; (with_reducible repeat (first | refine blk_drewN ?_ _ | refine blk_drew ?_ | refine blk_alloc ?_ _)); exact BK245.out) Tryz.underlying51 rfl (by kernel_rfl)) rfl ?_
                        exact ⟨by first | rfl | (simp [errW_none, errW_some] <;> rfl) | (simp only [← hji51]; first | rfl | (simp [errW_none, errW_some] <;> rfl)) | (simp [*, errW_none, errW_some] <;> rfl), by repeat (first | (with_reducible first | exact HB.out | apply below_alloc | apply pw_below_drewN | apply below_drew1 | refine below_set ?_ GE245.out | refine below_set ?_ GE246.out) | exact HB.out)⟩
                      rw [if_pos c55] at H
                      have c55b0 := beq_iff_eq.mpr c55
                      have c55b1 := bne_eq_false_iff_eq.mpr c55
                      clear c55
                      by_cases c56 : t247 = 0
                      rotate_left
                      · rw [if_neg c56] at H
                        have c56b0 := beq_eq_false_iff_ne.mpr c56
                        have c56b1 := bne_iff_ne.mpr c56
                        simp only [Option.some.injEq, Prod.mk.injEq] at H
                        obtain ⟨rfl, rfl, rfl⟩ := H
                        go_wp2_with (first | ((with_reducible refine gate_callee (f := 34) rfl ?_); refine goesL_ (some 88) rfl rfl Tryz.func34 (by kernel_rfl) rfl #[.string (a0.extract ((ji51) : Int).toNat a0.size)] rfl (by (try simp only [List.map_toArray, List.map_cons, List.map_nil]); first | done | (simp only [hji51]; rfl) | rfl | (simp only [List.length_drop, List.length_take]; rfl)) ?_; (with_reducible refine (remontoirref02_Parse.calls kj32 (a0.extract ((ji51) : Int).toNat a0.size) t247 t248 _ A54.out).mono ?_); rintro e w61 ⟨rfl, hb⟩; refine ⟨_, rfl, ?_⟩; replace BK245 := Aside0.mk (bk10_5 (g := gb245) (o := .cells #[.int .i64 0, .int .u64 0] 51 (0, 0)) hb); replace BK246 := Aside0.mk (bk10_6 (g := gb246) (o := .cells #[.int .i64 0, .int .u64 0] 51 (0, 0)) hb); replace HB := Aside0.mk (bs10_2 hb); (try clear hb); (try clear hb2); (try clear hk); (try clear hi); have hnb62 := NB245_246.out; have hnc62 := NB246_245.out; have hcz63_0 : w61.cell? ⟨gb245, 0, none⟩ = some (.int .i64 0) := (blk_cell BK245.out 0).trans rfl; have hcz63_1 : w61.cell? ⟨gb245, 1, none⟩ = some (.int .u64 0) := (blk_cell BK245.out 1).trans rfl; have hfz63_0 := blk_frozen BK245.out 0; have hfz63_1 := blk_frozen BK245.out 1))
                        refine bodyPost_ret (results_ct rfl _ _ gb245 51 #[.int .i64 x6_3, .int .u64 t247] (0, 0) _ rfl (by (with_reducible repeat (first | refine blk_drewN ?_ _ | refine blk_drew ?_ | refine blk_alloc ?_ _)); refine blk_put (cs := #[.int .i64 x6_3, .int .u64 0]) ?_ 1 _ rfl; (with_reducible repeat (first | refine blk_drewN ?_ _ | refine blk_drew ?_ | refine blk_alloc ?_ _)); refine blk_put (cs := #[.int .i64 0, .int .u64 0]) ?_ 0 _ rfl; (with_reducible repeat (first | refine blk_drewN ?_ _ | refine blk_drew ?_ | refine blk_alloc ?_ _)); exact BK245.out) Tryz.underlying51 rfl (by kernel_rfl)) rfl ?_
                        exact ⟨by first | rfl | (simp [errW_none, errW_some] <;> rfl) | (simp only [← hji51]; first | rfl | (simp [errW_none, errW_some] <;> rfl)) | (simp [*, errW_none, errW_some] <;> rfl), by repeat (first | (with_reducible first | exact HB.out | apply below_alloc | apply pw_below_drewN | apply below_drew1 | refine below_set ?_ GE245.out | refine below_set ?_ GE246.out) | exact HB.out)⟩
                      rw [if_pos c56] at H
                      have c56b0 := beq_iff_eq.mpr c56
                      have c56b1 := bne_eq_false_iff_eq.mpr c56
                      clear c56
                      simp only [Option.some.injEq, Prod.mk.injEq] at H
                      obtain ⟨rfl, rfl, rfl⟩ := H
                      go_wp2_with (first | ((with_reducible refine gate_callee (f := 34) rfl ?_); refine goesL_ (some 88) rfl rfl Tryz.func34 (by kernel_rfl) rfl #[.string (a0.extract ((ji51) : Int).toNat a0.size)] rfl (by (try simp only [List.map_toArray, List.map_cons, List.map_nil]); first | done | (simp only [hji51]; rfl) | rfl | (simp only [List.length_drop, List.length_take]; rfl)) ?_; (with_reducible refine (remontoirref02_Parse.calls kj32 (a0.extract ((ji51) : Int).toNat a0.size) t247 t248 _ A54.out).mono ?_); rintro e w57 ⟨rfl, hb⟩; refine ⟨_, rfl, ?_⟩; replace BK245 := Aside0.mk (bk10_5 (g := gb245) (o := .cells #[.int .i64 0, .int .u64 0] 51 (0, 0)) hb); replace BK246 := Aside0.mk (bk10_6 (g := gb246) (o := .cells #[.int .i64 0, .int .u64 0] 51 (0, 0)) hb); replace HB := Aside0.mk (bs10_2 hb); (try clear hb); (try clear hb2); (try clear hk); (try clear hi); have hnb58 := NB246_245.out; have hnc58 := NB245_246.out; have hcz59_0 : w57.cell? ⟨gb246, 0, none⟩ = some (.int .i64 0) := (blk_cell BK246.out 0).trans rfl; have hcz59_1 : w57.cell? ⟨gb246, 1, none⟩ = some (.int .u64 0) := (blk_cell BK246.out 1).trans rfl; have hfz59_0 := blk_frozen BK246.out 0; have hfz59_1 := blk_frozen BK246.out 1; have hcz60_0 : w57.cell? ⟨gb245, 0, none⟩ = some (.int .i64 0) := (blk_cell BK245.out 0).trans rfl; have hcz60_1 : w57.cell? ⟨gb245, 1, none⟩ = some (.int .u64 0) := (blk_cell BK245.out 1).trans rfl; have hfz60_0 := blk_frozen BK245.out 0; have hfz60_1 := blk_frozen BK245.out 1))
                      refine bodyPost_ret (results_ct rfl _ _ gb245 51 #[.int .i64 0, .int .u64 0] (0, 0) _ rfl (by (with_reducible repeat (first | refine blk_drewN ?_ _ | refine blk_drew ?_ | refine blk_alloc ?_ _)); refine blk_put (cs := #[.int .i64 0, .int .u64 0]) ?_ 1 _ rfl; (with_reducible repeat (first | refine blk_drewN ?_ _ | refine blk_drew ?_ | refine blk_alloc ?_ _)); refine blk_put (cs := #[.int .i64 0, .int .u64 0]) ?_ 0 _ rfl; (with_reducible repeat (first | refine blk_drewN ?_ _ | refine blk_drew ?_ | refine blk_alloc ?_ _)); exact BK245.out) Tryz.underlying51 rfl (by kernel_rfl)) rfl ?_
                      exact ⟨by first | rfl | (simp [errW_none, errW_some] <;> rfl) | (simp only [← hji51]; first | rfl | (simp [errW_none, errW_some] <;> rfl)) | (simp [*, errW_none, errW_some] <;> rfl), by repeat (first | (with_reducible first | exact HB.out | apply below_alloc | apply pw_below_drewN | apply below_drew1 | refine below_set ?_ GE245.out | refine below_set ?_ GE246.out) | exact HB.out)⟩

end Go.Proofs.YtflnkchpfbcgiaaGreatDoor.Q
