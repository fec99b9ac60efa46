-- Written by this session's program xprint.py (which runs the kit's print with some functions given by hand). Lean checks it.
import Derived.Test.YtflnkchpfbcgiaaGreatDoorQx0
namespace Go.Proofs.YtflnkchpfbcgiaaGreatDoor.Q
open Go.RowKit Go.Proofs.YtflnkchpfbcgiaaGreatDoorW.PrintWords Go.Proofs.YtflnkchpfbcgiaaGreatDoorW.PrintLast Go.Proofs.YtflnkchpfbcgiaaGreatDoorW.PrintMore
attribute [local go_sem] max2_int min2_int max_two min_two max_three min_three max_four min_four   -- for this text's walks alone
set_option linter.unusedVariables false
set_option linter.unusedSimpArgs false
theorem bs3_0 {w W w2 : World} (k : Below W.heap.size W w2) (h : Below w.heap.size w W := by repeat (first | (with_reducible first | exact HB.out | apply below_alloc | apply pw_below_drewN | apply below_drew1) | exact HB.out)) : Below w.heap.size w w2 := below_step h k
theorem bs3_1 {w W w2 : World} (k : Below W.heap.size W w2) (h : Below w.heap.size w W := by repeat (first | (with_reducible first | exact HB.out | apply below_alloc | apply pw_below_drewN | apply below_drew1 | refine below_set ?_ GE122.out) | exact HB.out)) : Below w.heap.size w w2 := below_step h k
theorem bz3_2 {w W : World} (h : Below w.heap.size w W := by repeat (first | (with_reducible first | exact HB.out | apply below_alloc | apply pw_below_drewN | apply below_drew1) | exact HB.out)) : w.heap.size ≤ W.heap.size := below_size h
theorem bz3_3 {w W : World} (h : Below w.heap.size w W := by repeat (first | (with_reducible first | exact HB.out | apply below_alloc | apply pw_below_drewN | apply below_drew1 | refine below_set ?_ GE122.out) | exact HB.out)) : w.heap.size ≤ W.heap.size := below_size h
theorem bk3_4 {w w1 : World} {g : Nat} {o : Obj} (hb : Below w.heap.size w w1) (h : w.heap[g]? = some o := by (with_reducible repeat (first | refine blk_drewN ?_ _ | refine blk_drew ?_ | refine blk_alloc ?_ _)); exact BK122.out) : w1.heap[g]? = some o := blk_below h hb
theorem bb3_5 {w : World} {g : Nat} {o : Obj} (h : w.heap[g]? = some o := by (with_reducible repeat (first | refine blk_drewN ?_ _ | refine blk_drew ?_ | refine blk_alloc ?_ _)); exact BK122.out) : w.heap[g]? = some o := h
theorem bb3_6 {w : World} {g : Nat} {o : Obj} (h : w.heap[g]? = some o := by (with_reducible repeat (first | refine blk_drewN ?_ _ | refine blk_drew ?_ | refine blk_alloc ?_ _)); exact BK123.out) : w.heap[g]? = some o := h
theorem bb3_7 {p : Prop} (h : p := by first | (with_reducible assumption) | assumption) : p := h
theorem bd3_8 {p : Prop} (h : p := by first | rfl | (simp; done) | (simp [*]; done)) : p := h
theorem bh3_9 {w W : World} (h : Below w.heap.size w W := by repeat (first | (with_reducible first | exact HB.out | apply below_alloc | apply pw_below_drewN | apply below_drew1 | refine below_set ?_ GE122.out | refine below_set ?_ GE123.out) | exact HB.out)) : Below w.heap.size w W := h


/-! ### remontoirkeep_LightDef: function 4 -/
mutual
def remontoirkeep_LightDef.j0 : Nat → Bool → ByteArray → List (S41) → List (S43) → Option (Bool)
  | 0, _, _, _, _ => none
  | k + 1, x20, x118000, x118001, x118002 => if x20 = true then (some false) else (remontoirkeep_LightDef.l0 k 0 x118000 x118001 x118002)
def remontoirkeep_LightDef.l0 : Nat → Int → ByteArray → List (S41) → List (S43) → Option (Bool)
  | 0, _, _, _, _ => none
  | k + 1, x3, x118000, x118001, x118002 => if x3 < (x118001.length : Int) then (if 0 ≤ x3 then (if (((rd_T41 x118001 x3).f4).size : Int) > 80 then (some false) else (remontoirkeep_LightDef.l0 k (wrap64 (x3 + 1)) x118000 x118001 x118002)) else (none)) else (remontoirkeep_LightDef.l1 k 0 x118000 x118001 x118002)
def remontoirkeep_LightDef.l1 : Nat → Int → ByteArray → List (S41) → List (S43) → Option (Bool)
  | 0, _, _, _, _ => none
  | k + 1, x4, x118000, x118001, x118002 => if x4 < (x118002.length : Int) then (if 0 ≤ x4 then (if (((rd_T43 x118002 x4).f4).size : Int) > 80 then (some false) else (remontoirkeep_LightDef.l1 k (wrap64 (x4 + 1)) x118000 x118001 x118002)) else (none)) else (some true)
end
def remontoirkeep_LightDef.f (k : Nat) (a0_0 : ByteArray) (l0_1 : List (S41)) (l0_2 : List (S43)) : Option (Bool) := if (l0_1.length : Int) > 70 then (remontoirkeep_LightDef.j0 k true a0_0 l0_1 l0_2) else (if (l0_2.length : Int) > 110 then (remontoirkeep_LightDef.j0 k true a0_0 l0_1 l0_2) else (remontoirkeep_LightDef.j0 k (decide ((a0_0.size : Int) > 60)) a0_0 l0_1 l0_2))
theorem remontoirkeep_LightDef.mono_l : ∀ k, (∀ y0 y1 y2 y3, LeO (remontoirkeep_LightDef.j0 k y0 y1 y2 y3) (remontoirkeep_LightDef.j0 (k + 1) y0 y1 y2 y3)) ∧ (∀ y0 y1 y2 y3, LeO (remontoirkeep_LightDef.l0 k y0 y1 y2 y3) (remontoirkeep_LightDef.l0 (k + 1) y0 y1 y2 y3)) ∧ (∀ y0 y1 y2 y3, LeO (remontoirkeep_LightDef.l1 k y0 y1 y2 y3) (remontoirkeep_LightDef.l1 (k + 1) y0 y1 y2 y3))
  | 0 => ⟨fun _ _ _ _ r h => by simp [remontoirkeep_LightDef.j0] at h, fun _ _ _ _ r h => by simp [remontoirkeep_LightDef.l0] at h, fun _ _ _ _ r h => by simp [remontoirkeep_LightDef.l1] at h⟩
  | k + 1 => by
    obtain ⟨ih0, ih1, ih2⟩ := remontoirkeep_LightDef.mono_l k
    refine ⟨?_, ?_, ?_⟩
    · intro y0 y1 y2 y3
      unfold remontoirkeep_LightDef.j0
      repeat' first
      | (with_reducible exact ih0 _ _ _ _)
      | (with_reducible exact ih1 _ _ _ _)
      | (with_reducible exact ih2 _ _ _ _)
      | (with_reducible exact LeO.refl _)
      | (with_reducible exact LeO.none _)
      | (with_reducible refine LeO.ite ?_ ?_)
      | (with_reducible refine LeO.bind ?_ (fun _ => ?_))
      | exact ih0 _ _ _ _
      | exact ih1 _ _ _ _
      | exact ih2 _ _ _ _
      | exact LeO.none _
      | refine LeO.ite ?_ ?_
      | refine LeO.bind ?_ (fun _ => ?_)
    · intro y0 y1 y2 y3
      unfold remontoirkeep_LightDef.l0
      repeat' first
      | (with_reducible exact ih0 _ _ _ _)
      | (with_reducible exact ih1 _ _ _ _)
      | (with_reducible exact ih2 _ _ _ _)
      | (with_reducible exact LeO.refl _)
      | (with_reducible exact LeO.none _)
      | (with_reducible refine LeO.ite ?_ ?_)
      | (with_reducible refine LeO.bind ?_ (fun _ => ?_))
      | exact ih0 _ _ _ _
      | exact ih1 _ _ _ _
      | exact ih2 _ _ _ _
      | exact LeO.none _
      | refine LeO.ite ?_ ?_
      | refine LeO.bind ?_ (fun _ => ?_)
    · intro y0 y1 y2 y3
      unfold remontoirkeep_LightDef.l1
      repeat' first
      | (with_reducible exact ih0 _ _ _ _)
      | (with_reducible exact ih1 _ _ _ _)
      | (with_reducible exact ih2 _ _ _ _)
      | (with_reducible exact LeO.refl _)
      | (with_reducible exact LeO.none _)
      | (with_reducible refine LeO.ite ?_ ?_)
      | (with_reducible refine LeO.bind ?_ (fun _ => ?_))
      | exact ih0 _ _ _ _
      | exact ih1 _ _ _ _
      | exact ih2 _ _ _ _
      | exact LeO.none _
      | refine LeO.ite ?_ ?_
      | refine LeO.bind ?_ (fun _ => ?_)
theorem remontoirkeep_LightDef.mono : ∀ a0 a1 a2 k, LeO (remontoirkeep_LightDef.f k a0 a1 a2) (remontoirkeep_LightDef.f (k + 1) a0 a1 a2) := by
  intro a0 a1 a2 k
  obtain ⟨ih0, ih1, ih2⟩ := remontoirkeep_LightDef.mono_l k
  unfold remontoirkeep_LightDef.f
  repeat' first
      | (with_reducible exact ih0 _ _ _ _)
      | (with_reducible exact ih1 _ _ _ _)
      | (with_reducible exact ih2 _ _ _ _)
      | (with_reducible exact LeO.refl _)
      | (with_reducible exact LeO.none _)
      | (with_reducible refine LeO.ite ?_ ?_)
      | (with_reducible refine LeO.bind ?_ (fun _ => ?_))
      | exact ih0 _ _ _ _
      | exact ih1 _ _ _ _
      | exact ih2 _ _ _ _
      | exact LeO.none _
      | refine LeO.ite ?_ ?_
      | refine LeO.bind ?_ (fun _ => ?_)
set_option maxHeartbeats 8000000 in
set_option maxRecDepth 100000 in
theorem remontoirkeep_LightDef.calls (k : Nat) (a0_0 : ByteArray) (A0_1 : Option Addr) (c0_1 : Nat) (l0_1 : List (S41)) (A0_2 : Option Addr) (c0_2 : Nat) (l0_2 : List (S43)) (r : Bool) (w : World) (hr0_1 : Kd.C k41 w A0_1 l0_1.length l0_1) (hc0_1 : l0_1.length ≤ c0_1) (hr0_2 : Kd.C k43 w A0_2 l0_2.length l0_2) (hc0_2 : l0_2.length ≤ c0_2) (h : remontoirkeep_LightDef.f k a0_0 l0_1 l0_2 = some r) :
    Calls Tryz.prog 4 #[.agg #[.string a0_0, .slice A0_1 l0_1.length c0_1, .slice A0_2 l0_2.length c0_2]] w fun e w' => e = .returned (.bool r) ∧ Below w.heap.size w w' := by
  have hu25 := Tryz.underlying25
  have HR0_1 := Aside0.mk hr0_1
  have HC0_1 := Aside0.mk hc0_1
  clear hr0_1 hc0_1
  have HR0_2 := Aside0.mk hr0_2
  have HC0_2 := Aside0.mk hc0_2
  clear hr0_2 hc0_2
  have HB := Aside0.mk (Below.refl w.heap.size w)
  unfold remontoirkeep_LightDef.f at h
  have H := h
  clear h
  have HC2 := Aside0.mk H
  clear H
  go_enter Tryz.func4, Tryz.ntmps4
  go_upto_region 1 with (first | ((with_reducible refine gate_dst (N := 1) rfl ?_); (try (refine gate_guard (by rfl) ?_; dsimp only)); refine box_event ?hg (N := 1) ?hd (cs := #[.string a0_0, .slice A0_1 l0_1.length c0_1, .slice A0_2 l0_2.length c0_2]) (t := 25) ?hr ?_; (case hd => rfl); (case hg => rfl); (case hr => first | (go_simp; done) | (go_simp; rfl)); intro gb117 hg w3 hbox hb; have BK117 := Aside0.mk (hbox); have GW117 := Aside0.mk ((by rw [hg]; exact bz3_2 : w.heap.size ≤ gb117)); have GE117 := Aside0.mk ((by rw [hg]; exact bz3_2 : w.heap.size ≤ gb117)); replace HB := Aside0.mk (bs3_0 hb); clear hb hbox hg))
  (try simp only [Act.put, List.setIfInBounds_toArray, List.set_cons_zero, List.set_cons_succ])
  go_cut [20] (fun v20 wc => ∃ (kq : Nat) (x20_1 : Bool), v20 = .bool x20_1 ∧ Aside0 (remontoirkeep_LightDef.j0 kq x20_1 a0_0 l0_1 l0_2 = some r) ∧ Aside0 (kq ≤ k) ∧ Aside0 (wc.heap[gb117]? = some (.cells #[.string a0_0, (.slice A0_1 l0_1.length c0_1), (.slice A0_2 l0_2.length c0_2)] 25 (0, 0))) ∧ Aside0 (Below w.heap.size w wc))
  case first =>
    have H := HC2.out
    clear HC2
    by_cases c4 : (l0_1.length : Int) > 70
    · rw [if_pos c4] at H
      have c4b0 : decide (70 < (l0_1.length : Int)) = true := decide_eq_true c4
      have c4b1 : decide (70 < l0_1.length) = true := decide_eq_true (by omega)
      clear c4
      (first | rw [c4b0] | (simp only [i64_w, i32_w]; rw [c4b0]) | skip)
      have H' := Aside0.mk H
      clear H
      have hcz5_0 : w3.cell? ⟨gb117, 0, none⟩ = some (.string a0_0) := (blk_cell BK117.out 0).trans rfl
      have hcz5_1 : w3.cell? ⟨gb117, 1, none⟩ = some (.slice A0_1 l0_1.length c0_1) := (blk_cell BK117.out 1).trans rfl
      have hcz5_2 : w3.cell? ⟨gb117, 2, none⟩ = some (.slice A0_2 l0_2.length c0_2) := (blk_cell BK117.out 2).trans rfl
      have hfz5_0 := blk_frozen BK117.out 0
      have hfz5_1 := blk_frozen BK117.out 1
      have hfz5_2 := blk_frozen BK117.out 2
      go_wp2
      go_meet
      case rel => exact ⟨_, (true), bd3_8, H', ⟨by first | omega | exact Nat.le_refl _⟩, ⟨by (with_reducible repeat (first | refine blk_drewN ?_ _ | refine blk_drew ?_ | refine blk_alloc ?_ _)); exact BK117.out⟩, ⟨by repeat (first | (with_reducible first | exact HB.out | apply below_alloc | apply pw_below_drewN | apply below_drew1 | refine below_set ?_ GE117.out) | exact HB.out)⟩⟩
    rw [if_neg c4] at H
    have c4b0 : decide (70 < (l0_1.length : Int)) = false := decide_eq_false c4
    have c4b1 : decide (70 < l0_1.length) = false := decide_eq_false (by omega)
    clear c4
    (first | rw [c4b0] | (simp only [i64_w, i32_w]; rw [c4b0]) | skip)
    by_cases c6 : (l0_2.length : Int) > 110
    · rw [if_pos c6] at H
      have c6b0 : decide (110 < (l0_2.length : Int)) = true := decide_eq_true c6
      have c6b1 : decide (110 < l0_2.length) = true := decide_eq_true (by omega)
      clear c6
      have H' := Aside0.mk H
      clear H
      have hcz7_0 : w3.cell? ⟨gb117, 0, none⟩ = some (.string a0_0) := (blk_cell BK117.out 0).trans rfl
      have hcz7_1 : w3.cell? ⟨gb117, 1, none⟩ = some (.slice A0_1 l0_1.length c0_1) := (blk_cell BK117.out 1).trans rfl
      have hcz7_2 : w3.cell? ⟨gb117, 2, none⟩ = some (.slice A0_2 l0_2.length c0_2) := (blk_cell BK117.out 2).trans rfl
      have hfz7_0 := blk_frozen BK117.out 0
      have hfz7_1 := blk_frozen BK117.out 1
      have hfz7_2 := blk_frozen BK117.out 2
      go_wp2
      go_meet
      case rel => exact ⟨_, (true), bd3_8, H', ⟨by first | omega | exact Nat.le_refl _⟩, ⟨by (with_reducible repeat (first | refine blk_drewN ?_ _ | refine blk_drew ?_ | refine blk_alloc ?_ _)); exact BK117.out⟩, ⟨by repeat (first | (with_reducible first | exact HB.out | apply below_alloc | apply pw_below_drewN | apply below_drew1 | refine below_set ?_ GE117.out) | exact HB.out)⟩⟩
    rw [if_neg c6] at H
    have c6b0 : decide (110 < (l0_2.length : Int)) = false := decide_eq_false c6
    have c6b1 : decide (110 < l0_2.length) = false := decide_eq_false (by omega)
    clear c6
    have H' := Aside0.mk H
    clear H
    have hcz8_0 : w3.cell? ⟨gb117, 0, none⟩ = some (.string a0_0) := (blk_cell BK117.out 0).trans rfl
    have hcz8_1 : w3.cell? ⟨gb117, 1, none⟩ = some (.slice A0_1 l0_1.length c0_1) := (blk_cell BK117.out 1).trans rfl
    have hcz8_2 : w3.cell? ⟨gb117, 2, none⟩ = some (.slice A0_2 l0_2.length c0_2) := (blk_cell BK117.out 2).trans rfl
    have hfz8_0 := blk_frozen BK117.out 0
    have hfz8_1 := blk_frozen BK117.out 1
    have hfz8_2 := blk_frozen BK117.out 2
    go_wp2
    go_meet
    case rel => exact ⟨_, (decide ((a0_0.size : Int) > 60)), bd3_8, H', ⟨by first | omega | exact Nat.le_refl _⟩, ⟨by (with_reducible repeat (first | refine blk_drewN ?_ _ | refine blk_drew ?_ | refine blk_alloc ?_ _)); exact BK117.out⟩, ⟨by repeat (first | (with_reducible first | exact HB.out | apply below_alloc | apply pw_below_drewN | apply below_drew1 | refine below_set ?_ GE117.out) | exact HB.out)⟩⟩
  case rest =>
    clear HC2
    try clear p2
    try clear c4
    try clear c4b0
    try clear c4b1
    try clear c6
    try clear c6b0
    try clear c6b1
    try clear hcz5_0
    try clear hcz5_1
    try clear hcz5_2
    try clear hcz7_0
    try clear hcz7_1
    try clear hcz7_2
    try clear hcz8_0
    try clear hcz8_1
    try clear hcz8_2
    try clear hfz5_0
    try clear hfz5_1
    try clear hfz5_2
    try clear hfz7_0
    try clear hfz7_1
    try clear hfz7_2
    try clear hfz8_0
    try clear hfz8_1
    try clear hfz8_2
    obtain ⟨kq, x20_1, rfl, HA, HJ1, BK117, HB⟩ := hcut
    cases kq with
    | zero => exact absurd HA.out (by simp [remontoirkeep_LightDef.j0])
    | succ kj1 =>
      have H := HA.out
      clear HA
      simp only [remontoirkeep_LightDef.j0] at H
      by_cases c9 : x20_1 = true
      · subst c9
        rw [if_pos rfl] at H
        obtain rfl := Option.some.inj H
        go_wp2
        go_ret
        exact ⟨by first | rfl | (simp [errW_none, errW_some] <;> rfl) | (simp [*, errW_none, errW_some] <;> rfl), by repeat (first | (with_reducible first | exact HB.out | apply below_alloc | apply pw_below_drewN | apply below_drew1 | refine below_set ?_ GE117.out) | exact HB.out)⟩
      replace c9 := Bool.eq_false_iff.mpr c9
      subst c9
      rw [if_neg nft] at H
      have H' := Aside0.mk H
      clear H
      go_wp2
      go_loopg [3] kj1 (fun kq v3 w' => ∃ (x3_2 : Int), v3 = .int .i64 x3_2 ∧ Aside0 (remontoirkeep_LightDef.l0 kq x3_2 a0_0 l0_1 l0_2 = some r) ∧ Aside0 (kq ≤ kj1) ∧ Aside0 (w'.heap[gb117]? = some (.cells #[.string a0_0, (.slice A0_1 l0_1.length c0_1), (.slice A0_2 l0_2.length c0_2)] 25 (0, 0))) ∧ Aside0 (Below w.heap.size w w'))
      case atStart => exact ⟨(0), bd3_8, H', ⟨Nat.le_refl _⟩, ⟨by (with_reducible repeat (first | refine blk_drewN ?_ _ | refine blk_drew ?_ | refine blk_alloc ?_ _)); exact BK117.out⟩, ⟨by repeat (first | (with_reducible first | exact HB.out | apply below_alloc | apply pw_below_drewN | apply below_drew1 | refine below_set ?_ GE117.out) | exact HB.out)⟩⟩
      case round =>
        clear H'
        try clear p2
        try clear c4
        try clear c4b0
        try clear c4b1
        try clear c6
        try clear c6b0
        try clear c6b1
        try clear c9
        try clear hcz5_0
        try clear hcz5_1
        try clear hcz5_2
        try clear hcz7_0
        try clear hcz7_1
        try clear hcz7_2
        try clear hcz8_0
        try clear hcz8_1
        try clear hcz8_2
        try clear hfz5_0
        try clear hfz5_1
        try clear hfz5_2
        try clear hfz7_0
        try clear hfz7_1
        try clear hfz7_2
        try clear hfz8_0
        try clear hfz8_1
        try clear hfz8_2
        try clear p2
        obtain ⟨x3_2, rfl, HA, HK2, BK117, HB⟩ := hrel
        cases gk with
        | zero => exact absurd HA.out (by simp [remontoirkeep_LightDef.l0])
        | succ k2 =>
          have H := HA.out
          clear HA
          simp only [remontoirkeep_LightDef.l0] at H
          by_cases c10 : x3_2 < (l0_1.length : Int)
          · rw [if_pos c10] at H
            have c10b0 := decide_eq_true c10
            clear c10
            obtain ⟨c11, H⟩ := itS H
            have c11b0 := decide_eq_true c11
            clear c11
            by_cases c12 : (((rd_T41 l0_1 x3_2).f4).size : Int) > 80
            · rw [if_pos c12] at H
              have c12b0 : decide (80 < (((rd_T41 l0_1 x3_2).f4).size : Int)) = true := decide_eq_true c12
              have c12b1 : decide (80 < ((rd_T41 l0_1 x3_2).f4).size) = true := decide_eq_true (by omega)
              clear c12
              obtain rfl := Option.some.inj H
              have hcz13_0 : wr.cell? ⟨gb117, 0, none⟩ = some (.string a0_0) := (blk_cell BK117.out 0).trans rfl
              have hcz13_1 : wr.cell? ⟨gb117, 1, none⟩ = some (.slice A0_1 l0_1.length c0_1) := (blk_cell BK117.out 1).trans rfl
              have hcz13_2 : wr.cell? ⟨gb117, 2, none⟩ = some (.slice A0_2 l0_2.length c0_2) := (blk_cell BK117.out 2).trans rfl
              have hfz13_0 := blk_frozen BK117.out 0
              have hfz13_1 := blk_frozen BK117.out 1
              have hfz13_2 := blk_frozen BK117.out 2
              have p118 : 0 ≤ (x3_2 : Int) := of_decide_eq_true bb3_7
              have q118 : x3_2 < (l0_1.length : Int) := of_decide_eq_true bb3_7
              obtain ⟨ad118, e118, hx118_0, hx118_1, hx118_2, hx118_3, hx118_4⟩ := at_T41 HR0_1.out x3_2 p118 q118
              cases e118
              replace hx118_0 := (HB.out.cell (World.block_lt_of_cell? w _ hx118_0)).trans hx118_0
              replace hx118_1 := (HB.out.cell (World.block_lt_of_cell? w _ hx118_1)).trans hx118_1
              replace hx118_2 := (HB.out.cell (World.block_lt_of_cell? w _ hx118_2)).trans hx118_2
              replace hx118_3 := (HB.out.cell (World.block_lt_of_cell? w _ hx118_3)).trans hx118_3
              replace hx118_4 := (HB.out.cell (World.block_lt_of_cell? w _ hx118_4)).trans hx118_4
              replace p118 := eq_true p118
              replace q118 := eq_true q118
              go_wp2
              go_ret
              exact ⟨by first | rfl | (simp [errW_none, errW_some] <;> rfl) | (simp [*, errW_none, errW_some] <;> rfl), by repeat (first | (with_reducible first | exact HB.out | apply below_alloc | apply pw_below_drewN | apply below_drew1 | refine below_set ?_ GE117.out) | exact HB.out)⟩
            rw [if_neg c12] at H
            have c12b0 : decide (80 < (((rd_T41 l0_1 x3_2).f4).size : Int)) = false := decide_eq_false c12
            have c12b1 : decide (80 < ((rd_T41 l0_1 x3_2).f4).size) = false := decide_eq_false (by omega)
            clear c12
            have H' := Aside0.mk H
            clear H
            have hcz14_0 : wr.cell? ⟨gb117, 0, none⟩ = some (.string a0_0) := (blk_cell BK117.out 0).trans rfl
            have hcz14_1 : wr.cell? ⟨gb117, 1, none⟩ = some (.slice A0_1 l0_1.length c0_1) := (blk_cell BK117.out 1).trans rfl
            have hcz14_2 : wr.cell? ⟨gb117, 2, none⟩ = some (.slice A0_2 l0_2.length c0_2) := (blk_cell BK117.out 2).trans rfl
            have hfz14_0 := blk_frozen BK117.out 0
            have hfz14_1 := blk_frozen BK117.out 1
            have hfz14_2 := blk_frozen BK117.out 2
            have p118 : 0 ≤ (x3_2 : Int) := of_decide_eq_true bb3_7
            have q118 : x3_2 < (l0_1.length : Int) := of_decide_eq_true bb3_7
            obtain ⟨ad118, e118, hx118_0, hx118_1, hx118_2, hx118_3, hx118_4⟩ := at_T41 HR0_1.out x3_2 p118 q118
            cases e118
            replace hx118_0 := (HB.out.cell (World.block_lt_of_cell? w _ hx118_0)).trans hx118_0
            replace hx118_1 := (HB.out.cell (World.block_lt_of_cell? w _ hx118_1)).trans hx118_1
            replace hx118_2 := (HB.out.cell (World.block_lt_of_cell? w _ hx118_2)).trans hx118_2
            replace hx118_3 := (HB.out.cell (World.block_lt_of_cell? w _ hx118_3)).trans hx118_3
            replace hx118_4 := (HB.out.cell (World.block_lt_of_cell? w _ hx118_4)).trans hx118_4
            replace p118 := eq_true p118
            replace q118 := eq_true q118
            go_wp2
            go_roundg k2
            case measure => have := HJ1.out; have := HK2.out; omega
            case rel => exact ⟨(wrap64 (x3_2 + 1)), bd3_8, H', ⟨by have := HJ1.out; have := HK2.out; omega⟩, ⟨by (with_reducible repeat (first | refine blk_drewN ?_ _ | refine blk_drew ?_ | refine blk_alloc ?_ _)); exact BK117.out⟩, ⟨by repeat (first | (with_reducible first | exact HB.out | apply below_alloc | apply pw_below_drewN | apply below_drew1 | refine below_set ?_ GE117.out) | exact HB.out)⟩⟩
          rw [if_neg c10] at H
          have c10b0 := decide_eq_false c10
          clear c10
          have H' := Aside0.mk H
          clear H
          have hcz15_0 : wr.cell? ⟨gb117, 0, none⟩ = some (.string a0_0) := (blk_cell BK117.out 0).trans rfl
          have hcz15_1 : wr.cell? ⟨gb117, 1, none⟩ = some (.slice A0_1 l0_1.length c0_1) := (blk_cell BK117.out 1).trans rfl
          have hcz15_2 : wr.cell? ⟨gb117, 2, none⟩ = some (.slice A0_2 l0_2.length c0_2) := (blk_cell BK117.out 2).trans rfl
          have hfz15_0 := blk_frozen BK117.out 0
          have hfz15_1 := blk_frozen BK117.out 1
          have hfz15_2 := blk_frozen BK117.out 2
          go_wp2
          go_loopg [4] k2 (fun kq v4 w' => ∃ (x4_3 : Int), v4 = .int .i64 x4_3 ∧ Aside0 (remontoirkeep_LightDef.l1 kq x4_3 a0_0 l0_1 l0_2 = some r) ∧ Aside0 (kq ≤ k2) ∧ Aside0 (w'.heap[gb117]? = some (.cells #[.string a0_0, (.slice A0_1 l0_1.length c0_1), (.slice A0_2 l0_2.length c0_2)] 25 (0, 0))) ∧ Aside0 (Below w.heap.size w w'))
          case atStart => exact ⟨(0), bd3_8, H', ⟨Nat.le_refl _⟩, ⟨by (with_reducible repeat (first | refine blk_drewN ?_ _ | refine blk_drew ?_ | refine blk_alloc ?_ _)); exact BK117.out⟩, ⟨by repeat (first | (with_reducible first | exact HB.out | apply below_alloc | apply pw_below_drewN | apply below_drew1 | refine below_set ?_ GE117.out) | exact HB.out)⟩⟩
          case round =>
            clear H'
            try clear c1
            try clear p1
            try clear q1
            try clear hx1
            try clear p2
            try clear c4
            try clear c4b0
            try clear c4b1
            try clear c6
            try clear c6b0
            try clear c6b1
            try clear p6
            try clear c9
            try clear c10
            try clear c10b0
            try clear c11
            try clear c11b0
            try clear p11
            try clear q11
            try clear hx11
            try clear c12
            try clear c12b0
            try clear c12b1
            try clear hcz13_0
            try clear hcz13_1
            try clear hcz13_2
            try clear hcz14_0
            try clear hcz14_1
            try clear hcz14_2
            try clear hcz15_0
            try clear hcz15_1
            try clear hcz15_2
            try clear hcz5_0
            try clear hcz5_1
            try clear hcz5_2
            try clear hcz7_0
            try clear hcz7_1
            try clear hcz7_2
            try clear hcz8_0
            try clear hcz8_1
            try clear hcz8_2
            try clear hfz13_0
            try clear hfz13_1
            try clear hfz13_2
            try clear hfz14_0
            try clear hfz14_1
            try clear hfz14_2
            try clear hfz15_0
            try clear hfz15_1
            try clear hfz15_2
            try clear hfz5_0
            try clear hfz5_1
            try clear hfz5_2
            try clear hfz7_0
            try clear hfz7_1
            try clear hfz7_2
            try clear hfz8_0
            try clear hfz8_1
            try clear hfz8_2
            try clear hx118_0
            try clear hx118_1
            try clear hx118_2
            try clear hx118_3
            try clear hx118_4
            try clear p118
            try clear p2
            try clear q118
            obtain ⟨x4_3, rfl, HA, HK3, BK117, HB⟩ := hrel
            cases gk with
            | zero => exact absurd HA.out (by simp [remontoirkeep_LightDef.l1])
            | succ k3 =>
              have H := HA.out
              clear HA
              simp only [remontoirkeep_LightDef.l1] at H
              by_cases c16 : x4_3 < (l0_2.length : Int)
              rotate_left
              · rw [if_neg c16] at H
                have c16b0 := decide_eq_false c16
                clear c16
                obtain rfl := Option.some.inj H
                have hcz21_0 : wr.cell? ⟨gb117, 0, none⟩ = some (.string a0_0) := (blk_cell BK117.out 0).trans rfl
                have hcz21_1 : wr.cell? ⟨gb117, 1, none⟩ = some (.slice A0_1 l0_1.length c0_1) := (blk_cell BK117.out 1).trans rfl
                have hcz21_2 : wr.cell? ⟨gb117, 2, none⟩ = some (.slice A0_2 l0_2.length c0_2) := (blk_cell BK117.out 2).trans rfl
                have hfz21_0 := blk_frozen BK117.out 0
                have hfz21_1 := blk_frozen BK117.out 1
                have hfz21_2 := blk_frozen BK117.out 2
                go_wp2
                go_ret
                exact ⟨by first | rfl | (simp [errW_none, errW_some] <;> rfl) | (simp [*, errW_none, errW_some] <;> rfl), by repeat (first | (with_reducible first | exact HB.out | apply below_alloc | apply pw_below_drewN | apply below_drew1 | refine below_set ?_ GE117.out) | exact HB.out)⟩
              rw [if_pos c16] at H
              have c16b0 := decide_eq_true c16
              clear c16
              obtain ⟨c17, H⟩ := itS H
              have c17b0 := decide_eq_true c17
              clear c17
              by_cases c18 : (((rd_T43 l0_2 x4_3).f4).size : Int) > 80
              · rw [if_pos c18] at H
                have c18b0 : decide (80 < (((rd_T43 l0_2 x4_3).f4).size : Int)) = true := decide_eq_true c18
                have c18b1 : decide (80 < ((rd_T43 l0_2 x4_3).f4).size) = true := decide_eq_true (by omega)
                clear c18
                obtain rfl := Option.some.inj H
                have hcz19_0 : wr.cell? ⟨gb117, 0, none⟩ = some (.string a0_0) := (blk_cell BK117.out 0).trans rfl
                have hcz19_1 : wr.cell? ⟨gb117, 1, none⟩ = some (.slice A0_1 l0_1.length c0_1) := (blk_cell BK117.out 1).trans rfl
                have hcz19_2 : wr.cell? ⟨gb117, 2, none⟩ = some (.slice A0_2 l0_2.length c0_2) := (blk_cell BK117.out 2).trans rfl
                have hfz19_0 := blk_frozen BK117.out 0
                have hfz19_1 := blk_frozen BK117.out 1
                have hfz19_2 := blk_frozen BK117.out 2
                have p119 : 0 ≤ (x4_3 : Int) := of_decide_eq_true bb3_7
                have q119 : x4_3 < (l0_2.length : Int) := of_decide_eq_true bb3_7
                obtain ⟨ad119, e119, hx119_0, hx119_1, hx119_2, hx119_3, hx119_4⟩ := at_T43 HR0_2.out x4_3 p119 q119
                cases e119
                replace hx119_0 := (HB.out.cell (World.block_lt_of_cell? w _ hx119_0)).trans hx119_0
                replace hx119_1 := (HB.out.cell (World.block_lt_of_cell? w _ hx119_1)).trans hx119_1
                replace hx119_2 := (HB.out.cell (World.block_lt_of_cell? w _ hx119_2)).trans hx119_2
                replace hx119_3 := (HB.out.cell (World.block_lt_of_cell? w _ hx119_3)).trans hx119_3
                replace hx119_4 := (HB.out.cell (World.block_lt_of_cell? w _ hx119_4)).trans hx119_4
                replace p119 := eq_true p119
                replace q119 := eq_true q119
                go_wp2
                go_ret
                exact ⟨by first | rfl | (simp [errW_none, errW_some] <;> rfl) | (simp [*, errW_none, errW_some] <;> rfl), by repeat (first | (with_reducible first | exact HB.out | apply below_alloc | apply pw_below_drewN | apply below_drew1 | refine below_set ?_ GE117.out) | exact HB.out)⟩
              rw [if_neg c18] at H
              have c18b0 : decide (80 < (((rd_T43 l0_2 x4_3).f4).size : Int)) = false := decide_eq_false c18
              have c18b1 : decide (80 < ((rd_T43 l0_2 x4_3).f4).size) = false := decide_eq_false (by omega)
              clear c18
              have H' := Aside0.mk H
              clear H
              have hcz20_0 : wr.cell? ⟨gb117, 0, none⟩ = some (.string a0_0) := (blk_cell BK117.out 0).trans rfl
              have hcz20_1 : wr.cell? ⟨gb117, 1, none⟩ = some (.slice A0_1 l0_1.length c0_1) := (blk_cell BK117.out 1).trans rfl
              have hcz20_2 : wr.cell? ⟨gb117, 2, none⟩ = some (.slice A0_2 l0_2.length c0_2) := (blk_cell BK117.out 2).trans rfl
              have hfz20_0 := blk_frozen BK117.out 0
              have hfz20_1 := blk_frozen BK117.out 1
              have hfz20_2 := blk_frozen BK117.out 2
              have p119 : 0 ≤ (x4_3 : Int) := of_decide_eq_true bb3_7
              have q119 : x4_3 < (l0_2.length : Int) := of_decide_eq_true bb3_7
              obtain ⟨ad119, e119, hx119_0, hx119_1, hx119_2, hx119_3, hx119_4⟩ := at_T43 HR0_2.out x4_3 p119 q119
              cases e119
              replace hx119_0 := (HB.out.cell (World.block_lt_of_cell? w _ hx119_0)).trans hx119_0
              replace hx119_1 := (HB.out.cell (World.block_lt_of_cell? w _ hx119_1)).trans hx119_1
              replace hx119_2 := (HB.out.cell (World.block_lt_of_cell? w _ hx119_2)).trans hx119_2
              replace hx119_3 := (HB.out.cell (World.block_lt_of_cell? w _ hx119_3)).trans hx119_3
              replace hx119_4 := (HB.out.cell (World.block_lt_of_cell? w _ hx119_4)).trans hx119_4
              replace p119 := eq_true p119
              replace q119 := eq_true q119
              go_wp2
              go_roundg k3
              case measure => have := HJ1.out; have := HK2.out; have := HK3.out; omega
              case rel => exact ⟨(wrap64 (x4_3 + 1)), bd3_8, H', ⟨by have := HJ1.out; have := HK2.out; have := HK3.out; omega⟩, ⟨by (with_reducible repeat (first | refine blk_drewN ?_ _ | refine blk_drew ?_ | refine blk_alloc ?_ _)); exact BK117.out⟩, ⟨by repeat (first | (with_reducible first | exact HB.out | apply below_alloc | apply pw_below_drewN | apply below_drew1 | refine below_set ?_ GE117.out) | exact HB.out)⟩⟩

/-! ### orders_class: function 14 -/
def orders_class.f (a0_0 : ByteArray) (l0_1 : List (S41)) (l0_2 : List (S43)) (a1 : Int) : Option (Int) := if a1 < 1 then (some 0) else (if a1 > (l0_1.length : Int) then (some 0) else (if 0 ≤ (wrap64 (a1 - 1)) then (if (wrap64 (a1 - 1)) < (l0_1.length : Int) then (some ((rd_T41 l0_1 (wrap64 (a1 - 1))).f2)) else (none)) else (none)))
set_option maxHeartbeats 8000000 in
set_option maxRecDepth 100000 in
theorem orders_class.calls (a0_0 : ByteArray) (A0_1 : Option Addr) (c0_1 : Nat) (l0_1 : List (S41)) (A0_2 : Option Addr) (c0_2 : Nat) (l0_2 : List (S43)) (a1 : Int) (r : Int) (w : World) (hr0_1 : Kd.C k41 w A0_1 l0_1.length l0_1) (hc0_1 : l0_1.length ≤ c0_1) (hr0_2 : Kd.C k43 w A0_2 l0_2.length l0_2) (hc0_2 : l0_2.length ≤ c0_2) (h : orders_class.f a0_0 l0_1 l0_2 a1 = some r) :
    Calls Tryz.prog 14 #[.agg #[.string a0_0, .slice A0_1 l0_1.length c0_1, .slice A0_2 l0_2.length c0_2], .int .i64 a1] w fun e w' => e = .returned (.int .i64 r) ∧ Below w.heap.size w w' := by
  have hu25 := Tryz.underlying25
  have HR0_1 := Aside0.mk hr0_1
  have HC0_1 := Aside0.mk hc0_1
  clear hr0_1 hc0_1
  have HR0_2 := Aside0.mk hr0_2
  have HC0_2 := Aside0.mk hc0_2
  clear hr0_2 hc0_2
  have HB := Aside0.mk (Below.refl w.heap.size w)
  unfold orders_class.f at h
  have H := h
  clear h
  by_cases c3 : a1 < 1
  · rw [if_pos c3] at H
    have c3b0 := decide_eq_true c3
    clear c3
    obtain rfl := Option.some.inj H
    go_enter Tryz.func14, Tryz.ntmps14
    go_wp2_with (first | ((with_reducible refine gate_dst (N := 2) rfl ?_); (try (refine gate_guard (by rfl) ?_; dsimp only)); refine box_event ?hg (N := 2) ?hd (cs := #[.string a0_0, .slice A0_1 l0_1.length c0_1, .slice A0_2 l0_2.length c0_2]) (t := 25) ?hr ?_; (case hd => rfl); (case hg => rfl); (case hr => first | (go_simp; done) | (go_simp; rfl)); intro gb120 hg w4 hbox hb; have BK120 := Aside0.mk (hbox); have GW120 := Aside0.mk ((by rw [hg]; exact bz3_2 : w.heap.size ≤ gb120)); have GE120 := Aside0.mk ((by rw [hg]; exact bz3_2 : w.heap.size ≤ gb120)); replace HB := Aside0.mk (bs3_0 hb); clear hb hbox hg))
    go_ret
    exact ⟨by first | rfl | (simp [errW_none, errW_some] <;> rfl) | (simp [*, errW_none, errW_some] <;> rfl), by repeat (first | (with_reducible first | exact HB.out | apply below_alloc | apply pw_below_drewN | apply below_drew1 | refine below_set ?_ GE120.out) | exact HB.out)⟩
  rw [if_neg c3] at H
  have c3b0 := decide_eq_false c3
  clear c3
  by_cases c5 : a1 > (l0_1.length : Int)
  · rw [if_pos c5] at H
    have c5b0 : decide ((l0_1.length : Int) < a1) = true := decide_eq_true c5
    clear c5
    obtain rfl := Option.some.inj H
    go_enter Tryz.func14, Tryz.ntmps14
    go_wp2_with (first | ((with_reducible refine gate_dst (N := 2) rfl ?_); (try (refine gate_guard (by rfl) ?_; dsimp only)); refine box_event ?hg (N := 2) ?hd (cs := #[.string a0_0, .slice A0_1 l0_1.length c0_1, .slice A0_2 l0_2.length c0_2]) (t := 25) ?hr ?_; (case hd => rfl); (case hg => rfl); (case hr => first | (go_simp; done) | (go_simp; rfl)); intro gb120 hg w6 hbox hb; have BK120 := Aside0.mk (hbox); have GW120 := Aside0.mk ((by rw [hg]; exact bz3_2 : w.heap.size ≤ gb120)); have GE120 := Aside0.mk ((by rw [hg]; exact bz3_2 : w.heap.size ≤ gb120)); replace HB := Aside0.mk (bs3_0 hb); clear hb hbox hg; have hcz7_0 : w6.cell? ⟨gb120, 0, none⟩ = some (.string a0_0) := (blk_cell BK120.out 0).trans rfl; have hcz7_1 : w6.cell? ⟨gb120, 1, none⟩ = some (.slice A0_1 l0_1.length c0_1) := (blk_cell BK120.out 1).trans rfl; have hcz7_2 : w6.cell? ⟨gb120, 2, none⟩ = some (.slice A0_2 l0_2.length c0_2) := (blk_cell BK120.out 2).trans rfl; have hfz7_0 := blk_frozen BK120.out 0; have hfz7_1 := blk_frozen BK120.out 1; have hfz7_2 := blk_frozen BK120.out 2))
    go_ret
    exact ⟨by first | rfl | (simp [errW_none, errW_some] <;> rfl) | (simp [*, errW_none, errW_some] <;> rfl), by repeat (first | (with_reducible first | exact HB.out | apply below_alloc | apply pw_below_drewN | apply below_drew1 | refine below_set ?_ GE120.out) | exact HB.out)⟩
  rw [if_neg c5] at H
  have c5b0 : decide ((l0_1.length : Int) < a1) = false := decide_eq_false c5
  clear c5
  obtain ⟨ji8, hji8⟩ : ∃ j_ : Int, (wrap64 (a1 - 1)) = j_ := ⟨_, rfl⟩
  replace H : (if 0 ≤ (ji8) then (if (ji8) < (l0_1.length : Int) then (some ((rd_T41 l0_1 (ji8)).f2)) else (none)) else (none)) = some r := by first | (rw [hji8] at H; exact H) | (simp only [hji8] at H ⊢; exact H)
  have hji8w : (IntKind.i64.wrap (a1 - 1)) = ji8 := (i64_w _).trans hji8
  obtain ⟨c9, H⟩ := itS H
  have c9b0 := decide_eq_true c9
  clear c9
  obtain ⟨c10, H⟩ := itS H
  have c10b0 := decide_eq_true c10
  clear c10
  obtain rfl := Option.some.inj H
  go_enter Tryz.func14, Tryz.ntmps14
  go_wp2_with (first | ((with_reducible refine gate_dst (N := 2) rfl ?_); (try (refine gate_guard (by rfl) ?_; dsimp only)); refine box_event ?hg (N := 2) ?hd (cs := #[.string a0_0, .slice A0_1 l0_1.length c0_1, .slice A0_2 l0_2.length c0_2]) (t := 25) ?hr ?_; (case hd => rfl); (case hg => rfl); (case hr => first | (go_simp; done) | (go_simp; rfl)); intro gb120 hg w11 hbox hb; have BK120 := Aside0.mk (hbox); have GW120 := Aside0.mk ((by rw [hg]; exact bz3_2 : w.heap.size ≤ gb120)); have GE120 := Aside0.mk ((by rw [hg]; exact bz3_2 : w.heap.size ≤ gb120)); replace HB := Aside0.mk (bs3_0 hb); clear hb hbox hg; have hcz12_0 : w11.cell? ⟨gb120, 0, none⟩ = some (.string a0_0) := (blk_cell BK120.out 0).trans rfl; have hcz12_1 : w11.cell? ⟨gb120, 1, none⟩ = some (.slice A0_1 l0_1.length c0_1) := (blk_cell BK120.out 1).trans rfl; have hcz12_2 : w11.cell? ⟨gb120, 2, none⟩ = some (.slice A0_2 l0_2.length c0_2) := (blk_cell BK120.out 2).trans rfl; have hfz12_0 := blk_frozen BK120.out 0; have hfz12_1 := blk_frozen BK120.out 1; have hfz12_2 := blk_frozen BK120.out 2; have p121 : 0 ≤ ((ji8) : Int) := of_decide_eq_true bb3_7; have q121 : (ji8) < (l0_1.length : Int) := of_decide_eq_true bb3_7; obtain ⟨ad121, e121, hx121_0, hx121_1, hx121_2, hx121_3, hx121_4⟩ := at_T41 HR0_1.out (ji8) p121 q121; cases e121; replace hx121_0 := (HB.out.cell (World.block_lt_of_cell? w _ hx121_0)).trans hx121_0; replace hx121_1 := (HB.out.cell (World.block_lt_of_cell? w _ hx121_1)).trans hx121_1; replace hx121_2 := (HB.out.cell (World.block_lt_of_cell? w _ hx121_2)).trans hx121_2; replace hx121_3 := (HB.out.cell (World.block_lt_of_cell? w _ hx121_3)).trans hx121_3; replace hx121_4 := (HB.out.cell (World.block_lt_of_cell? w _ hx121_4)).trans hx121_4; replace p121 := eq_true p121; replace q121 := eq_true q121))
  go_ret
  exact ⟨by first | rfl | (simp [errW_none, errW_some] <;> rfl) | (simp only [← hji8]; first | rfl | (simp [errW_none, errW_some] <;> rfl)) | (simp [*, errW_none, errW_some] <;> rfl), by repeat (first | (with_reducible first | exact HB.out | apply below_alloc | apply pw_below_drewN | apply below_drew1 | refine below_set ?_ GE120.out) | exact HB.out)⟩

/-! ### graph_in: function 31 -/
def graph_in.f (a0 : Int) (a1 : Int) (a2 : Int) : Option (Bool) := if a0 ≥ a1 then (some (decide (a0 ≤ a2))) else (some false)
set_option maxHeartbeats 8000000 in
set_option maxRecDepth 100000 in
theorem graph_in.calls (a0 : Int) (a1 : Int) (a2 : Int) (r : Bool) (w : World) (h : graph_in.f a0 a1 a2 = some r) :
    Calls Tryz.prog 31 #[.int .i64 a0, .int .i64 a1, .int .i64 a2] w fun e w' => e = .returned (.bool r) ∧ Drawn0 w w' := by
  unfold graph_in.f at h
  have H := h
  clear h
  by_cases c4 : a0 ≥ a1
  · rw [if_pos c4] at H
    have c4b0 : decide (a1 ≤ a0) = true := decide_eq_true c4
    clear c4
    obtain rfl := Option.some.inj H
    go_enter Tryz.func31, Tryz.ntmps31
    go_wp2
    go_ret
    exact ⟨by first | rfl | (simp; done) | (simp [*]; done), by repeat (first | exact Drawn0.refl _ | apply Drawn0.step)⟩
  rw [if_neg c4] at H
  have c4b0 : decide (a1 ≤ a0) = false := decide_eq_false c4
  clear c4
  obtain rfl := Option.some.inj H
  go_enter Tryz.func31, Tryz.ntmps31
  go_wp2
  go_ret
  exact ⟨by first | rfl | (simp; done) | (simp [*]; done), by repeat (first | exact Drawn0.refl _ | apply Drawn0.step)⟩

/-! ### graph_at: function 22 -/
def graph_at.f (a0_0 : ByteArray) (l0_1 : List (S41)) (l0_2 : List (S43)) (a1 : Int) : Option (Int × Int × Int × Int × ByteArray × Bool) := (graph_in.f a1 1 (l0_1.length : Int)).bind fun t124 => (if t124 = true then (if 0 ≤ (wrap64 (a1 - 1)) then (if (wrap64 (a1 - 1)) < (l0_1.length : Int) then (some ((rd_T41 l0_1 (wrap64 (a1 - 1))).f0, (rd_T41 l0_1 (wrap64 (a1 - 1))).f1, (rd_T41 l0_1 (wrap64 (a1 - 1))).f2, (rd_T41 l0_1 (wrap64 (a1 - 1))).f3, (rd_T41 l0_1 (wrap64 (a1 - 1))).f4, true)) else (none)) else (none)) else (some (0, 0, 0, 0, (⟨#[]⟩ : ByteArray), false)))
set_option maxHeartbeats 8000000 in
set_option maxRecDepth 100000 in
theorem graph_at.calls (a0_0 : ByteArray) (A0_1 : Option Addr) (c0_1 : Nat) (l0_1 : List (S41)) (A0_2 : Option Addr) (c0_2 : Nat) (l0_2 : List (S43)) (a1 : Int) (r1 : Int) (r2 : Int) (r3 : Int) (r4 : Int) (r5 : ByteArray) (r6 : Bool) (w : World) (hr0_1 : Kd.C k41 w A0_1 l0_1.length l0_1) (hc0_1 : l0_1.length ≤ c0_1) (hr0_2 : Kd.C k43 w A0_2 l0_2.length l0_2) (hc0_2 : l0_2.length ≤ c0_2) (h : graph_at.f a0_0 l0_1 l0_2 a1 = some (r1, r2, r3, r4, r5, r6)) :
    Calls Tryz.prog 22 #[.agg #[.string a0_0, .slice A0_1 l0_1.length c0_1, .slice A0_2 l0_2.length c0_2], .int .i64 a1] w fun e w' => e = .returned (.tuple #[.agg #[.int .i64 r1, .int .i64 r2, .int .i64 r3, .int .i64 r4, .string r5], .bool r6]) ∧ Below w.heap.size w w' := by
  have hu25 := Tryz.underlying25
  have hu41 := Tryz.underlying41
  have HR0_1 := Aside0.mk hr0_1
  have HC0_1 := Aside0.mk hc0_1
  clear hr0_1 hc0_1
  have HR0_2 := Aside0.mk hr0_2
  have HC0_2 := Aside0.mk hc0_2
  clear hr0_2 hc0_2
  have HB := Aside0.mk (Below.refl w.heap.size w)
  unfold graph_at.f at h
  have H := h
  clear h
  obtain ⟨t124, A3, H⟩ := bdA H
  by_cases c4 : t124 = true
  rotate_left
  · replace c4 := Bool.eq_false_iff.mpr c4
    subst c4
    rw [if_neg nft] at H
    simp only [Option.some.injEq, Prod.mk.injEq] at H
    obtain ⟨rfl, rfl, rfl, rfl, rfl, rfl⟩ := H
    go_enter Tryz.func22, Tryz.ntmps22
    go_wp2_with (first | ((with_reducible refine gate_dst (N := 2) rfl ?_); refine box_event ?hg (N := 2) ?hd (cs := #[.string a0_0, .slice A0_1 l0_1.length c0_1, .slice A0_2 l0_2.length c0_2]) (t := 25) ?hr ?_; (case hd => rfl); (case hg => rfl); (case hr => first | (go_simp; done) | (go_simp; rfl)); intro gb122 hg w14 hbox hb; have BK122 := Aside0.mk (hbox); have GW122 := Aside0.mk ((by rw [hg]; exact bz3_2 : w.heap.size ≤ gb122)); have GE122 := Aside0.mk ((by rw [hg]; exact bz3_2 : w.heap.size ≤ gb122)); replace HB := Aside0.mk (bs3_0 hb); clear hb hbox hg) | ((with_reducible refine gate_dst (N := 4) rfl ?_); refine box_event ?hg (N := 4) ?hd (cs := #[.int .i64 0, .int .i64 0, .int .i64 0, .int .i64 0, .string (⟨#[]⟩ : ByteArray)]) (t := 41) ?hr ?_; (case hd => rfl); (case hg => rfl); (case hr => first | (go_simp; done) | (go_simp; rfl)); intro gb123 hg w15 hbox hb; have BK123 := Aside0.mk (hbox); have GW123 := Aside0.mk ((by rw [hg]; exact bz3_3 : w.heap.size ≤ gb123)); have GE123 := Aside0.mk ((by rw [hg]; exact bz3_3 : w.heap.size ≤ gb123)); replace HB := Aside0.mk (bs3_1 hb); have NB122_123 := Aside0.mk ((by rw [hg]; exact Nat.ne_of_lt (blk_lt (g := gb122) (o := .cells #[.string a0_0, .slice A0_1 l0_1.length c0_1, .slice A0_2 l0_2.length c0_2] 25 (0, 0)) bb3_5) : gb122 ≠ gb123)); have NB123_122 := Aside0.mk ((by rw [hg]; exact Nat.ne_of_gt (blk_lt (g := gb122) (o := .cells #[.string a0_0, .slice A0_1 l0_1.length c0_1, .slice A0_2 l0_2.length c0_2] 25 (0, 0)) bb3_5) : gb123 ≠ gb122)); replace BK122 := Aside0.mk (bk3_4 (g := gb122) (o := .cells #[.string a0_0, .slice A0_1 l0_1.length c0_1, .slice A0_2 l0_2.length c0_2] 25 (0, 0)) hb); clear hb hbox hg; have hnb16 := NB122_123.out; have hnc16 := NB123_122.out; have hcz17_0 : w15.cell? ⟨gb122, 0, none⟩ = some (.string a0_0) := (blk_cell BK122.out 0).trans rfl; have hcz17_1 : w15.cell? ⟨gb122, 1, none⟩ = some (.slice A0_1 l0_1.length c0_1) := (blk_cell BK122.out 1).trans rfl; have hcz17_2 : w15.cell? ⟨gb122, 2, none⟩ = some (.slice A0_2 l0_2.length c0_2) := (blk_cell BK122.out 2).trans rfl; have hfz17_0 := blk_frozen BK122.out 0; have hfz17_1 := blk_frozen BK122.out 1; have hfz17_2 := blk_frozen BK122.out 2) | ((with_reducible refine gate_callee (f := 31) rfl ?_); refine goesL_ (some 10) rfl rfl Tryz.func31 (by kernel_rfl) rfl #[.int .i64 a1, .int .i64 1, .int .i64 (l0_1.length : Int)] rfl (by (try simp only [List.map_toArray, List.map_cons, List.map_nil]); first | done | rfl | (simp only [List.length_drop, List.length_take]; rfl)) ?_; (with_reducible refine (graph_in.calls a1 1 (l0_1.length : Int) false _ A3.out).mono ?_); rintro e w' ⟨rfl, ⟨nd, rfl⟩⟩; refine ⟨_, rfl, ?_⟩; (try (rw [drewN_self w15]; generalize hq_ : World.drewN w15 _ = w15; have n0_ : Aside0 (w15.heap[gb122]? = some (.cells #[.string a0_0, .slice A0_1 l0_1.length c0_1, .slice A0_2 l0_2.length c0_2] 25 (0, 0))) := ⟨by rw [← hq_]; exact bb3_5⟩; have n1_ : Aside0 (w15.heap[gb123]? = some (.cells #[.int .i64 0, .int .i64 0, .int .i64 0, .int .i64 0, .string (⟨#[]⟩ : ByteArray)] 41 (0, 0))) := ⟨by rw [← hq_]; exact bb3_6⟩; have n2_ : Aside0 (Below w.heap.size w w15) := ⟨by rw [← hq_]; exact bh3_9⟩; clear BK122 BK123 HB hq_; have BK122 := n0_; have BK123 := n1_; have HB := n2_; clear n0_ n1_ n2_)); have hcz18_0 : w15.cell? ⟨gb123, 0, none⟩ = some (.int .i64 0) := (blk_cell BK123.out 0).trans rfl; have hcz18_1 : w15.cell? ⟨gb123, 1, none⟩ = some (.int .i64 0) := (blk_cell BK123.out 1).trans rfl; have hcz18_2 : w15.cell? ⟨gb123, 2, none⟩ = some (.int .i64 0) := (blk_cell BK123.out 2).trans rfl; have hcz18_3 : w15.cell? ⟨gb123, 3, none⟩ = some (.int .i64 0) := (blk_cell BK123.out 3).trans rfl; have hcz18_4 : w15.cell? ⟨gb123, 4, none⟩ = some (.string (⟨#[]⟩ : ByteArray)) := (blk_cell BK123.out 4).trans rfl; have hfz18_0 := blk_frozen BK123.out 0; have hfz18_1 := blk_frozen BK123.out 1; have hfz18_2 := blk_frozen BK123.out 2; have hfz18_3 := blk_frozen BK123.out 3; have hfz18_4 := blk_frozen BK123.out 4))
    refine bodyPost_ret (results_ct rfl _ _ gb123 41 #[.int .i64 0, .int .i64 0, .int .i64 0, .int .i64 0, .string (⟨#[]⟩ : ByteArray)] (0, 0) _ rfl (by (with_reducible repeat (first | refine blk_drewN ?_ _ | refine blk_drew ?_ | refine blk_alloc ?_ _)); refine blk_put (cs := #[.int .i64 0, .int .i64 0, .int .i64 0, .int .i64 0, .string (⟨#[]⟩ : ByteArray)]) ?_ 4 _ rfl; (with_reducible repeat (first | refine blk_drewN ?_ _ | refine blk_drew ?_ | refine blk_alloc ?_ _)); refine blk_put (cs := #[.int .i64 0, .int .i64 0, .int .i64 0, .int .i64 0, .string (⟨#[]⟩ : ByteArray)]) ?_ 3 _ rfl; (with_reducible repeat (first | refine blk_drewN ?_ _ | refine blk_drew ?_ | refine blk_alloc ?_ _)); refine blk_put (cs := #[.int .i64 0, .int .i64 0, .int .i64 0, .int .i64 0, .string (⟨#[]⟩ : ByteArray)]) ?_ 2 _ rfl; (with_reducible repeat (first | refine blk_drewN ?_ _ | refine blk_drew ?_ | refine blk_alloc ?_ _)); refine blk_put (cs := #[.int .i64 0, .int .i64 0, .int .i64 0, .int .i64 0, .string (⟨#[]⟩ : ByteArray)]) ?_ 1 _ rfl; (with_reducible repeat (first | refine blk_drewN ?_ _ | refine blk_drew ?_ | refine blk_alloc ?_ _)); refine blk_put (cs := #[.int .i64 0, .int .i64 0, .int .i64 0, .int .i64 0, .string (⟨#[]⟩ : ByteArray)]) ?_ 0 _ rfl; (with_reducible repeat (first | refine blk_drewN ?_ _ | refine blk_drew ?_ | refine blk_alloc ?_ _)); exact BK123.out) Tryz.underlying41 rfl (by kernel_rfl)) rfl ?_
    exact ⟨by first | rfl | (simp [errW_none, errW_some] <;> rfl) | (simp [*, errW_none, errW_some] <;> rfl), by repeat (first | (with_reducible first | exact HB.out | apply below_alloc | apply pw_below_drewN | apply below_drew1 | refine below_set ?_ GE122.out | refine below_set ?_ GE123.out) | exact HB.out)⟩
  subst c4
  rw [if_pos rfl] at H
  obtain ⟨ji5, hji5⟩ : ∃ j_ : Int, (wrap64 (a1 - 1)) = j_ := ⟨_, rfl⟩
  replace H : (if 0 ≤ (ji5) then (if (ji5) < (l0_1.length : Int) then (some ((rd_T41 l0_1 (ji5)).f0, (rd_T41 l0_1 (ji5)).f1, (rd_T41 l0_1 (ji5)).f2, (rd_T41 l0_1 (ji5)).f3, (rd_T41 l0_1 (ji5)).f4, true)) else (none)) else (none)) = some (r1, r2, r3, r4, r5, r6) := by first | (rw [hji5] at H; exact H) | (simp only [hji5] at H ⊢; exact H)
  (try rw [hji5] at A3)
  have hji5w : (IntKind.i64.wrap (a1 - 1)) = ji5 := (i64_w _).trans hji5
  obtain ⟨c6, H⟩ := itS H
  have c6b0 := decide_eq_true c6
  clear c6
  obtain ⟨c7, H⟩ := itS H
  have c7b0 := decide_eq_true c7
  clear c7
  simp only [Option.some.injEq, Prod.mk.injEq] at H
  obtain ⟨rfl, rfl, rfl, rfl, rfl, rfl⟩ := H
  go_enter Tryz.func22, Tryz.ntmps22
  go_wp2_with (first | ((with_reducible refine gate_dst (N := 2) rfl ?_); refine box_event ?hg (N := 2) ?hd (cs := #[.string a0_0, .slice A0_1 l0_1.length c0_1, .slice A0_2 l0_2.length c0_2]) (t := 25) ?hr ?_; (case hd => rfl); (case hg => rfl); (case hr => first | (go_simp; done) | (go_simp; rfl)); intro gb122 hg w8 hbox hb; have BK122 := Aside0.mk (hbox); have GW122 := Aside0.mk ((by rw [hg]; exact bz3_2 : w.heap.size ≤ gb122)); have GE122 := Aside0.mk ((by rw [hg]; exact bz3_2 : w.heap.size ≤ gb122)); replace HB := Aside0.mk (bs3_0 hb); clear hb hbox hg) | ((with_reducible refine gate_dst (N := 4) rfl ?_); refine box_event ?hg (N := 4) ?hd (cs := #[.int .i64 0, .int .i64 0, .int .i64 0, .int .i64 0, .string (⟨#[]⟩ : ByteArray)]) (t := 41) ?hr ?_; (case hd => rfl); (case hg => rfl); (case hr => first | (go_simp; done) | (go_simp; rfl)); intro gb123 hg w9 hbox hb; have BK123 := Aside0.mk (hbox); have GW123 := Aside0.mk ((by rw [hg]; exact bz3_3 : w.heap.size ≤ gb123)); have GE123 := Aside0.mk ((by rw [hg]; exact bz3_3 : w.heap.size ≤ gb123)); replace HB := Aside0.mk (bs3_1 hb); have NB122_123 := Aside0.mk ((by rw [hg]; exact Nat.ne_of_lt (blk_lt (g := gb122) (o := .cells #[.string a0_0, .slice A0_1 l0_1.length c0_1, .slice A0_2 l0_2.length c0_2] 25 (0, 0)) bb3_5) : gb122 ≠ gb123)); have NB123_122 := Aside0.mk ((by rw [hg]; exact Nat.ne_of_gt (blk_lt (g := gb122) (o := .cells #[.string a0_0, .slice A0_1 l0_1.length c0_1, .slice A0_2 l0_2.length c0_2] 25 (0, 0)) bb3_5) : gb123 ≠ gb122)); replace BK122 := Aside0.mk (bk3_4 (g := gb122) (o := .cells #[.string a0_0, .slice A0_1 l0_1.length c0_1, .slice A0_2 l0_2.length c0_2] 25 (0, 0)) hb); clear hb hbox hg; have hnb10 := NB122_123.out; have hnc10 := NB123_122.out; have hcz11_0 : w9.cell? ⟨gb122, 0, none⟩ = some (.string a0_0) := (blk_cell BK122.out 0).trans rfl; have hcz11_1 : w9.cell? ⟨gb122, 1, none⟩ = some (.slice A0_1 l0_1.length c0_1) := (blk_cell BK122.out 1).trans rfl; have hcz11_2 : w9.cell? ⟨gb122, 2, none⟩ = some (.slice A0_2 l0_2.length c0_2) := (blk_cell BK122.out 2).trans rfl; have hfz11_0 := blk_frozen BK122.out 0; have hfz11_1 := blk_frozen BK122.out 1; have hfz11_2 := blk_frozen BK122.out 2) | ((with_reducible refine gate_callee (f := 31) rfl ?_); refine goesL_ (some 10) rfl rfl Tryz.func31 (by kernel_rfl) rfl #[.int .i64 a1, .int .i64 1, .int .i64 (l0_1.length : Int)] rfl (by (try simp only [List.map_toArray, List.map_cons, List.map_nil]); first | done | rfl | (simp only [List.length_drop, List.length_take]; rfl)) ?_; (with_reducible refine (graph_in.calls a1 1 (l0_1.length : Int) true _ A3.out).mono ?_); rintro e w' ⟨rfl, ⟨nd, rfl⟩⟩; refine ⟨_, rfl, ?_⟩; (try (rw [drewN_self w9]; generalize hq_ : World.drewN w9 _ = w9; have n0_ : Aside0 (w9.heap[gb122]? = some (.cells #[.string a0_0, .slice A0_1 l0_1.length c0_1, .slice A0_2 l0_2.length c0_2] 25 (0, 0))) := ⟨by rw [← hq_]; exact bb3_5⟩; have n1_ : Aside0 (w9.heap[gb123]? = some (.cells #[.int .i64 0, .int .i64 0, .int .i64 0, .int .i64 0, .string (⟨#[]⟩ : ByteArray)] 41 (0, 0))) := ⟨by rw [← hq_]; exact bb3_6⟩; have n2_ : Aside0 (Below w.heap.size w w9) := ⟨by rw [← hq_]; exact bh3_9⟩; clear BK122 BK123 HB hq_; have BK122 := n0_; have BK123 := n1_; have HB := n2_; clear n0_ n1_ n2_)); have hcz12_0 : w9.cell? ⟨gb122, 0, none⟩ = some (.string a0_0) := (blk_cell BK122.out 0).trans rfl; have hcz12_1 : w9.cell? ⟨gb122, 1, none⟩ = some (.slice A0_1 l0_1.length c0_1) := (blk_cell BK122.out 1).trans rfl; have hcz12_2 : w9.cell? ⟨gb122, 2, none⟩ = some (.slice A0_2 l0_2.length c0_2) := (blk_cell BK122.out 2).trans rfl; have hfz12_0 := blk_frozen BK122.out 0; have hfz12_1 := blk_frozen BK122.out 1; have hfz12_2 := blk_frozen BK122.out 2; have p125 : 0 ≤ ((ji5) : Int) := of_decide_eq_true bb3_7; have q125 : (ji5) < (l0_1.length : Int) := of_decide_eq_true bb3_7; obtain ⟨ad125, e125, hx125_0, hx125_1, hx125_2, hx125_3, hx125_4⟩ := at_T41 HR0_1.out (ji5) p125 q125; cases e125; replace hx125_0 := (HB.out.cell (World.block_lt_of_cell? w _ hx125_0)).trans hx125_0; replace hx125_1 := (HB.out.cell (World.block_lt_of_cell? w _ hx125_1)).trans hx125_1; replace hx125_2 := (HB.out.cell (World.block_lt_of_cell? w _ hx125_2)).trans hx125_2; replace hx125_3 := (HB.out.cell (World.block_lt_of_cell? w _ hx125_3)).trans hx125_3; replace hx125_4 := (HB.out.cell (World.block_lt_of_cell? w _ hx125_4)).trans hx125_4; replace p125 := eq_true p125; replace q125 := eq_true q125; have hcz13_0 : w9.cell? ⟨gb123, 0, none⟩ = some (.int .i64 0) := (blk_cell BK123.out 0).trans rfl; have hcz13_1 : w9.cell? ⟨gb123, 1, none⟩ = some (.int .i64 0) := (blk_cell BK123.out 1).trans rfl; have hcz13_2 : w9.cell? ⟨gb123, 2, none⟩ = some (.int .i64 0) := (blk_cell BK123.out 2).trans rfl; have hcz13_3 : w9.cell? ⟨gb123, 3, none⟩ = some (.int .i64 0) := (blk_cell BK123.out 3).trans rfl; have hcz13_4 : w9.cell? ⟨gb123, 4, none⟩ = some (.string (⟨#[]⟩ : ByteArray)) := (blk_cell BK123.out 4).trans rfl; have hfz13_0 := blk_frozen BK123.out 0; have hfz13_1 := blk_frozen BK123.out 1; have hfz13_2 := blk_frozen BK123.out 2; have hfz13_3 := blk_frozen BK123.out 3; have hfz13_4 := blk_frozen BK123.out 4))
  refine bodyPost_ret (results_ct rfl _ _ gb123 41 #[.int .i64 ((rd_T41 l0_1 (ji5)).f0), .int .i64 ((rd_T41 l0_1 (ji5)).f1), .int .i64 ((rd_T41 l0_1 (ji5)).f2), .int .i64 ((rd_T41 l0_1 (ji5)).f3), .string ((rd_T41 l0_1 (ji5)).f4)] (0, 0) _ rfl (by (with_reducible repeat (first | refine blk_drewN ?_ _ | refine blk_drew ?_ | refine blk_alloc ?_ _)); refine blk_put (cs := #[.int .i64 ((rd_T41 l0_1 (ji5)).f0), .int .i64 ((rd_T41 l0_1 (ji5)).f1), .int .i64 ((rd_T41 l0_1 (ji5)).f2), .int .i64 ((rd_T41 l0_1 (ji5)).f3), .string (⟨#[]⟩ : ByteArray)]) ?_ 4 _ rfl; (with_reducible repeat (first | refine blk_drewN ?_ _ | refine blk_drew ?_ | refine blk_alloc ?_ _)); refine blk_put (cs := #[.int .i64 ((rd_T41 l0_1 (ji5)).f0), .int .i64 ((rd_T41 l0_1 (ji5)).f1), .int .i64 ((rd_T41 l0_1 (ji5)).f2), .int .i64 0, .string (⟨#[]⟩ : ByteArray)]) ?_ 3 _ rfl; (with_reducible repeat (first | refine blk_drewN ?_ _ | refine blk_drew ?_ | refine blk_alloc ?_ _)); refine blk_put (cs := #[.int .i64 ((rd_T41 l0_1 (ji5)).f0), .int .i64 ((rd_T41 l0_1 (ji5)).f1), .int .i64 0, .int .i64 0, .string (⟨#[]⟩ : ByteArray)]) ?_ 2 _ rfl; (with_reducible repeat (first | refine blk_drewN ?_ _ | refine blk_drew ?_ | refine blk_alloc ?_ _)); refine blk_put (cs := #[.int .i64 ((rd_T41 l0_1 (ji5)).f0), .int .i64 0, .int .i64 0, .int .i64 0, .string (⟨#[]⟩ : ByteArray)]) ?_ 1 _ rfl; (with_reducible repeat (first | refine blk_drewN ?_ _ | refine blk_drew ?_ | refine blk_alloc ?_ _)); refine blk_put (cs := #[.int .i64 0, .int .i64 0, .int .i64 0, .int .i64 0, .string (⟨#[]⟩ : ByteArray)]) ?_ 0 _ rfl; (with_reducible repeat (first | refine blk_drewN ?_ _ | refine blk_drew ?_ | refine blk_alloc ?_ _)); exact BK123.out) Tryz.underlying41 rfl (by kernel_rfl)) rfl ?_
  exact ⟨by first | rfl | (simp [errW_none, errW_some] <;> rfl) | (simp only [← hji5]; first | rfl | (simp [errW_none, errW_some] <;> rfl)) | (simp [*, errW_none, errW_some] <;> rfl), by repeat (first | (with_reducible first | exact HB.out | apply below_alloc | apply pw_below_drewN | apply below_drew1 | refine below_set ?_ GE122.out | refine below_set ?_ GE123.out) | exact HB.out)⟩

end Go.Proofs.YtflnkchpfbcgiaaGreatDoor.Q
