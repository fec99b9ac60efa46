-- Written by this session's program xprint.py (which runs the kit's print with some functions given by hand). Lean checks it.
import Derived.Test.YtflnkchpfbcgiaaGreatDoorQx0
import Derived.Test.YtflnkchpfbcgiaaGreatDoorQx2
import Derived.Test.YtflnkchpfbcgiaaGreatDoorHLib
import Derived.Test.YtflnkchpfbcgiaaGreatDoorHSpan
namespace Go.Proofs.YtflnkchpfbcgiaaGreatDoor.Q
open Go.RowKit Go.Proofs.YtflnkchpfbcgiaaGreatDoorW.PrintWords Go.Proofs.YtflnkchpfbcgiaaGreatDoorW.PrintLast Go.Proofs.YtflnkchpfbcgiaaGreatDoorW.PrintMore
attribute [local go_sem] max2_int min2_int max_two min_two max_three min_three max_four min_four   -- for this text's walks alone
set_option linter.unusedVariables false
set_option linter.unusedSimpArgs false
theorem bs4_0 {w W w2 : World} (k : Below W.heap.size W w2) (h : Below w.heap.size w W := by repeat (first | (with_reducible first | exact HB.out | apply below_alloc | apply pw_below_drewN | apply below_drew1) | exact HB.out)) : Below w.heap.size w w2 := below_step h k
theorem bs4_1 {w W w2 : World} (k : Below W.heap.size W w2) (h : Below w.heap.size w W := by repeat (first | (with_reducible first | exact HB.out | apply below_alloc | apply pw_below_drewN | apply below_drew1 | refine below_set ?_ GE130.out) | exact HB.out)) : Below w.heap.size w w2 := below_step h k
theorem bz4_2 {w W : World} (h : Below w.heap.size w W := by repeat (first | (with_reducible first | exact HB.out | apply below_alloc | apply pw_below_drewN | apply below_drew1) | exact HB.out)) : w.heap.size ≤ W.heap.size := below_size h
theorem bk4_3 {w w1 : World} {g : Nat} {o : Obj} (hb : Below w.heap.size w w1) (h : w.heap[g]? = some o := by (with_reducible repeat (first | refine blk_drewN ?_ _ | refine blk_drew ?_ | refine blk_alloc ?_ _)); exact BK130.out) : w1.heap[g]? = some o := blk_below h hb
theorem bb4_4 {w : World} {g : Nat} {o : Obj} (h : w.heap[g]? = some o := by (with_reducible repeat (first | refine blk_drewN ?_ _ | refine blk_drew ?_ | refine blk_alloc ?_ _)); exact BK130.out) : w.heap[g]? = some o := h
theorem ba4_5 {p : Prop} (h : p := by (try simp only [List.map_toArray, List.map_cons, List.map_nil]); first | done | rfl | (simp only [List.length_drop, List.length_take]; rfl)) : p := h
theorem bb4_6 {p : Prop} (h : p := by first | (with_reducible assumption) | assumption) : p := h
theorem bd4_7 {p : Prop} (h : p := by first | rfl | (simp; done) | (simp [*]; done)) : p := h
theorem bh4_8 {w W : World} (h : Below w.heap.size w W := by repeat (first | (with_reducible first | exact HB.out | apply below_alloc | apply pw_below_drewN | apply below_drew1 | refine below_set ?_ GE130.out) | exact HB.out)) : Below w.heap.size w W := h


-- BY HAND: function 76 (stringslite_Index)
/-! ### stringslite_Cut: function 68 -/
def stringslite_Cut.f (a0 : ByteArray) (a1 : ByteArray) : Option (ByteArray × ByteArray × Bool) := (stringslite_Index.f a0 a1).bind fun t126 => (if t126 ≥ 0 then (if 0 ≤ t126 then (if t126 ≤ (a0.size : Int) then (if 0 ≤ (wrap64 (t126 + (a1.size : Int))) then (if (wrap64 (t126 + (a1.size : Int))) ≤ (a0.size : Int) then (some (a0.extract 0 (t126 : Int).toNat, a0.extract ((wrap64 (t126 + (a1.size : Int))) : Int).toNat a0.size, true)) else (none)) else (none)) else (none)) else (none)) else (some (a0, (⟨#[]⟩ : ByteArray), false)))
set_option maxHeartbeats 8000000 in
set_option maxRecDepth 100000 in
theorem stringslite_Cut.calls (a0 : ByteArray) (a1 : ByteArray) (r1 : ByteArray) (r2 : ByteArray) (r3 : Bool) (w : World) (h : stringslite_Cut.f a0 a1 = some (r1, r2, r3)) :
    Calls Tryz.prog 68 #[.string a0, .string a1] w fun e w' => e = .returned (.tuple #[.string r1, .string r2, .bool r3]) ∧ Drawn0 w w' := by
  unfold stringslite_Cut.f at h
  have H := h
  clear h
  obtain ⟨t126, A3, H⟩ := bdA H
  by_cases c4 : t126 ≥ 0
  rotate_left
  · rw [if_neg c4] at H
    have c4b0 : decide (0 ≤ t126) = false := decide_eq_false c4
    clear c4
    simp only [Option.some.injEq, Prod.mk.injEq] at H
    obtain ⟨rfl, rfl, rfl⟩ := H
    go_enter Tryz.func68, Tryz.ntmps68
    go_wp2_with (first | (go_at_call 76; (with_reducible refine (stringslite_Index.calls a0 a1 t126 _ A3.out).mono ?_); rintro e w' ⟨rfl, ⟨nd, rfl⟩⟩; (try first | exact ⟨rfl, _, World.drewN_drewN _ _ _⟩ | exact ⟨rfl, _, Eq.trans (World.drewN_drewN _ _ _) (congrArg (World.drewN _) (Nat.add_assoc _ _ _))⟩)))
    repeat (go_quiet (first | (go_at_call 76; (with_reducible refine (stringslite_Index.calls a0 a1 t126 _ A3.out).mono ?_); rintro e w' ⟨rfl, ⟨nd, rfl⟩⟩; (try first | exact ⟨rfl, _, World.drewN_drewN _ _ _⟩ | exact ⟨rfl, _, Eq.trans (World.drewN_drewN _ _ _) (congrArg (World.drewN _) (Nat.add_assoc _ _ _))⟩))); try go_wp2_with (first | (go_at_call 76; (with_reducible refine (stringslite_Index.calls a0 a1 t126 _ A3.out).mono ?_); rintro e w' ⟨rfl, ⟨nd, rfl⟩⟩; (try first | exact ⟨rfl, _, World.drewN_drewN _ _ _⟩ | exact ⟨rfl, _, Eq.trans (World.drewN_drewN _ _ _) (congrArg (World.drewN _) (Nat.add_assoc _ _ _))⟩))))
    go_ret3
    exact ⟨by first | rfl | (simp; done) | (simp [*]; done), by repeat (first | exact Drawn0.refl _ | apply Drawn0.step)⟩
  rw [if_pos c4] at H
  have c4b0 : decide (0 ≤ t126) = true := decide_eq_true c4
  clear c4
  obtain ⟨c5b0, c5b1, H⟩ := itF H
  obtain ⟨c6b0, c6b1, H⟩ := itF H
  obtain ⟨ji7, hji7⟩ : ∃ j_ : Int, (wrap64 (t126 + (a1.size : Int))) = j_ := ⟨_, rfl⟩
  replace H : (if 0 ≤ (ji7) then (if (ji7) ≤ (a0.size : Int) then (some (a0.extract 0 (t126 : Int).toNat, a0.extract ((ji7) : Int).toNat a0.size, true)) else (none)) else (none)) = some (r1, r2, r3) := by first | (rw [hji7] at H; exact H) | (simp only [hji7] at H ⊢; exact H)
  (try rw [hji7] at A3)
  have hji7w : (IntKind.i64.wrap (t126 + (a1.size : Int))) = ji7 := (i64_w _).trans hji7
  obtain ⟨c8b0, c8b1, H⟩ := itF H
  obtain ⟨c9b0, c9b1, H⟩ := itF H
  simp only [Option.some.injEq, Prod.mk.injEq] at H
  obtain ⟨rfl, rfl, rfl⟩ := H
  go_enter Tryz.func68, Tryz.ntmps68
  go_wp2_with (first | (go_at_call 76; (with_reducible refine (stringslite_Index.calls a0 a1 t126 _ A3.out).mono ?_); rintro e w' ⟨rfl, ⟨nd, rfl⟩⟩; (try first | exact ⟨rfl, _, World.drewN_drewN _ _ _⟩ | exact ⟨rfl, _, Eq.trans (World.drewN_drewN _ _ _) (congrArg (World.drewN _) (Nat.add_assoc _ _ _))⟩)))
  repeat (go_quiet (first | (go_at_call 76; (with_reducible refine (stringslite_Index.calls a0 a1 t126 _ A3.out).mono ?_); rintro e w' ⟨rfl, ⟨nd, rfl⟩⟩; (try first | exact ⟨rfl, _, World.drewN_drewN _ _ _⟩ | exact ⟨rfl, _, Eq.trans (World.drewN_drewN _ _ _) (congrArg (World.drewN _) (Nat.add_assoc _ _ _))⟩))); try go_wp2_with (first | (go_at_call 76; (with_reducible refine (stringslite_Index.calls a0 a1 t126 _ A3.out).mono ?_); rintro e w' ⟨rfl, ⟨nd, rfl⟩⟩; (try first | exact ⟨rfl, _, World.drewN_drewN _ _ _⟩ | exact ⟨rfl, _, Eq.trans (World.drewN_drewN _ _ _) (congrArg (World.drewN _) (Nat.add_assoc _ _ _))⟩))))
  go_ret3
  exact ⟨by first | rfl | (simp; done) | (simp only [← hji7] <;> (first | rfl | simp)) | (simp [*]; done), by repeat (first | exact Drawn0.refl _ | apply Drawn0.step)⟩

/-! ### strings_Cut: function 52 -/
def strings_Cut.f (a0 : ByteArray) (a1 : ByteArray) : Option (ByteArray × ByteArray × Bool) := (stringslite_Cut.f a0 a1).bind fun bt127 => (some (bt127.1, bt127.2.1, bt127.2.2))
set_option maxHeartbeats 8000000 in
set_option maxRecDepth 100000 in
theorem strings_Cut.calls (a0 : ByteArray) (a1 : ByteArray) (r1 : ByteArray) (r2 : ByteArray) (r3 : Bool) (w : World) (h : strings_Cut.f a0 a1 = some (r1, r2, r3)) :
    Calls Tryz.prog 52 #[.string a0, .string a1] w fun e w' => e = .returned (.tuple #[.string r1, .string r2, .bool r3]) ∧ Drawn0 w w' := by
  unfold strings_Cut.f at h
  have H := h
  clear h
  obtain ⟨⟨t127, t128, t129⟩, A3, H⟩ := bdA H
  dsimp only at H
  simp only [Option.some.injEq, Prod.mk.injEq] at H
  obtain ⟨rfl, rfl, rfl⟩ := H
  go_enter Tryz.func52, Tryz.ntmps52
  go_wp2_with (first | ((with_reducible refine gate_callee (f := 68) rfl ?_); refine goesL_ (some 9) rfl rfl Tryz.func68 (by kernel_rfl) rfl #[.string a0, .string a1] rfl ba4_5 ?_; (with_reducible refine (stringslite_Cut.calls a0 a1 t127 t128 t129 _ A3.out).mono ?_); rintro e w' ⟨rfl, ⟨nd, rfl⟩⟩; refine ⟨_, rfl, ?_⟩))
  go_ret3
  exact ⟨by first | rfl | (simp; done) | (simp [*]; done), by repeat (first | exact Drawn0.refl _ | apply Drawn0.step)⟩

-- BY HAND: function 53 (strconv_Atoi)
/-! ### cycle_Parse: function 33 -/
mutual
def cycle_Parse.j0 : Nat → ByteArray → ByteArray → Bool → Bool → Option (Int × Int × Int)
  | 0, _, _, _, _ => none
  | k + 1, x4, x6, x7, x31 => if x31 = true then (some (0, 0, 5)) else (cycle_Parse.l0 k x4 x6 x7 (x6.size : Int) 0)
def cycle_Parse.l0 : Nat → ByteArray → ByteArray → Bool → Int → Int → Option (Int × Int × Int)
  | 0, _, _, _, _, _ => none
  | k + 1, x4, x6, x7, x34, x35 => if x35 < x34 then (if 0 ≤ x35 then (if x35 < (x6.size : Int) then (if (bt x6 x35) < 48 then (some (0, 0, 2)) else (if (bt x6 x35) > 57 then (some (0, 0, 2)) else (cycle_Parse.l0 k x4 x6 x7 x34 (wrap64 (x35 + 1))))) else (none)) else (none)) else (if x7 = true then (if (x6.size : Int) > 7 then (cycle_Parse.j2 k x4 x6 true) else (if 0 < (x6.size : Int) then (cycle_Parse.j2 k x4 x6 ((bt x6 0) == 48)) else (none))) else (cycle_Parse.j2 k x4 x6 true))
def cycle_Parse.j2 : Nat → ByteArray → ByteArray → Bool → Option (Int × Int × Int)
  | 0, _, _, _ => none
  | k + 1, x4, x6, x61 => if x61 = true then (some (0, 0, 2)) else ((strconv_Atoi.f x6).bind fun bt136 => (if bt136.1 > 1000000 then (some (0, 0, 3)) else ((span_Parse.f k x4).bind fun bt138 => (if bt138.2 = 0 then (if bt138.1 = 0 then (some (0, 0, 6)) else (some (bt136.1, bt138.1, 0))) else (some (0, 0, bt138.2))))))
end
def cycle_Parse.f (k : Nat) (a0 : ByteArray) : Option (Int × Int × Int) := (strings_CutPrefix.f a0 (⟨#[82]⟩ : ByteArray)).bind fun bt131 => (if bt131.2 = true then ((strings_Cut.f bt131.1 (⟨#[47]⟩ : ByteArray)).bind fun bt133 => (if bt133.2.2 = true then (cycle_Parse.j0 k bt133.2.1 bt133.1 bt133.2.2 (bt133.1.toList == ([] : List UInt8))) else (cycle_Parse.j0 k bt133.2.1 bt133.1 bt133.2.2 false))) else (some (0, 0, 2)))
theorem cycle_Parse.mono_l : ∀ k, (∀ y0 y1 y2 y3, LeO (cycle_Parse.j0 k y0 y1 y2 y3) (cycle_Parse.j0 (k + 1) y0 y1 y2 y3)) ∧ (∀ y0 y1 y2 y3 y4, LeO (cycle_Parse.l0 k y0 y1 y2 y3 y4) (cycle_Parse.l0 (k + 1) y0 y1 y2 y3 y4)) ∧ (∀ y0 y1 y2, LeO (cycle_Parse.j2 k y0 y1 y2) (cycle_Parse.j2 (k + 1) y0 y1 y2))
  | 0 => ⟨fun _ _ _ _ r h => by simp [cycle_Parse.j0] at h, fun _ _ _ _ _ r h => by simp [cycle_Parse.l0] at h, fun _ _ _ r h => by simp [cycle_Parse.j2] at h⟩
  | k + 1 => by
    obtain ⟨ih0, ih1, ih2⟩ := cycle_Parse.mono_l k
    refine ⟨?_, ?_, ?_⟩
    · intro y0 y1 y2 y3
      unfold cycle_Parse.j0
      repeat' first
      | (with_reducible exact ih0 _ _ _ _)
      | (with_reducible exact ih1 _ _ _ _ _)
      | (with_reducible exact ih2 _ _ _)
      | (with_reducible exact span_Parse.mono _ _)
      | (with_reducible exact LeO.refl _)
      | (with_reducible exact LeO.none _)
      | (with_reducible refine LeO.ite ?_ ?_)
      | (with_reducible refine LeO.bind ?_ (fun _ => ?_))
      | exact ih0 _ _ _ _
      | exact ih1 _ _ _ _ _
      | exact ih2 _ _ _
      | exact span_Parse.mono _ _
      | exact LeO.none _
      | refine LeO.ite ?_ ?_
      | refine LeO.bind ?_ (fun _ => ?_)
    · intro y0 y1 y2 y3 y4
      unfold cycle_Parse.l0
      repeat' first
      | (with_reducible exact ih0 _ _ _ _)
      | (with_reducible exact ih1 _ _ _ _ _)
      | (with_reducible exact ih2 _ _ _)
      | (with_reducible exact span_Parse.mono _ _)
      | (with_reducible exact LeO.refl _)
      | (with_reducible exact LeO.none _)
      | (with_reducible refine LeO.ite ?_ ?_)
      | (with_reducible refine LeO.bind ?_ (fun _ => ?_))
      | exact ih0 _ _ _ _
      | exact ih1 _ _ _ _ _
      | exact ih2 _ _ _
      | exact span_Parse.mono _ _
      | exact LeO.none _
      | refine LeO.ite ?_ ?_
      | refine LeO.bind ?_ (fun _ => ?_)
    · intro y0 y1 y2
      unfold cycle_Parse.j2
      repeat' first
      | (with_reducible exact ih0 _ _ _ _)
      | (with_reducible exact ih1 _ _ _ _ _)
      | (with_reducible exact ih2 _ _ _)
      | (with_reducible exact span_Parse.mono _ _)
      | (with_reducible exact LeO.refl _)
      | (with_reducible exact LeO.none _)
      | (with_reducible refine LeO.ite ?_ ?_)
      | (with_reducible refine LeO.bind ?_ (fun _ => ?_))
      | exact ih0 _ _ _ _
      | exact ih1 _ _ _ _ _
      | exact ih2 _ _ _
      | exact span_Parse.mono _ _
      | exact LeO.none _
      | refine LeO.ite ?_ ?_
      | refine LeO.bind ?_ (fun _ => ?_)
theorem cycle_Parse.mono : ∀ a0 k, LeO (cycle_Parse.f k a0) (cycle_Parse.f (k + 1) a0) := by
  intro a0 k
  obtain ⟨ih0, ih1, ih2⟩ := cycle_Parse.mono_l k
  unfold cycle_Parse.f
  repeat' first
      | (with_reducible exact ih0 _ _ _ _)
      | (with_reducible exact ih1 _ _ _ _ _)
      | (with_reducible exact ih2 _ _ _)
      | (with_reducible exact span_Parse.mono _ _)
      | (with_reducible exact LeO.refl _)
      | (with_reducible exact LeO.none _)
      | (with_reducible refine LeO.ite ?_ ?_)
      | (with_reducible refine LeO.bind ?_ (fun _ => ?_))
      | exact ih0 _ _ _ _
      | exact ih1 _ _ _ _ _
      | exact ih2 _ _ _
      | exact span_Parse.mono _ _
      | exact LeO.none _
      | refine LeO.ite ?_ ?_
      | refine LeO.bind ?_ (fun _ => ?_)
set_option maxHeartbeats 8000000 in
set_option maxRecDepth 100000 in
theorem cycle_Parse.calls (k : Nat) (a0 : ByteArray) (r1 : Int) (r2 : Int) (r3 : Int) (w : World) (h : cycle_Parse.f k a0 = some (r1, r2, r3)) :
    Calls Tryz.prog 33 #[.string a0] w fun e w' => e = .returned (.tuple #[.agg #[.int .i64 r1, .int .u64 r2], .int .i64 r3]) ∧ Below w.heap.size w w' := by
  have hu51 := Tryz.underlying51
  have HB := Aside0.mk (Below.refl w.heap.size w)
  unfold cycle_Parse.f at h
  have H := h
  clear h
  obtain ⟨⟨t131, t132⟩, A2, H⟩ := bdA H
  dsimp only at H
  by_cases c3 : t132 = true
  rotate_left
  · replace c3 := Bool.eq_false_iff.mpr c3
    subst c3
    rw [if_neg nft] at H
    simp only [Option.some.injEq, Prod.mk.injEq] at H
    obtain ⟨rfl, rfl, rfl⟩ := H
    go_enter Tryz.func33, Tryz.ntmps33
    go_wp2_with (first | ((with_reducible refine gate_dst (N := 2) rfl ?_); (try (refine gate_guard (by rfl) ?_; dsimp only)); refine box_event ?hg (N := 2) ?hd (cs := #[.int .i64 0, .int .u64 0]) (t := 51) ?hr ?_; (case hd => rfl); (case hg => rfl); (case hr => first | (go_simp; done) | (go_simp; rfl)); intro gb130 hg w42 hbox hb; have BK130 := Aside0.mk (hbox); have GW130 := Aside0.mk ((by rw [hg]; exact bz4_2 : w.heap.size ≤ gb130)); have GE130 := Aside0.mk ((by rw [hg]; exact bz4_2 : w.heap.size ≤ gb130)); replace HB := Aside0.mk (bs4_0 hb); clear hb hbox hg) | ((with_reducible refine gate_callee (f := 47) rfl ?_); refine goesL_ (some 15) rfl rfl Tryz.func47 (by kernel_rfl) rfl #[.string a0, .string (⟨#[82]⟩ : ByteArray)] rfl ba4_5 ?_; (with_reducible refine (strings_CutPrefix.calls a0 (⟨#[82]⟩ : ByteArray) t131 false _ A2.out).mono ?_); rintro e w' ⟨rfl, ⟨nd, rfl⟩⟩; refine ⟨_, rfl, ?_⟩; (try (rw [drewN_self w42]; generalize hq_ : World.drewN w42 _ = w42; have n0_ : Aside0 (w42.heap[gb130]? = some (.cells #[.int .i64 0, .int .u64 0] 51 (0, 0))) := ⟨by rw [← hq_]; exact bb4_4⟩; have n1_ : Aside0 (Below w.heap.size w w42) := ⟨by rw [← hq_]; exact bh4_8⟩; clear BK130 HB hq_; have BK130 := n0_; have HB := n1_; clear n0_ n1_)); have hcz43_0 : w42.cell? ⟨gb130, 0, none⟩ = some (.int .i64 0) := (blk_cell BK130.out 0).trans rfl; have hcz43_1 : w42.cell? ⟨gb130, 1, none⟩ = some (.int .u64 0) := (blk_cell BK130.out 1).trans rfl; have hfz43_0 := blk_frozen BK130.out 0; have hfz43_1 := blk_frozen BK130.out 1))
    refine bodyPost_ret (results_ct rfl _ _ gb130 51 #[.int .i64 0, .int .u64 0] (0, 0) _ rfl (by (with_reducible repeat (first | refine blk_drewN ?_ _ | refine blk_drew ?_ | refine blk_alloc ?_ _)); refine blk_put (cs := #[.int .i64 0, .int .u64 0]) ?_ 1 _ rfl; (with_reducible repeat (first | refine blk_drewN ?_ _ | refine blk_drew ?_ | refine blk_alloc ?_ _)); refine blk_put (cs := #[.int .i64 0, .int .u64 0]) ?_ 0 _ rfl; (with_reducible repeat (first | refine blk_drewN ?_ _ | refine blk_drew ?_ | refine blk_alloc ?_ _)); exact BK130.out) Tryz.underlying51 rfl (by kernel_rfl)) rfl ?_
    exact ⟨by first | rfl | (simp [errW_none, errW_some] <;> rfl) | (simp [*, errW_none, errW_some] <;> rfl), by repeat (first | (with_reducible first | exact HB.out | apply below_alloc | apply pw_below_drewN | apply below_drew1 | refine below_set ?_ GE130.out) | exact HB.out)⟩
  subst c3
  rw [if_pos rfl] at H
  obtain ⟨⟨t133, t134, t135⟩, A4, H⟩ := bdA H
  dsimp only at H
  have HC5 := Aside0.mk H
  clear H
  go_enter Tryz.func33, Tryz.ntmps33
  go_upto_region 5 with (first | ((with_reducible refine gate_dst (N := 2) rfl ?_); (try (refine gate_guard (by rfl) ?_; dsimp only)); refine box_event ?hg (N := 2) ?hd (cs := #[.int .i64 0, .int .u64 0]) (t := 51) ?hr ?_; (case hd => rfl); (case hg => rfl); (case hr => first | (go_simp; done) | (go_simp; rfl)); intro gb130 hg w6 hbox hb; have BK130 := Aside0.mk (hbox); have GW130 := Aside0.mk ((by rw [hg]; exact bz4_2 : w.heap.size ≤ gb130)); have GE130 := Aside0.mk ((by rw [hg]; exact bz4_2 : w.heap.size ≤ gb130)); replace HB := Aside0.mk (bs4_0 hb); clear hb hbox hg) | ((with_reducible refine gate_callee (f := 47) rfl ?_); refine goesL_ (some 15) rfl rfl Tryz.func47 (by kernel_rfl) rfl #[.string a0, .string (⟨#[82]⟩ : ByteArray)] rfl ba4_5 ?_; (with_reducible refine (strings_CutPrefix.calls a0 (⟨#[82]⟩ : ByteArray) t131 true _ A2.out).mono ?_); rintro e w' ⟨rfl, ⟨nd, rfl⟩⟩; refine ⟨_, rfl, ?_⟩) | ((with_reducible refine gate_callee (f := 52) rfl ?_); refine goesL_ (some 23) rfl rfl Tryz.func52 (by kernel_rfl) rfl #[.string t131, .string (⟨#[47]⟩ : ByteArray)] rfl ba4_5 ?_; (with_reducible refine (strings_Cut.calls t131 (⟨#[47]⟩ : ByteArray) t133 t134 t135 _ A4.out).mono ?_); rintro e w' ⟨rfl, ⟨nd, rfl⟩⟩; refine ⟨_, rfl, ?_⟩))
  (try simp only [Act.put, List.setIfInBounds_toArray, List.set_cons_zero, List.set_cons_succ])
  go_cut [31] (fun v31 wc => ∃ (kq : Nat) (x31_4 : Bool), v31 = .bool x31_4 ∧ Aside0 (cycle_Parse.j0 kq t134 t133 t135 x31_4 = some (r1, r2, r3)) ∧ Aside0 (kq ≤ k) ∧ Aside0 (wc.heap[gb130]? = some (.cells #[.int .i64 0, .int .u64 0] 51 (0, 0))) ∧ Aside0 (Below w.heap.size w wc))
  case first =>
    have H := HC5.out
    clear HC5
    by_cases c7 : t135 = true
    · subst c7
      rw [if_pos rfl] at H
      have H' := Aside0.mk H
      clear H
      go_wp2
      go_meet
      case rel => exact ⟨_, ((t133.toList == ([] : List UInt8))), bd4_7, H', ⟨by first | omega | exact Nat.le_refl _⟩, ⟨by (with_reducible repeat (first | refine blk_drewN ?_ _ | refine blk_drew ?_ | refine blk_alloc ?_ _)); exact BK130.out⟩, ⟨by repeat (first | (with_reducible first | exact HB.out | apply below_alloc | apply pw_below_drewN | apply below_drew1 | refine below_set ?_ GE130.out) | exact HB.out)⟩⟩
    replace c7 := Bool.eq_false_iff.mpr c7
    subst c7
    rw [if_neg nft] at H
    have H' := Aside0.mk H
    clear H
    go_wp2
    go_meet
    case rel => exact ⟨_, (false), bd4_7, H', ⟨by first | omega | exact Nat.le_refl _⟩, ⟨by (with_reducible repeat (first | refine blk_drewN ?_ _ | refine blk_drew ?_ | refine blk_alloc ?_ _)); exact BK130.out⟩, ⟨by repeat (first | (with_reducible first | exact HB.out | apply below_alloc | apply pw_below_drewN | apply below_drew1 | refine below_set ?_ GE130.out) | exact HB.out)⟩⟩
  case rest =>
    clear HC5
    try clear p2
    try clear c3
    try clear c4
    try clear c5
    try clear c7
    obtain ⟨kq, x31_4, rfl, HA, HJ4, BK130, HB⟩ := hcut
    cases kq with
    | zero => exact absurd HA.out (by simp [cycle_Parse.j0])
    | succ kj4 =>
      have H := HA.out
      clear HA
      simp only [cycle_Parse.j0] at H
      by_cases c8 : x31_4 = true
      · subst c8
        rw [if_pos rfl] at H
        simp only [Option.some.injEq, Prod.mk.injEq] at H
        obtain ⟨rfl, rfl, rfl⟩ := H
        have hcz9_0 : wc.cell? ⟨gb130, 0, none⟩ = some (.int .i64 0) := (blk_cell BK130.out 0).trans rfl
        have hcz9_1 : wc.cell? ⟨gb130, 1, none⟩ = some (.int .u64 0) := (blk_cell BK130.out 1).trans rfl
        have hfz9_0 := blk_frozen BK130.out 0
        have hfz9_1 := blk_frozen BK130.out 1
        go_wp2
        refine bodyPost_ret (results_ct rfl _ _ gb130 51 #[.int .i64 0, .int .u64 0] (0, 0) _ rfl (by (with_reducible repeat (first | refine blk_drewN ?_ _ | refine blk_drew ?_ | refine blk_alloc ?_ _)); refine blk_put (cs := #[.int .i64 0, .int .u64 0]) ?_ 1 _ rfl; (with_reducible repeat (first | refine blk_drewN ?_ _ | refine blk_drew ?_ | refine blk_alloc ?_ _)); refine blk_put (cs := #[.int .i64 0, .int .u64 0]) ?_ 0 _ rfl; (with_reducible repeat (first | refine blk_drewN ?_ _ | refine blk_drew ?_ | refine blk_alloc ?_ _)); exact BK130.out) Tryz.underlying51 rfl (by kernel_rfl)) rfl ?_
        exact ⟨by first | rfl | (simp [errW_none, errW_some] <;> rfl) | (simp [*, errW_none, errW_some] <;> rfl), by repeat (first | (with_reducible first | exact HB.out | apply below_alloc | apply pw_below_drewN | apply below_drew1 | refine below_set ?_ GE130.out) | exact HB.out)⟩
      replace c8 := Bool.eq_false_iff.mpr c8
      subst c8
      rw [if_neg nft] at H
      have H' := Aside0.mk H
      clear H
      go_wp2
      go_loopg [35] kj4 (fun kq v35 w' => ∃ (x35_2 : Int) (x131000_2 : Int) (x131001_2 : Int), v35 = .int .i64 x35_2 ∧ Aside0 (cycle_Parse.l0 kq t134 t133 t135 (t133.size : Int) x35_2 = some (r1, r2, r3)) ∧ Aside0 (kq ≤ kj4) ∧ Aside0 (w'.heap[gb130]? = some (.cells #[.int .i64 x131000_2, .int .u64 x131001_2] 51 (0, 0))) ∧ Aside0 (Below w.heap.size w w'))
      case atStart => exact ⟨(0), (0), (0), bd4_7, H', ⟨Nat.le_refl _⟩, ⟨by (with_reducible repeat (first | refine blk_drewN ?_ _ | refine blk_drew ?_ | refine blk_alloc ?_ _)); exact BK130.out⟩, ⟨by repeat (first | (with_reducible first | exact HB.out | apply below_alloc | apply pw_below_drewN | apply below_drew1 | refine below_set ?_ GE130.out) | exact HB.out)⟩⟩
      case round =>
        clear H'
        try clear p2
        try clear c3
        try clear c4
        try clear c5
        try clear c7
        try clear c8
        try clear hcz9_0
        try clear hcz9_1
        try clear hfz9_0
        try clear hfz9_1
        try clear p2
        obtain ⟨x35_2, x131000_2, x131001_2, rfl, HA, HK2, BK130, HB⟩ := hrel
        cases gk with
        | zero => exact absurd HA.out (by simp [cycle_Parse.l0])
        | succ k2 =>
          have H := HA.out
          clear HA
          simp only [cycle_Parse.l0] at H
          by_cases c10 : x35_2 < (t133.size : Int)
          · rw [if_pos c10] at H
            have c10b0 := decide_eq_true c10
            clear c10
            obtain ⟨c11, H⟩ := itS H
            have c11b0 := decide_eq_true c11
            clear c11
            obtain ⟨c12, H⟩ := itS H
            have c12b0 := decide_eq_true c12
            clear c12
            by_cases c14 : (bt t133 x35_2) < 48
            · rw [if_pos c14] at H
              have c14b0 := decide_eq_true c14
              clear c14
              simp only [Option.some.injEq, Prod.mk.injEq] at H
              obtain ⟨rfl, rfl, rfl⟩ := H
              have p13 : 0 ≤ (x35_2 : Int) := of_decide_eq_true bb4_6
              have q13 : x35_2 < (t133.size : Int) := of_decide_eq_true bb4_6
              have hx13 := bt_at t133 x35_2
              replace p13 := eq_true p13
              replace q13 := eq_true q13
              have hcz15_0 : wr.cell? ⟨gb130, 0, none⟩ = some (.int .i64 x131000_2) := (blk_cell BK130.out 0).trans rfl
              have hcz15_1 : wr.cell? ⟨gb130, 1, none⟩ = some (.int .u64 x131001_2) := (blk_cell BK130.out 1).trans rfl
              have hfz15_0 := blk_frozen BK130.out 0
              have hfz15_1 := blk_frozen BK130.out 1
              go_wp2
              refine bodyPost_ret (results_ct rfl _ _ gb130 51 #[.int .i64 0, .int .u64 0] (0, 0) _ rfl (by (with_reducible repeat (first | refine blk_drewN ?_ _ | refine blk_drew ?_ | refine blk_alloc ?_ _)); refine blk_put (cs := #[.int .i64 0, .int .u64 x131001_2]) ?_ 1 _ rfl; (with_reducible repeat (first | refine blk_drewN ?_ _ | refine blk_drew ?_ | refine blk_alloc ?_ _)); refine blk_put (cs := #[.int .i64 x131000_2, .int .u64 x131001_2]) ?_ 0 _ rfl; (with_reducible repeat (first | refine blk_drewN ?_ _ | refine blk_drew ?_ | refine blk_alloc ?_ _)); exact BK130.out) Tryz.underlying51 rfl (by kernel_rfl)) rfl ?_
              exact ⟨by first | rfl | (simp [errW_none, errW_some] <;> rfl) | (simp [*, errW_none, errW_some] <;> rfl), by repeat (first | (with_reducible first | exact HB.out | apply below_alloc | apply pw_below_drewN | apply below_drew1 | refine below_set ?_ GE130.out) | exact HB.out)⟩
            rw [if_neg c14] at H
            have c14b0 := decide_eq_false c14
            clear c14
            by_cases c17 : (bt t133 x35_2) > 57
            rotate_left
            · rw [if_neg c17] at H
              have c17b0 : decide (57 < (bt t133 x35_2)) = false := decide_eq_false c17
              clear c17
              have H' := Aside0.mk H
              clear H
              have p13 : 0 ≤ (x35_2 : Int) := of_decide_eq_true bb4_6
              have q13 : x35_2 < (t133.size : Int) := of_decide_eq_true bb4_6
              have hx13 := bt_at t133 x35_2
              replace p13 := eq_true p13
              replace q13 := eq_true q13
              have p16 : 0 ≤ (x35_2 : Int) := of_decide_eq_true bb4_6
              have q16 : x35_2 < (t133.size : Int) := of_decide_eq_true bb4_6
              have hx16 := bt_at t133 x35_2
              replace p16 := eq_true p16
              replace q16 := eq_true q16
              go_wp2
              go_roundg k2
              case measure => have := HJ4.out; have := HK2.out; omega
              case rel => exact ⟨(wrap64 (x35_2 + 1)), (x131000_2), (x131001_2), bd4_7, H', ⟨by have := HJ4.out; have := HK2.out; omega⟩, ⟨by (with_reducible repeat (first | refine blk_drewN ?_ _ | refine blk_drew ?_ | refine blk_alloc ?_ _)); exact BK130.out⟩, ⟨by repeat (first | (with_reducible first | exact HB.out | apply below_alloc | apply pw_below_drewN | apply below_drew1 | refine below_set ?_ GE130.out) | exact HB.out)⟩⟩
            rw [if_pos c17] at H
            have c17b0 : decide (57 < (bt t133 x35_2)) = true := decide_eq_true c17
            clear c17
            simp only [Option.some.injEq, Prod.mk.injEq] at H
            obtain ⟨rfl, rfl, rfl⟩ := H
            have p13 : 0 ≤ (x35_2 : Int) := of_decide_eq_true bb4_6
            have q13 : x35_2 < (t133.size : Int) := of_decide_eq_true bb4_6
            have hx13 := bt_at t133 x35_2
            replace p13 := eq_true p13
            replace q13 := eq_true q13
            have p16 : 0 ≤ (x35_2 : Int) := of_decide_eq_true bb4_6
            have q16 : x35_2 < (t133.size : Int) := of_decide_eq_true bb4_6
            have hx16 := bt_at t133 x35_2
            replace p16 := eq_true p16
            replace q16 := eq_true q16
            have hcz18_0 : wr.cell? ⟨gb130, 0, none⟩ = some (.int .i64 x131000_2) := (blk_cell BK130.out 0).trans rfl
            have hcz18_1 : wr.cell? ⟨gb130, 1, none⟩ = some (.int .u64 x131001_2) := (blk_cell BK130.out 1).trans rfl
            have hfz18_0 := blk_frozen BK130.out 0
            have hfz18_1 := blk_frozen BK130.out 1
            go_wp2
            refine bodyPost_ret (results_ct rfl _ _ gb130 51 #[.int .i64 0, .int .u64 0] (0, 0) _ rfl (by (with_reducible repeat (first | refine blk_drewN ?_ _ | refine blk_drew ?_ | refine blk_alloc ?_ _)); refine blk_put (cs := #[.int .i64 0, .int .u64 x131001_2]) ?_ 1 _ rfl; (with_reducible repeat (first | refine blk_drewN ?_ _ | refine blk_drew ?_ | refine blk_alloc ?_ _)); refine blk_put (cs := #[.int .i64 x131000_2, .int .u64 x131001_2]) ?_ 0 _ rfl; (with_reducible repeat (first | refine blk_drewN ?_ _ | refine blk_drew ?_ | refine blk_alloc ?_ _)); exact BK130.out) Tryz.underlying51 rfl (by kernel_rfl)) rfl ?_
            exact ⟨by first | rfl | (simp [errW_none, errW_some] <;> rfl) | (simp [*, errW_none, errW_some] <;> rfl), by repeat (first | (with_reducible first | exact HB.out | apply below_alloc | apply pw_below_drewN | apply below_drew1 | refine below_set ?_ GE130.out) | exact HB.out)⟩
          rw [if_neg c10] at H
          have c10b0 := decide_eq_false c10
          clear c10
          have HC19 := Aside0.mk H
          clear H
          go_upto_region 13 with (fail)
          go_cut [61] (fun v61 wc => ∃ (kq : Nat) (x61_18 : Bool), v61 = .bool x61_18 ∧ Aside0 (cycle_Parse.j2 kq t134 t133 x61_18 = some (r1, r2, r3)) ∧ Aside0 (kq ≤ k2) ∧ Aside0 (wc.heap[gb130]? = some (.cells #[.int .i64 x131000_2, .int .u64 x131001_2] 51 (0, 0))) ∧ Aside0 (Below w.heap.size w wc))
          case first =>
            have H := HC19.out
            clear HC19
            by_cases c20 : t135 = true
            rotate_left
            · replace c20 := Bool.eq_false_iff.mpr c20
              subst c20
              rw [if_neg nft] at H
              have H' := Aside0.mk H
              clear H
              go_wp2
              go_meet
              case rel => exact ⟨_, (true), bd4_7, H', ⟨by have := HJ4.out; have := HK2.out; first | omega | exact Nat.le_refl _⟩, ⟨by (with_reducible repeat (first | refine blk_drewN ?_ _ | refine blk_drew ?_ | refine blk_alloc ?_ _)); exact BK130.out⟩, ⟨by repeat (first | (with_reducible first | exact HB.out | apply below_alloc | apply pw_below_drewN | apply below_drew1 | refine below_set ?_ GE130.out) | exact HB.out)⟩⟩
            subst c20
            rw [if_pos rfl] at H
            by_cases c21 : (t133.size : Int) > 7
            · rw [if_pos c21] at H
              have c21b0 : decide (7 < (t133.size : Int)) = true := decide_eq_true c21
              have c21b1 : decide (7 < t133.size) = true := decide_eq_true (by omega)
              clear c21
              (first | rw [c21b0] | (simp only [i64_w, i32_w]; rw [c21b0]) | skip)
              have H' := Aside0.mk H
              clear H
              go_wp2
              go_meet
              case rel => exact ⟨_, (true), bd4_7, H', ⟨by have := HJ4.out; have := HK2.out; first | omega | exact Nat.le_refl _⟩, ⟨by (with_reducible repeat (first | refine blk_drewN ?_ _ | refine blk_drew ?_ | refine blk_alloc ?_ _)); exact BK130.out⟩, ⟨by repeat (first | (with_reducible first | exact HB.out | apply below_alloc | apply pw_below_drewN | apply below_drew1 | refine below_set ?_ GE130.out) | exact HB.out)⟩⟩
            rw [if_neg c21] at H
            have c21b0 : decide (7 < (t133.size : Int)) = false := decide_eq_false c21
            have c21b1 : decide (7 < t133.size) = false := decide_eq_false (by omega)
            clear c21
            (first | rw [c21b0] | (simp only [i64_w, i32_w]; rw [c21b0]) | skip)
            obtain ⟨c22, H⟩ := itS H
            have c22b0 := decide_eq_true c22
            have c22b1 : decide (0 < t133.size) = true := decide_eq_true (by omega)
            clear c22
            have H' := Aside0.mk H
            clear H
            have p23 : 0 ≤ (0 : Int) := (by omega)
            have q23 : 0 < t133.size := (by have : (0 : Int) < (t133.size : Int) := of_decide_eq_true bb4_6; omega)
            have hx23 : ∀ h : 0 < t133.size, ((t133[0]'h).toNat : Int) = bt t133 0 := bt_at t133 0
            clear p23
            have qi23 : (0 < (t133.size : Int)) = True := eq_true (of_decide_eq_true bb4_6)
            replace q23 := eq_true q23
            go_wp2
            go_meet
            case rel => exact ⟨_, (((bt t133 0) == 48)), bd4_7, H', ⟨by have := HJ4.out; have := HK2.out; first | omega | exact Nat.le_refl _⟩, ⟨by (with_reducible repeat (first | refine blk_drewN ?_ _ | refine blk_drew ?_ | refine blk_alloc ?_ _)); exact BK130.out⟩, ⟨by repeat (first | (with_reducible first | exact HB.out | apply below_alloc | apply pw_below_drewN | apply below_drew1 | refine below_set ?_ GE130.out) | exact HB.out)⟩⟩
          case rest =>
            clear HC19
            try clear c1
            try clear p1
            try clear q1
            try clear hx1
            try clear c2
            try clear p2
            try clear q2
            try clear hx2
            try clear qi2
            try clear c3
            try clear c4
            try clear c5
            try clear p6
            try clear c7
            try clear c8
            try clear c10
            try clear c10b0
            try clear c11
            try clear c11b0
            try clear c12
            try clear c12b0
            try clear p13
            try clear q13
            try clear hx13
            try clear c14
            try clear c14b0
            try clear p16
            try clear q16
            try clear hx16
            try clear c17
            try clear c17b0
            try clear c20
            try clear c21
            try clear c21b0
            try clear c21b1
            try clear c22
            try clear c22b0
            try clear c22b1
            try clear p23
            try clear q23
            try clear hx23
            try clear qi23
            try clear hcz15_0
            try clear hcz15_1
            try clear hcz18_0
            try clear hcz18_1
            try clear hcz9_0
            try clear hcz9_1
            try clear hfz15_0
            try clear hfz15_1
            try clear hfz18_0
            try clear hfz18_1
            try clear hfz9_0
            try clear hfz9_1
            try clear p13
            try clear p16
            try clear p2
            try clear p23
            try clear q13
            try clear q16
            try clear q23
            obtain ⟨kq, x61_18, rfl, HA, HJ18, BK130, HB⟩ := hcut
            cases kq with
            | zero => exact absurd HA.out (by simp [cycle_Parse.j2])
            | succ kj18 =>
              have H := HA.out
              clear HA
              simp only [cycle_Parse.j2] at H
              by_cases c24 : x61_18 = true
              · subst c24
                rw [if_pos rfl] at H
                simp only [Option.some.injEq, Prod.mk.injEq] at H
                obtain ⟨rfl, rfl, rfl⟩ := H
                have hcz25_0 : wc.cell? ⟨gb130, 0, none⟩ = some (.int .i64 x131000_2) := (blk_cell BK130.out 0).trans rfl
                have hcz25_1 : wc.cell? ⟨gb130, 1, none⟩ = some (.int .u64 x131001_2) := (blk_cell BK130.out 1).trans rfl
                have hfz25_0 := blk_frozen BK130.out 0
                have hfz25_1 := blk_frozen BK130.out 1
                go_wp2
                refine bodyPost_ret (results_ct rfl _ _ gb130 51 #[.int .i64 0, .int .u64 0] (0, 0) _ rfl (by (with_reducible repeat (first | refine blk_drewN ?_ _ | refine blk_drew ?_ | refine blk_alloc ?_ _)); refine blk_put (cs := #[.int .i64 0, .int .u64 x131001_2]) ?_ 1 _ rfl; (with_reducible repeat (first | refine blk_drewN ?_ _ | refine blk_drew ?_ | refine blk_alloc ?_ _)); refine blk_put (cs := #[.int .i64 x131000_2, .int .u64 x131001_2]) ?_ 0 _ rfl; (with_reducible repeat (first | refine blk_drewN ?_ _ | refine blk_drew ?_ | refine blk_alloc ?_ _)); exact BK130.out) Tryz.underlying51 rfl (by kernel_rfl)) rfl ?_
                exact ⟨by first | rfl | (simp [errW_none, errW_some] <;> rfl) | (simp [*, errW_none, errW_some] <;> rfl), by repeat (first | (with_reducible first | exact HB.out | apply below_alloc | apply pw_below_drewN | apply below_drew1 | refine below_set ?_ GE130.out) | exact HB.out)⟩
              replace c24 := Bool.eq_false_iff.mpr c24
              subst c24
              rw [if_neg nft] at H
              obtain ⟨⟨t136, t137⟩, A26, H⟩ := bdA H
              dsimp only at H
              by_cases c27 : t136 > 1000000
              · rw [if_pos c27] at H
                have c27b0 : decide (1000000 < t136) = true := decide_eq_true c27
                clear c27
                simp only [Option.some.injEq, Prod.mk.injEq] at H
                obtain ⟨rfl, rfl, rfl⟩ := H
                go_wp2_with (first | ((with_reducible refine gate_callee (f := 53) rfl ?_); refine goesL_ (some 65) rfl rfl Tryz.func53 (by kernel_rfl) rfl #[.string t133] rfl ba4_5 ?_; (with_reducible refine (strconv_Atoi.calls t133 t136 t137 _ A26.out).mono ?_); rintro e w28 ⟨rfl, hb⟩; refine ⟨_, rfl, ?_⟩; replace BK130 := Aside0.mk (bk4_3 (g := gb130) (o := .cells #[.int .i64 x131000_2, .int .u64 x131001_2] 51 (0, 0)) hb); replace HB := Aside0.mk (bs4_1 hb); (try clear hb); (try clear hb2); (try clear hk); (try clear hi); (try simp only [errW_none, errW_some]); have hcz29_0 : w28.cell? ⟨gb130, 0, none⟩ = some (.int .i64 x131000_2) := (blk_cell BK130.out 0).trans rfl; have hcz29_1 : w28.cell? ⟨gb130, 1, none⟩ = some (.int .u64 x131001_2) := (blk_cell BK130.out 1).trans rfl; have hfz29_0 := blk_frozen BK130.out 0; have hfz29_1 := blk_frozen BK130.out 1))
                refine bodyPost_ret (results_ct rfl _ _ gb130 51 #[.int .i64 0, .int .u64 0] (0, 0) _ rfl (by (with_reducible repeat (first | refine blk_drewN ?_ _ | refine blk_drew ?_ | refine blk_alloc ?_ _)); refine blk_put (cs := #[.int .i64 0, .int .u64 x131001_2]) ?_ 1 _ rfl; (with_reducible repeat (first | refine blk_drewN ?_ _ | refine blk_drew ?_ | refine blk_alloc ?_ _)); refine blk_put (cs := #[.int .i64 x131000_2, .int .u64 x131001_2]) ?_ 0 _ rfl; (with_reducible repeat (first | refine blk_drewN ?_ _ | refine blk_drew ?_ | refine blk_alloc ?_ _)); exact BK130.out) Tryz.underlying51 rfl (by kernel_rfl)) rfl ?_
                exact ⟨by first | rfl | (simp [errW_none, errW_some] <;> rfl) | (simp [*, errW_none, errW_some] <;> rfl), by repeat (first | (with_reducible first | exact HB.out | apply below_alloc | apply pw_below_drewN | apply below_drew1 | refine below_set ?_ GE130.out) | exact HB.out)⟩
              rw [if_neg c27] at H
              have c27b0 : decide (1000000 < t136) = false := decide_eq_false c27
              clear c27
              obtain ⟨⟨t138, t139⟩, A30, H⟩ := bdA H
              dsimp only at H
              by_cases c31 : t139 = 0
              rotate_left
              · rw [if_neg c31] at H
                have c31b0 := beq_eq_false_iff_ne.mpr c31
                have c31b1 := bne_iff_ne.mpr c31
                simp only [Option.some.injEq, Prod.mk.injEq] at H
                obtain ⟨rfl, rfl, rfl⟩ := H
                go_wp2_with (first | ((with_reducible refine gate_callee (f := 53) rfl ?_); refine goesL_ (some 65) rfl rfl Tryz.func53 (by kernel_rfl) rfl #[.string t133] rfl ba4_5 ?_; (with_reducible refine (strconv_Atoi.calls t133 t136 t137 _ A26.out).mono ?_); rintro e w39 ⟨rfl, hb⟩; refine ⟨_, rfl, ?_⟩; replace BK130 := Aside0.mk (bk4_3 (g := gb130) (o := .cells #[.int .i64 x131000_2, .int .u64 x131001_2] 51 (0, 0)) hb); replace HB := Aside0.mk (bs4_1 hb); (try clear hb); (try clear hb2); (try clear hk); (try clear hi); (try simp only [errW_none, errW_some])) | ((with_reducible refine gate_callee (f := 32) rfl ?_); refine goesL_ (some 73) rfl rfl Tryz.func32 (by kernel_rfl) rfl #[.string t134] rfl ba4_5 ?_; (with_reducible refine (span_Parse.calls kj18 t134 t138 t139 _ A30.out).mono ?_); rintro e w40 ⟨rfl, hb⟩; refine ⟨_, rfl, ?_⟩; replace BK130 := Aside0.mk (bk4_3 (g := gb130) (o := .cells #[.int .i64 x131000_2, .int .u64 x131001_2] 51 (0, 0)) hb); replace HB := Aside0.mk (bs4_1 hb); (try clear hb); (try clear hb2); (try clear hk); (try clear hi); have hcz41_0 : w40.cell? ⟨gb130, 0, none⟩ = some (.int .i64 x131000_2) := (blk_cell BK130.out 0).trans rfl; have hcz41_1 : w40.cell? ⟨gb130, 1, none⟩ = some (.int .u64 x131001_2) := (blk_cell BK130.out 1).trans rfl; have hfz41_0 := blk_frozen BK130.out 0; have hfz41_1 := blk_frozen BK130.out 1))
                refine bodyPost_ret (results_ct rfl _ _ gb130 51 #[.int .i64 0, .int .u64 0] (0, 0) _ rfl (by (with_reducible repeat (first | refine blk_drewN ?_ _ | refine blk_drew ?_ | refine blk_alloc ?_ _)); refine blk_put (cs := #[.int .i64 0, .int .u64 x131001_2]) ?_ 1 _ rfl; (with_reducible repeat (first | refine blk_drewN ?_ _ | refine blk_drew ?_ | refine blk_alloc ?_ _)); refine blk_put (cs := #[.int .i64 x131000_2, .int .u64 x131001_2]) ?_ 0 _ rfl; (with_reducible repeat (first | refine blk_drewN ?_ _ | refine blk_drew ?_ | refine blk_alloc ?_ _)); exact BK130.out) Tryz.underlying51 rfl (by kernel_rfl)) rfl ?_
                exact ⟨by first | rfl | (simp [errW_none, errW_some] <;> rfl) | (simp [*, errW_none, errW_some] <;> rfl), by repeat (first | (with_reducible first | exact HB.out | apply below_alloc | apply pw_below_drewN | apply below_drew1 | refine below_set ?_ GE130.out) | exact HB.out)⟩
              rw [if_pos c31] at H
              have c31b0 := beq_iff_eq.mpr c31
              have c31b1 := bne_eq_false_iff_eq.mpr c31
              clear c31
              by_cases c32 : t138 = 0
              rotate_left
              · rw [if_neg c32] at H
                have c32b0 := beq_eq_false_iff_ne.mpr c32
                have c32b1 := bne_iff_ne.mpr c32
                simp only [Option.some.injEq, Prod.mk.injEq] at H
                obtain ⟨rfl, rfl, rfl⟩ := H
                go_wp2_with (first | ((with_reducible refine gate_callee (f := 53) rfl ?_); refine goesL_ (some 65) rfl rfl Tryz.func53 (by kernel_rfl) rfl #[.string t133] rfl ba4_5 ?_; (with_reducible refine (strconv_Atoi.calls t133 t136 t137 _ A26.out).mono ?_); rintro e w36 ⟨rfl, hb⟩; refine ⟨_, rfl, ?_⟩; replace BK130 := Aside0.mk (bk4_3 (g := gb130) (o := .cells #[.int .i64 x131000_2, .int .u64 x131001_2] 51 (0, 0)) hb); replace HB := Aside0.mk (bs4_1 hb); (try clear hb); (try clear hb2); (try clear hk); (try clear hi); (try simp only [errW_none, errW_some])) | ((with_reducible refine gate_callee (f := 32) rfl ?_); refine goesL_ (some 73) rfl rfl Tryz.func32 (by kernel_rfl) rfl #[.string t134] rfl ba4_5 ?_; (with_reducible refine (span_Parse.calls kj18 t134 t138 t139 _ A30.out).mono ?_); rintro e w37 ⟨rfl, hb⟩; refine ⟨_, rfl, ?_⟩; replace BK130 := Aside0.mk (bk4_3 (g := gb130) (o := .cells #[.int .i64 x131000_2, .int .u64 x131001_2] 51 (0, 0)) hb); replace HB := Aside0.mk (bs4_1 hb); (try clear hb); (try clear hb2); (try clear hk); (try clear hi); have hcz38_0 : w37.cell? ⟨gb130, 0, none⟩ = some (.int .i64 x131000_2) := (blk_cell BK130.out 0).trans rfl; have hcz38_1 : w37.cell? ⟨gb130, 1, none⟩ = some (.int .u64 x131001_2) := (blk_cell BK130.out 1).trans rfl; have hfz38_0 := blk_frozen BK130.out 0; have hfz38_1 := blk_frozen BK130.out 1))
                refine bodyPost_ret (results_ct rfl _ _ gb130 51 #[.int .i64 t136, .int .u64 t138] (0, 0) _ rfl (by (with_reducible repeat (first | refine blk_drewN ?_ _ | refine blk_drew ?_ | refine blk_alloc ?_ _)); refine blk_put (cs := #[.int .i64 t136, .int .u64 x131001_2]) ?_ 1 _ rfl; (with_reducible repeat (first | refine blk_drewN ?_ _ | refine blk_drew ?_ | refine blk_alloc ?_ _)); refine blk_put (cs := #[.int .i64 x131000_2, .int .u64 x131001_2]) ?_ 0 _ rfl; (with_reducible repeat (first | refine blk_drewN ?_ _ | refine blk_drew ?_ | refine blk_alloc ?_ _)); exact BK130.out) Tryz.underlying51 rfl (by kernel_rfl)) rfl ?_
                exact ⟨by first | rfl | (simp [errW_none, errW_some] <;> rfl) | (simp [*, errW_none, errW_some] <;> rfl), by repeat (first | (with_reducible first | exact HB.out | apply below_alloc | apply pw_below_drewN | apply below_drew1 | refine below_set ?_ GE130.out) | exact HB.out)⟩
              rw [if_pos c32] at H
              have c32b0 := beq_iff_eq.mpr c32
              have c32b1 := bne_eq_false_iff_eq.mpr c32
              clear c32
              simp only [Option.some.injEq, Prod.mk.injEq] at H
              obtain ⟨rfl, rfl, rfl⟩ := H
              go_wp2_with (first | ((with_reducible refine gate_callee (f := 53) rfl ?_); refine goesL_ (some 65) rfl rfl Tryz.func53 (by kernel_rfl) rfl #[.string t133] rfl ba4_5 ?_; (with_reducible refine (strconv_Atoi.calls t133 t136 t137 _ A26.out).mono ?_); rintro e w33 ⟨rfl, hb⟩; refine ⟨_, rfl, ?_⟩; replace BK130 := Aside0.mk (bk4_3 (g := gb130) (o := .cells #[.int .i64 x131000_2, .int .u64 x131001_2] 51 (0, 0)) hb); replace HB := Aside0.mk (bs4_1 hb); (try clear hb); (try clear hb2); (try clear hk); (try clear hi); (try simp only [errW_none, errW_some])) | ((with_reducible refine gate_callee (f := 32) rfl ?_); refine goesL_ (some 73) rfl rfl Tryz.func32 (by kernel_rfl) rfl #[.string t134] rfl ba4_5 ?_; (with_reducible refine (span_Parse.calls kj18 t134 t138 t139 _ A30.out).mono ?_); rintro e w34 ⟨rfl, hb⟩; refine ⟨_, rfl, ?_⟩; replace BK130 := Aside0.mk (bk4_3 (g := gb130) (o := .cells #[.int .i64 x131000_2, .int .u64 x131001_2] 51 (0, 0)) hb); replace HB := Aside0.mk (bs4_1 hb); (try clear hb); (try clear hb2); (try clear hk); (try clear hi); have hcz35_0 : w34.cell? ⟨gb130, 0, none⟩ = some (.int .i64 x131000_2) := (blk_cell BK130.out 0).trans rfl; have hcz35_1 : w34.cell? ⟨gb130, 1, none⟩ = some (.int .u64 x131001_2) := (blk_cell BK130.out 1).trans rfl; have hfz35_0 := blk_frozen BK130.out 0; have hfz35_1 := blk_frozen BK130.out 1))
              refine bodyPost_ret (results_ct rfl _ _ gb130 51 #[.int .i64 0, .int .u64 0] (0, 0) _ rfl (by (with_reducible repeat (first | refine blk_drewN ?_ _ | refine blk_drew ?_ | refine blk_alloc ?_ _)); refine blk_put (cs := #[.int .i64 0, .int .u64 x131001_2]) ?_ 1 _ rfl; (with_reducible repeat (first | refine blk_drewN ?_ _ | refine blk_drew ?_ | refine blk_alloc ?_ _)); refine blk_put (cs := #[.int .i64 x131000_2, .int .u64 x131001_2]) ?_ 0 _ rfl; (with_reducible repeat (first | refine blk_drewN ?_ _ | refine blk_drew ?_ | refine blk_alloc ?_ _)); exact BK130.out) Tryz.underlying51 rfl (by kernel_rfl)) rfl ?_
              exact ⟨by first | rfl | (simp [errW_none, errW_some] <;> rfl) | (simp [*, errW_none, errW_some] <;> rfl), by repeat (first | (with_reducible first | exact HB.out | apply below_alloc | apply pw_below_drewN | apply below_drew1 | refine below_set ?_ GE130.out) | exact HB.out)⟩

end Go.Proofs.YtflnkchpfbcgiaaGreatDoor.Q
