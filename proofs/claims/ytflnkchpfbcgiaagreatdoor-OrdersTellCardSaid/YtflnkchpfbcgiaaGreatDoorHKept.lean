/- orders.kept: a closure, slices.IndexFunc and slices.DeleteFunc at it, and the loop; walked by hand. By an AI agent of this work. -/
import Derived.Test.YtflnkchpfbcgiaaGreatDoorQx0
import Derived.Lib.Hide
import Derived.OwnWalk
namespace Go.Proofs.YtflnkchpfbcgiaaGreatDoor.Q
open Go.RowKit Go.Proofs.YtflnkchpfbcgiaaGreatDoorW.PrintWords Go.Proofs.YtflnkchpfbcgiaaGreatDoorW.PrintLast Go.Proofs.YtflnkchpfbcgiaaGreatDoorW.PrintMore
set_option linter.unusedVariables false
set_option linter.unusedSimpArgs false

/-- An order's cells. -/
abbrev oc (x : S48) : List Value := [.int .i64 x.f0, .int .i64 x.f1, .int .i64 x.f2, .int .i64 x.f3, .int .u64 x.f4]
abbrev oblk (x : S48) : Obj := .cells #[.int .i64 x.f0, .int .i64 x.f1, .int .i64 x.f2, .int .i64 x.f3, .int .u64 x.f4] 48 (0, 0)
abbrev ov (x : S48) : Value := .agg #[.int .i64 x.f0, .int .i64 x.f1, .int .i64 x.f2, .int .i64 x.f3, .int .u64 x.f4]
/-- The closure's value: it has caught the variable o, which lies in block g. -/
abbrev fv (g : Nat) : Value := .func (.func 28) #[] #[.pointer (some ⟨g, 0, none⟩)]

set_option maxHeartbeats 1000000 in
set_option maxRecDepth 100000 in
theorem kept1_calls (x o : S48) (g : Nat) (w : World) (hg : w.heap[g]? = some (oblk o)) :
    Calls Tryz.prog 28 #[ov x, .pointer (some ⟨g, 0, none⟩)] w fun e w' => e = .returned (.bool (x.f1 == o.f1)) ∧ Below w.heap.size w w' := by
  have h1 : w.cell? ⟨g, 1, none⟩ = some (.int .i64 o.f1) := (blk_cell hg 1).trans rfl
  have hlt : g < w.heap.size := blk_lt hg
  clear hg
  go_enter Tryz.func28, Tryz.ntmps28
  go_wp2
  go_ret
  exact ⟨rfl, (Below.refl _ _).alloc (Nat.le_refl _) _⟩

/-- Where the first one of a token lies. -/
def fstOf (tok : Int) (xs : List S48) : Nat := xs.findIdx (fun x => x.f1 == tok)
def idxVal (tok : Int) (xs : List S48) : Int := if fstOf tok xs < xs.length then (fstOf tok xs : Int) else -1
theorem idxVal_at {tok : Int} {xs : List S48} {k : Nat} (h : fstOf tok xs = k) (hl : k < xs.length) : idxVal tok xs = k := by unfold idxVal; rw [h, if_pos hl]
theorem idxVal_none {tok : Int} {xs : List S48} (h : fstOf tok xs = xs.length) : idxVal tok xs = -1 := by unfold idxVal; rw [h, if_neg (by omega)]
theorem ret_i64 {a b : Int} (h : a = b) : Ending.returned (.int .i64 a) = Ending.returned (.int .i64 b) := by rw [h]
theorem fstOf_at {tok : Int} {xs : List S48} {k : Nat} (h : ∀ j, j < k → ((xs.getD j z48).f1 == tok) = false) (hk : ((xs.getD k z48).f1 == tok) = true) (hl : k < xs.length) : fstOf tok xs = k := by
  unfold fstOf
  rw [List.findIdx_eq hl]
  rw [List.getD_eq_getElem?_getD, List.getElem?_eq_getElem hl] at hk
  refine ⟨hk, fun j hj => ?_⟩
  have := h j hj
  rw [List.getD_eq_getElem?_getD, List.getElem?_eq_getElem (by omega)] at this
  exact this
theorem fstOf_none {tok : Int} {xs : List S48} (h : ∀ j, j < xs.length → ((xs.getD j z48).f1 == tok) = false) : fstOf tok xs = xs.length := by
  unfold fstOf
  rw [List.findIdx_eq_length]
  intro x hx
  obtain ⟨j, hj, rfl⟩ := List.getElem_of_mem hx
  have := h j hj
  rw [List.getD_eq_getElem?_getD, List.getElem?_eq_getElem hj] at this
  exact this
theorem fstOf_step {tok : Int} {xs : List S48} {k : Nat} (h : ∀ j, j < k → ((xs.getD j z48).f1 == tok) = false) (hk : ((xs.getD k z48).f1 == tok) = false) : ∀ j, j < k + 1 → ((xs.getD j z48).f1 == tok) = false := by
  intro j hj
  rcases Nat.lt_or_ge j k with hjk | hjk
  · exact h j hjk
  · obtain rfl : j = k := by omega
    exact hk
set_option maxHeartbeats 1000000 in
set_option maxRecDepth 100000 in
theorem index_calls (A : Option Addr) (c : Nat) (xs : List S48) (o : S48) (g : Nat) (w : World) (hr : Kd.C k48 w A xs.length xs) (hc : xs.length ≤ c) (hg : w.heap[g]? = some (oblk o)) :
    Calls Tryz.prog 35 #[.slice A xs.length c, fv g] w fun e w' =>
      e = .returned (.int .i64 (idxVal o.f1 xs)) ∧ Below w.heap.size w w' := by
  have hm : xs.length ≤ 9223372036854775807 := hr.2.1
  have HR := Aside0.mk hr
  have HG := Aside0.mk hg
  clear hr hg
  go_enter Tryz.func35, Tryz.ntmps35
  go_wp2
  go_loopw [8] (fun v8 wr => ∃ k : Nat, k ≤ xs.length ∧ v8 = .int .i64 k ∧ Aside0 (∀ j, j < k → ((xs.getD j z48).f1 == o.f1) = false) ∧ Aside0 (Below w.heap.size w wr)) (fun v8 _ => xs.length - (intOf v8).toNat)
  case atStart => exact ⟨0, Nat.zero_le _, rfl, ⟨fun j hj => absurd hj (by omega)⟩, ⟨Below.refl _ _⟩⟩
  case round =>
    obtain ⟨k, hk, rfl, HN, HB⟩ := hrel
    by_cases hlt : k < xs.length
    · obtain ⟨ad, rfl, h0, h1, h2, h3, h4⟩ := at_T48 HR.out (k : Int) (by omega) (by omega)
      simp only [Int.toNat_natCast] at h0 h1 h2 h3 h4
      replace h0 := (HB.out.cell (World.block_lt_of_cell? w _ h0)).trans h0
      replace h1 := (HB.out.cell (World.block_lt_of_cell? w _ h1)).trans h1
      replace h2 := (HB.out.cell (World.block_lt_of_cell? w _ h2)).trans h2
      replace h3 := (HB.out.cell (World.block_lt_of_cell? w _ h3)).trans h3
      replace h4 := (HB.out.cell (World.block_lt_of_cell? w _ h4)).trans h4
      have hgw := Aside0.mk (blk_below HG.out HB.out)
      obtain ⟨x, hx⟩ : ∃ x, rd_T48 xs (k : Int) = x := ⟨_, rfl⟩
      have HX : Aside0 (xs.getD k z48 = x) := ⟨by rw [← hx]; simp [rd_T48]⟩
      rw [hx] at h0 h1 h2 h3 h4
      clear hx
      by_cases hb : (x.f1 == o.f1) = true
      · go_wp2_with (first
          | (go_at_call 28; refine (kept1_calls x o g _ hgw.out).mono ?_; rintro e w1 ⟨rfl, hb1⟩; have HB1 := Aside0.mk (below_step HB.out hb1); clear hb1))
        go_ret
        have hf := fstOf_at HN.out (by rw [HX.out]; exact hb) hlt
        exact ⟨ret_i64 (idxVal_at hf hlt).symm, HB1.out⟩
      · have hb' : (x.f1 == o.f1) = false := by simpa using hb
        clear hb
        go_wp2_with (first
          | (go_at_call 28; refine (kept1_calls x o g _ hgw.out).mono ?_; rintro e w1 ⟨rfl, hb1⟩; have HB1 := Aside0.mk (below_step HB.out hb1); clear hb1))
        go_roundw
        case rel => exact ⟨k + 1, by omega, by go_num, ⟨fstOf_step HN.out (by rw [HX.out]; exact hb')⟩, HB1⟩
        case measure => simp [intOf]; omega
    · have hkk : k = xs.length := by omega
      subst hkk
      clear hlt hk
      go_wp2
      go_ret
      exact ⟨ret_i64 (idxVal_none (fstOf_none HN.out)).symm, HB.out⟩
/-! ### slices.DeleteFunc -/
abbrev keepsO (tok : Int) (x : S48) : Bool := !(x.f1 == tok)
/-- What holds after the places below j have been looked at: i of them are kept, they lie in front; from j on all is as it was. -/
def DelState (tok : Int) (xs ys : List S48) (i j : Nat) : Prop :=
  i < j ∧ j ≤ xs.length ∧ ys.length = xs.length ∧ ys.take i = (xs.take j).filter (keepsO tok) ∧ ys.drop j = xs.drop j
theorem DelState.start {tok : Int} {xs : List S48} {i : Nat} (h : fstOf tok xs = i) (hl : i < xs.length) : DelState tok xs xs i (i + 1) := by
  refine ⟨by omega, by omega, rfl, ?_, rfl⟩
  unfold fstOf at h
  have h2 := (List.findIdx_eq hl).1 h
  rw [List.take_succ_eq_append_getElem hl, List.filter_append]
  have e1 : (xs.take i).filter (keepsO tok) = xs.take i := by
    rw [List.filter_eq_self]
    intro x hx
    obtain ⟨j, hj, rfl⟩ := List.getElem_of_mem hx
    rw [List.length_take] at hj
    rw [List.getElem_take]
    have := h2.2 j (by omega)
    simp [keepsO, this]
  have e2 : [xs[i]].filter (keepsO tok) = [] := by
    have := h2.1
    simp only [List.filter_cons, keepsO, this]
    rfl
  rw [e1, e2, List.append_nil]
theorem DelState.drop_ {tok : Int} {xs ys : List S48} {i j : Nat} (h : DelState tok xs ys i j) (hj : j < xs.length) (hk : ((ys.getD j z48).f1 == tok) = true) : DelState tok xs ys i (j + 1) := by
  obtain ⟨h1, h2, h3, h4, h5⟩ := h
  have hx : ys.getD j z48 = xs[j] := by
    have := congrArg List.head? h5
    rw [List.head?_drop, List.head?_drop, List.getElem?_eq_getElem hj] at this
    rw [List.getD_eq_getElem?_getD, this]
    rfl
  refine ⟨by omega, by omega, h3, ?_, ?_⟩
  · rw [h4, List.take_succ_eq_append_getElem hj, List.filter_append]
    rw [hx] at hk
    simp [keepsO, hk]
  · rw [← List.drop_drop, h5, List.drop_drop]
theorem DelState.keep_ {tok : Int} {xs ys : List S48} {i j : Nat} (h : DelState tok xs ys i j) (hj : j < xs.length) (hk : ((ys.getD j z48).f1 == tok) = false) : DelState tok xs (ys.set i (ys.getD j z48)) (i + 1) (j + 1) := by
  obtain ⟨h1, h2, h3, h4, h5⟩ := h
  have hx : ys.getD j z48 = xs[j] := by
    have := congrArg List.head? h5
    rw [List.head?_drop, List.head?_drop, List.getElem?_eq_getElem hj] at this
    rw [List.getD_eq_getElem?_getD, this]
    rfl
  refine ⟨by omega, by omega, by simp [h3], ?_, ?_⟩
  · rw [List.take_succ_eq_append_getElem (by simp; omega), List.getElem_set_self, List.take_set_of_le (Nat.le_refl _), h4, List.take_succ_eq_append_getElem hj, List.filter_append]
    rw [hx] at hk
    rw [hx]
    simp [keepsO, hk]
  · rw [List.drop_set_of_lt (by omega), ← List.drop_drop, h5, List.drop_drop]
theorem DelState.done {tok : Int} {xs ys : List S48} {i j : Nat} (h : DelState tok xs ys i j) (hj : j = xs.length) : ys.take i = xs.filter (keepsO tok) := by
  rw [h.2.2.2.1, hj, List.take_length]
theorem fst_none_filter {tok : Int} {xs : List S48} (h : ¬ fstOf tok xs < xs.length) : xs.filter (keepsO tok) = xs := by
  have h2 : fstOf tok xs = xs.length := by
    have : fstOf tok xs ≤ xs.length := List.findIdx_le_length
    omega
  rw [List.filter_eq_self]
  intro x hx
  have := (List.findIdx_eq_length).1 h2 x hx
  simp [keepsO, this]

/-- A row's cells from behind its last element on may be written. -/
theorem R_beyond {α : Type} {d : Kd α} {e : Nat} {w : World} {base : Nat} {ok : Nat → Prop} {g m cap : Nat} {xs : List α} (h : d.R e w base ok (.slice (some ⟨g, 0, none⟩) m cap) xs) (zs : List Value) (hz : m * d.sz + zs.length ≤ cap * d.sz) :
    d.R e (w.setCells g (m * d.sz) zs) base ok (.slice (some ⟨g, 0, none⟩) m cap) xs ∧ w.grownBy (w.setCells g (m * d.sz) zs) (some g) := by
  obtain ⟨s1, s2, s3, s4⟩ := setCells_same g zs (m * d.sz) w
  have hgr : w.grownBy (w.setCells g (m * d.sz) zs) (some g) := ⟨s1, s2, s3, by omega, fun k hk hne => setCells_far zs _ k (fun e => hne (by rw [e]))⟩
  refine ⟨?_, hgr⟩
  obtain ⟨h0, inner, ho, hr⟩ := h
  have hm : m = xs.length := by
    rcases ho.2 with ⟨h1, _⟩ | ⟨g', cap', cur, h1, _⟩
    · cases h1
    · injection h1
  refine ⟨h0, inner, ?_, hr.imp_ (fun _ _ hp => d.M_move (fun k hk => setCells_far zs _ k (fun e => hk.2 (by rw [e]; rfl))) hp)⟩
  obtain ⟨ho1, ho2⟩ := ho
  refine ⟨ho1, ?_⟩
  rcases ho2 with ⟨h1, _⟩ | ⟨g', cap', cur, h1, hb, hh, hn, hc, hs, ht⟩
  · cases h1
  · injection h1 with ha hb2 hc2
    injection ha with ha
    injection ha with ha
    subst ha; subst hc2
    obtain ⟨cur', h3, h4, h5⟩ := setCells_row (e := e) zs (m * d.sz) w cur hh (by omega)
    refine .inr ⟨g, cap, cur', by rw [hm], hb, h3, hn, hc, by omega, ?_⟩
    rw [h5, List.append_assoc, ← hm, List.take_append_of_le_length (by rw [List.length_take, Array.length_toList]; have : m * d.sz ≤ cap * d.sz := (by omega); omega), List.take_take, Nat.min_self, hm]
    exact ht
theorem run_clear_any {P : Program} (w : World) (t e ty : TypeId) (z : Value) (ht : P.underlying t = some (.slice e)) (hv : ∀ w, (zeroValue e).run P w = .ok z w) (b o n c : Nat) (hn : 0 < n) (zs : List Value) (hzs : (Builtin.zeroCells z.cells n).toList = zs)
    (h1 : ∀ v ∈ zs, v.oneCell' = true) (hc : ∀ j, j < zs.length → (w.cell? ⟨b, o + j, none⟩).isSome = true) (hf : ∀ j, j < zs.length → w.frozen? ⟨b, o + j, none⟩ = false) :
    (Builtin.clear_ #[t] ty #[.slice (some ⟨b, o, none⟩) n c]).run P w = .ok (.tuple #[]) (w.setCells b o zs) := by
  have hst := run_storeCells_cells (P := P) b o zs 0 w (by simpa using hc) (by simpa using hf) h1
  simp only [Nat.add_zero] at hst
  obtain ⟨m, rfl⟩ : ∃ m, n = m + 1 := ⟨n - 1, by omega⟩
  simp [Builtin.clear_, run_underlying ht, hv, hzs, hst]
theorem cells_own {w : World} {g o : Nat} {x : S48} (h : ∀ j u, (oc x)[j]? = some u → w.cell? ⟨g, o + j, none⟩ = some u) :
    w.cell? ⟨g, o, none⟩ = some (.int .i64 x.f0) ∧ w.cell? ⟨g, o + 1, none⟩ = some (.int .i64 x.f1) ∧ w.cell? ⟨g, o + 2, none⟩ = some (.int .i64 x.f2) ∧ w.cell? ⟨g, o + 3, none⟩ = some (.int .i64 x.f3) ∧ w.cell? ⟨g, o + 4, none⟩ = some (.int .u64 x.f4) :=
  ⟨h 0 _ rfl, h 1 _ rfl, h 2 _ rfl, h 3 _ rfl, h 4 _ rfl⟩
/-- An element of a row of orders: its cells. -/
theorem row_at {w : World} {base : Nat} {ok : Nat → Prop} {g n cap : Nat} {xs : List S48} (h : Kd.R k48 48 w base ok (.slice (some ⟨g, 0, none⟩) n cap) xs) (i : Nat) (hi : i < n) :
    ∀ j u, (oc (xs.getD i z48))[j]? = some u → w.cell? ⟨g, i * 5 + j, none⟩ = some u := by
  obtain ⟨hn, _, hC⟩ := Kd.R_reads' h
  obtain ⟨ad, c, e, _, hK, hc⟩ := Kd.C_get hC z48 (i : Int) (by omega) (by omega)
  cases e
  have hco := k48_open hK
  simp only [Int.toNat_natCast] at hco hc
  rw [hco] at hc
  intro j u hj
  have h2 := hc j u hj
  rw [add_plain] at h2
  exact h2
theorem below_size2 {w0 W : World} {o : Obj} (h : Below w0.heap.size w0 W) : w0.heap.size ≤ (W.alloc o).heap.size := by
  have : (W.alloc o).heap.size = W.heap.size + 1 := by simp
  have := h.size
  omega
theorem infoO : (Tryz.prog.info? 48).map (fun i => (i.zero, i.size, i.bytes)) = some (some (.agg #[(.int .i64 0), (.int .i64 0), (.int .i64 0), (.int .i64 0), (.int .u64 0)]), 5, 40) := by kernel_rfl
theorem zeroO (w : World) : (zeroValue 48).run Tryz.prog w = .ok (.agg #[.int .i64 0, .int .i64 0, .int .i64 0, .int .i64 0, .int .u64 0]) w := by kernel_rfl
theorem zero_cells_one (n : Nat) : ∀ v ∈ (Builtin.zeroCells (Value.agg #[.int .i64 0, .int .i64 0, .int .i64 0, .int .i64 0, .int .u64 0]).cells n).toList, v.oneCell' = true := by
  intro v hv
  simp only [Builtin.zeroCells, Value.cells, Array.toList_map, List.mem_map] at hv
  obtain ⟨i, _, rfl⟩ := hv
  have h5 : i % 5 = 0 ∨ i % 5 = 1 ∨ i % 5 = 2 ∨ i % 5 = 3 ∨ i % 5 = 4 := by omega
  have e5 : (#[Value.int .i64 0, Value.int .i64 0, Value.int .i64 0, Value.int .i64 0, Value.int .u64 0] : Array Value).size = 5 := rfl
  rw [e5]
  rcases h5 with h | h | h | h | h <;> rw [h] <;> rfl
set_option maxHeartbeats 4000000 in
set_option maxRecDepth 100000 in
theorem delete_calls (u : Value) (xs : List S48) (o : S48) (g : Nat) (ok : Nat → Prop) (w0 w : World) (hB : Below w0.heap.size w0 w) (ho : Kd.R k48 48 w w0.heap.size ok u xs) (hg : w.heap[g]? = some (oblk o)) (hne : ∀ k, ok k → k ≠ g) :
    Calls Tryz.prog 27 #[u, fv g] w fun e w' => ∃ v : Value, e = .returned v ∧ Kd.R k48 48 w' w0.heap.size ok v (xs.filter (keepsO o.f1)) ∧ Below w0.heap.size w0 w' := by
  have HB0 := Aside0.mk hB
  have HG0 := Aside0.mk hg
  have HN0 := Aside0.mk hne
  clear hB hg hne
  obtain ⟨A, c, rfl⟩ := Kd.R_slice ho
  obtain ⟨_, hcap, hC⟩ := Kd.R_reads' ho
  have hm : xs.length ≤ 9223372036854775807 := hC.2.1
  have HC := Aside0.mk hC
  clear hC
  by_cases hf : fstOf o.f1 xs < xs.length
  · obtain ⟨gb, cap, e1, hbase, hltb, _⟩ := Kd.R_form ho (by omega)
    injection e1 with e1 _ e2
    subst e1; subst e2
    obtain ⟨i0, hi0⟩ : ∃ i0, fstOf o.f1 xs = i0 := ⟨_, rfl⟩
    have hi : i0 < xs.length := by omega
    have HI := Aside0.mk (idxVal_at hi0 hi)
    have HS := Aside0.mk (DelState.start hi0 hi)
    have HR := Aside0.mk ho
    clear ho hf hi0
    have hi1 : ((i0 : Int) == -1) = false := beq_eq_false_iff_ne.mpr (by omega)
    go_enter Tryz.func27, Tryz.ntmps27
    go_wp2_with (first
      | (go_at_call 35; refine (index_calls _ _ xs o g _ HC.out hcap HG0.out).mono ?_; rintro e w1 ⟨rfl, hb1⟩; rw [HI.out]; have HB1 := Aside0.mk (below_then HB0.out HB0.out.size hb1); have HR1 := Aside0.mk (Kd.R_below HR.out hb1); have HG1 := Aside0.mk (blk_below HG0.out hb1); clear hb1))
    clear HB0 HR HG0 HC hcap
    go_loopw [5, 6] (fun v5 v6 wr => ∃ (i j : Nat) (ys : List S48), v5 = .int .i64 i ∧ v6 = .int .i64 j ∧ (i < j ∧ j ≤ xs.length) ∧ Aside0 (DelState o.f1 xs ys i j) ∧ Aside0 (Kd.R k48 48 wr w0.heap.size ok (.slice (some ⟨gb, 0, none⟩) xs.length c) ys) ∧ Aside0 (Below w0.heap.size w0 wr) ∧ Aside0 (wr.heap[g]? = some (oblk o))) (fun _ v6 _ => xs.length - (intOf v6).toNat)
    case atStart => exact ⟨i0, i0 + 1, xs, rfl, by go_num, ⟨by omega, by omega⟩, HS, HR1, HB1, HG1⟩
    case round =>
      obtain ⟨i, j, ys, rfl, rfl, ⟨hij, hjn⟩, HD, HRr, HBr, HGr⟩ := hrel
      clear HR1 HB1 HG1 HS HI
      by_cases hlt : j < xs.length
      · obtain ⟨h0, h1, h2, h3, h4⟩ := cells_own (row_at HRr.out j hlt)
        obtain ⟨x, hx⟩ : ∃ x, ys.getD j z48 = x := ⟨_, rfl⟩
        rw [hx] at h0 h1 h2 h3 h4
        have HX := Aside0.mk hx
        clear hx
        by_cases hb : (x.f1 == o.f1) = true
        · have HS2 := Aside0.mk (HD.out.drop_ hlt (by rw [HX.out]; exact hb))
          go_wp2_with (first
            | (go_at_call 28; refine (kept1_calls x o g _ (blk_alloc HGr.out _)).mono ?_; rintro e w1 ⟨rfl, hb1⟩; have HB2 := Aside0.mk (below_then (HBr.out.alloc HBr.out.size _) (below_size2 HBr.out) hb1); have HR2 := Aside0.mk (Kd.R_below (Kd.R_alloc HRr.out _) hb1); have HG2 := Aside0.mk (blk_below (blk_alloc HGr.out _) hb1); have hx7 : w1.heap[wr.heap.size]? = some (oblk x) := blk_below (blk_new wr _) hb1; have y0 := (blk_cell hx7 0).trans rfl; have y1 := (blk_cell hx7 1).trans rfl; have y2 := (blk_cell hx7 2).trans rfl; have y3 := (blk_cell hx7 3).trans rfl; have y4 := (blk_cell hx7 4).trans rfl; clear hb1 hx7))
          go_roundw
          case rel => exact ⟨i, j + 1, ys, rfl, by go_num, ⟨by omega, by omega⟩, HS2, HR2, HB2, HG2⟩
          case measure => simp [intOf]; omega
        · have hb' : (x.f1 == o.f1) = false := by simpa using hb
          clear hb
          have HS2 := Aside0.mk (HD.out.keep_ hlt (by rw [HX.out]; exact hb'))
          go_wp2_with (first
            | (go_at_call 28; refine (kept1_calls x o g _ (blk_alloc HGr.out _)).mono ?_; rintro e w1 ⟨rfl, hb1⟩; have HB2 := Aside0.mk (below_then (HBr.out.alloc HBr.out.size _) (below_size2 HBr.out) hb1); have HR2 := Aside0.mk (Kd.R_below (Kd.R_alloc HRr.out _) hb1); have HG2 := Aside0.mk (blk_below (blk_alloc HGr.out _) hb1); have hx7 : w1.heap[wr.heap.size]? = some (oblk x) := blk_below (blk_new wr _) hb1; have y0 := (blk_cell hx7 0).trans rfl; have y1 := (blk_cell hx7 1).trans rfl; have y2 := (blk_cell hx7 2).trans rfl; have y3 := (blk_cell hx7 3).trans rfl; have y4 := (blk_cell hx7 4).trans rfl; clear hb1 hx7)
            | ((with_reducible refine gate_ (.store 48 (.tmp 33) (.tmp 32)) rfl ?_); refine Kd.R_store k48 (w0 := w0) w0.heap.size rfl rfl 48 (.tmp 33) (.tmp 32) rfl 48 (g := gb) (n := xs.length) (cap := c) (o' := i * 5) (i : Int) 0 ys x (ov x) (oc x) (oc (ys.getD i z48)) ok (fun _ => False) rfl ?ho rfl rfl (by kernel_rfl) ?h1 HR2.out (by omega) (by omega) rfl ?hcc (Nat.le_refl 5) ?hM (fun _ h => h.elim) HB2.out ?_; (case ho => simp; rfl); (case h1 => intro q hq; simp at hq; rcases hq with rfl | rfl | rfl | rfl | rfl <;> rfl); (case hcc => intro j u hj; exact row_at HR2.out i (by omega) j u hj); (case hM => exact k48_mkM _ _ _ x); intro w2 hR hB hG; have HR3 := Aside0.mk hR; have HB3 := Aside0.mk hB; have HG3 := Aside0.mk (blk_grown HG2.out hG (by intro e; injection e with e; exact HN0.out gb (HR2.out.1 gb rfl) e.symm)); clear hR hB hG))
          go_roundw
          case rel => exact ⟨i + 1, j + 1, ys.set i x, by go_num, by go_num, ⟨by omega, by omega⟩, ⟨by have := HS2.out; rw [HX.out] at this; exact this⟩, (by first | exact HR3 | exact ⟨by simpa using HR3.out⟩), HB3, HG3⟩
          case measure => simp [intOf]; omega
      · have hj : j = xs.length := by omega
        obtain ⟨hq_, hcap, hq2_⟩ := Kd.R_reads' HRr.out
        clear hq_ hq2_
        have hyl := HD.out.2.2.1
        have hcm : c ≤ maxLen := by
          obtain ⟨_, inner, ho, _⟩ := HRr.out
          rcases ho.2 with ⟨h1, _⟩ | ⟨g', cap', cur, h1, _, _, _, h2, _⟩
          · cases h1
          · injection h1 with _ _ h3; omega
        have HT := Aside0.mk (show Kd.R k48 48 wr w0.heap.size ok (.slice (some ⟨gb, 0, none⟩) i c) (xs.filter (keepsO o.f1)) from by rw [← HD.out.done hj]; exact Kd.R_take HRr.out (by omega))
        obtain ⟨zs, hzs⟩ : ∃ zs, (Builtin.zeroCells (Value.agg #[.int .i64 0, .int .i64 0, .int .i64 0, .int .i64 0, .int .u64 0]).cells (xs.length - i)).toList = zs := ⟨_, rfl⟩
        have hzl : zs.length = (xs.length - i) * 5 := by rw [← hzs]; simp [Builtin.zeroCells, Value.cells]
        have hz1 : ∀ v ∈ zs, v.oneCell' = true := by
          rw [← hzs]
          exact zero_cells_one _
        obtain ⟨gcur, gh, gsz⟩ : ∃ cur : Array Value, wr.heap[gb]? = some (.cells cur 48 (0, 0)) ∧ cur.size = c * 5 := by
          obtain ⟨_, inner, ho, _⟩ := HRr.out
          rcases ho.2 with ⟨h1, _⟩ | ⟨g', cap', cur, h1, _, h2, _, _, h3, _⟩
          · cases h1
          · injection h1 with h4 _ h5; injection h4 with h4; injection h4 with h4; subst h4; subst h5; exact ⟨cur, h2, h3⟩
        have hrow := R_beyond HT.out zs (by rw [hzl]; show i * 5 + (xs.length - i) * 5 ≤ c * 5; omega)
        have hcut1 : ∀ W : World, (Instr.slice 27 (.slice (some ⟨gb, 0, none⟩) xs.length c) (some (.int .i64 i)) none none).run Tryz.prog W = .ok (.slice (some ⟨gb, i * 5, none⟩) (xs.length - i) (c - i)) W := by
          intro W
          obtain ⟨i0q, hi0q, _, hszq, _⟩ := info_parts infoO
          have h := cut_from (P := Tryz.prog) 27 48 .i64 Tryz.underlying27 hi0q 5 hszq (some ⟨gb, 0, none⟩) xs.length c (i : Int) (by omega) (by omega) W
          rw [if_neg (by rw [Int.toNat_natCast]; omega)] at h
          simp only [Int.toNat_natCast, Option.map_some, add_plain] at h
          exact h
        have hcut2 : ∀ W : World, (Instr.slice 27 (.slice (some ⟨gb, 0, none⟩) xs.length c) none (some (.int .i64 i)) none).run Tryz.prog W = .ok (.slice (some ⟨gb, 0, none⟩) i c) W := by
          intro W
          obtain ⟨i0q, hi0q, _, hszq, _⟩ := info_parts infoO
          have h := cut_to (P := Tryz.prog) 27 48 .i64 Tryz.underlying27 hi0q (some ⟨gb, 0, none⟩) xs.length c (i : Int) (by omega) (by omega) hcap W
          simpa only [Int.toNat_natCast] using h
        have hclear : ∀ ty, (Builtin.clear_ #[27] ty #[.slice (some ⟨gb, i * 5, none⟩) (xs.length - i) (c - i)]).run Tryz.prog wr = .ok (.tuple #[]) (wr.setCells gb (i * 5) zs) := fun ty =>
          run_clear_any wr 27 48 ty _ Tryz.underlying27 zeroO gb (i * 5) (xs.length - i) (c - i) (by omega) zs hzs hz1
            (fun j hj => by rw [blk_cell gh, Array.getElem?_eq_getElem (by omega)]; rfl) (fun j _ => blk_frozen gh _)
        have HRow := Aside0.mk hrow.1
        have HGr := Aside0.mk hrow.2
        clear hrow hzs hzl hz1 gh gsz hcm hyl
        go_wp2

        go_ret
        exact ⟨_, rfl, HRow.out, HBr.out.grown HGr.out HBr.out.size (fun k hk => by cases hk; exact Kd.R_base HT.out gb rfl)⟩
  · have hnone : idxVal o.f1 xs = -1 := by unfold idxVal; rw [if_neg hf]
    have hfl := fst_none_filter hf
    have HI := Aside0.mk hnone
    have HF := Aside0.mk hfl
    have HR := Aside0.mk ho
    clear hf hnone hfl ho
    go_enter Tryz.func27, Tryz.ntmps27
    go_wp2_with (first
      | (go_at_call 35; refine (index_calls _ _ xs o g _ HC.out hcap HG0.out).mono ?_; rintro e w1 ⟨rfl, hb1⟩; rw [HI.out]; have HB1 := Aside0.mk (below_then HB0.out HB0.out.size hb1); have HR1 := Aside0.mk (Kd.R_below HR.out hb1); clear hb1))
    go_ret
    exact ⟨_, rfl, by rw [HF.out]; exact HR1.out, HB1.out⟩
/-! ### orders.kept -/
def keptStep (kind : Int) (out : List S48) (o : S48) : List S48 :=
  if o.f0 = kind then out ++ [o] else if o.f0 = 3 then out.filter (keepsO o.f1) else out
def keptL (kind : Int) (l : List S48) : List S48 := l.foldl (keptStep kind) []
theorem keptL_length (kind : Int) (l : List S48) : (keptL kind l).length ≤ l.length := by
  unfold keptL
  suffices h : ∀ (l out : List S48), (l.foldl (keptStep kind) out).length ≤ out.length + l.length by simpa using h l []
  intro l
  induction l with
  | nil => intro out; simp
  | cons o l ih =>
    intro out
    rw [List.foldl_cons]
    have h1 := ih (keptStep kind out o)
    have h2 : (keptStep kind out o).length ≤ out.length + 1 := by
      unfold keptStep
      split
      · simp
      · split
        · have := List.length_filter_le (keepsO o.f1) out; omega
        · omega
    simp only [List.length_cons]
    omega
theorem keptL_take {kind : Int} {l : List S48} {k : Nat} (h : k < l.length) : keptL kind (l.take (k + 1)) = keptStep kind (keptL kind (l.take k)) (l.getD k z48) := by
  unfold keptL
  rw [List.take_succ_eq_append_getElem h, List.foldl_append, List.getD_eq_getElem?_getD, List.getElem?_eq_getElem h]
  rfl
theorem keptStep_put {kind : Int} {out : List S48} {o : S48} (h : o.f0 = kind) : keptStep kind out o = out ++ [o] := by unfold keptStep; rw [if_pos h]
theorem keptStep_away {kind : Int} {out : List S48} {o : S48} (h : ¬ o.f0 = kind) (h2 : o.f0 = 3) : keptStep kind out o = out.filter (keepsO o.f1) := by unfold keptStep; rw [if_neg h, if_pos h2]
theorem keptStep_none {kind : Int} {out : List S48} {o : S48} (h : ¬ o.f0 = kind) (h2 : ¬ o.f0 = 3) : keptStep kind out o = out := by unfold keptStep; rw [if_neg h, if_neg h2]
def orders_kept.f (l0 : List S48) (a1 : Int) : Option (List S48) := if l0.length < 3518437208883 then some (keptL a1 l0) else none
set_option maxHeartbeats 4000000 in
set_option maxRecDepth 100000 in
theorem orders_kept.calls (A0 : Option Addr) (c0 : Nat) (l0 : List S48) (a1 : Int) (r : List S48) (w : World) (hr0 : Kd.C k48 w A0 l0.length l0) (hc0 : l0.length ≤ c0) (h : orders_kept.f l0 a1 = some r) :
    Calls Tryz.prog 18 #[.slice A0 l0.length c0, .int .i64 a1] w fun e w' => ∃ v0_ : Value, e = .returned v0_ ∧ Kd.R k48 48 w' w.heap.size (fun _ => True) v0_ r ∧ Below w.heap.size w w' := by
  unfold orders_kept.f at h
  split at h
  · rename_i hlen
    have HE := Aside0.mk (Option.some.inj h)
    clear h
    have HC := Aside0.mk hr0
    clear hr0 hc0
    go_enter Tryz.func18, Tryz.ntmps18
    go_wp2
    go_loopw [5, 10] (fun v5 v10 wr => ∃ k : Nat, k ≤ l0.length ∧ v10 = .int .i64 k ∧ Aside0 (Kd.R k48 48 wr w.heap.size (fun _ => True) v5 (keptL a1 (l0.take k))) ∧ Aside0 (Below w.heap.size w wr)) (fun _ v10 _ => l0.length - (intOf v10).toNat)
    case atStart => exact ⟨0, Nat.zero_le _, rfl, ⟨Kd.R_nil _ _ _ _ _⟩, ⟨Below.refl _ _⟩⟩
    case round =>
      obtain ⟨k, hk, rfl, HR, HB⟩ := hrel
      by_cases hlt : k < l0.length
      · obtain ⟨ad, e0, h0, h1, h2, h3, h4⟩ := at_T48 HC.out (k : Int) (by omega) (by omega)
        cases e0
        simp only [Int.toNat_natCast] at h0 h1 h2 h3 h4
        replace h0 := (HB.out.cell (World.block_lt_of_cell? w _ h0)).trans h0
        replace h1 := (HB.out.cell (World.block_lt_of_cell? w _ h1)).trans h1
        replace h2 := (HB.out.cell (World.block_lt_of_cell? w _ h2)).trans h2
        replace h3 := (HB.out.cell (World.block_lt_of_cell? w _ h3)).trans h3
        replace h4 := (HB.out.cell (World.block_lt_of_cell? w _ h4)).trans h4
        have HK := Aside0.mk (keptL_take (kind := a1) hlt)
        obtain ⟨x, hx⟩ : ∃ x, rd_T48 l0 (k : Int) = x := ⟨_, rfl⟩
        have HX : Aside0 (l0.getD k z48 = x) := ⟨by rw [← hx]; simp [rd_T48]⟩
        rw [hx] at h0 h1 h2 h3 h4
        clear hx
        have HL := Aside0.mk (Nat.le_trans (keptL_length a1 (l0.take k)) (by rw [List.length_take]; exact Nat.min_le_left _ _))
        by_cases c1 : x.f0 = a1
        · have c1b : (x.f0 == a1) = true := beq_iff_eq.mpr c1
          replace c1 := Aside0.mk c1
          go_wp2_with (first
            | ((with_reducible refine gate_builtin (b := .append) (xs := #[.tmp 19, .tmp 21]) rfl ?_); at_builtin; refine Kd.R_append k48 (w0 := w) w.heap.size rfl (.tmp 19) (.tmp 21) 27 48 (.agg #[(.int .i64 0), (.int .i64 0), (.int .i64 0), (.int .i64 0), (.int .u64 0)]) 40 rfl Tryz.underlying27 infoO rfl (by decide) (by omega) u5 (keptL a1 (l0.take k)) x (oc x) (fun _ => True) (fun _ => False) rfl (by first | (go_simp; done) | (go_simp; rfl)) (k48_mkM _ _ _ x) (fun _ hk => hk.elim) (fun _ _ => trivial) (Kd.R_alloc HR.out _) (HB.out.alloc HB.out.size _) (below_size2 HB.out) (by have := HL.out; omega) ?_; intro v1 w1 hR1 hB1 hG1 _; have HR1 := Aside0.mk hR1; have HB1 := Aside0.mk hB1; clear hR1 hB1 hG1))
          go_roundw
          case rel => exact ⟨k + 1, by omega, by go_num, ⟨by rw [HK.out, HX.out, keptStep_put c1.out]; exact HR1.out⟩, HB1⟩
          case measure => simp [intOf]; omega
        · by_cases c2 : x.f0 = 3
          · have c1b : (x.f0 == a1) = false := beq_eq_false_iff_ne.mpr c1
            have c2b : (x.f0 == 3) = true := beq_iff_eq.mpr c2
            replace c1 := Aside0.mk c1
            replace c2 := Aside0.mk c2
            have hmf : ∀ (fn : Fn) (first cap : Array Value) (w : World), (Instr.makeFunc fn first cap).run Tryz.prog w = .ok (.func fn first cap) w := fun _ _ _ _ => rfl
            have HRok := Aside0.mk (Kd.R_bound HR.out)
            go_wp2_with (first
              | (go_at_call 27; refine (delete_calls u5 (keptL a1 (l0.take k)) x wr.heap.size _ w _ (HB.out.alloc HB.out.size _) (Kd.R_alloc HRok.out _) (blk_new wr _) ?hne).mono ?_; (case hne => exact fun q hq => by have := hq.2.2.1; omega); rintro e w1 ⟨v1, rfl, hR1, hB1⟩; have HR1 := Aside0.mk (Kd.R_mono hR1 (fun _ _ => trivial)); have HB1 := Aside0.mk hB1; clear hR1 hB1))
            go_roundw
            case rel => exact ⟨k + 1, by omega, by go_num, ⟨by rw [HK.out, HX.out, keptStep_away c1.out c2.out]; exact HR1.out⟩, HB1⟩
            case measure => simp [intOf]; omega
          · have c1b : (x.f0 == a1) = false := beq_eq_false_iff_ne.mpr c1
            have c2b : (x.f0 == 3) = false := beq_eq_false_iff_ne.mpr c2
            replace c1 := Aside0.mk c1
            replace c2 := Aside0.mk c2
            go_wp2
            go_roundw
            case rel => exact ⟨k + 1, by omega, by go_num, ⟨by rw [HK.out, HX.out, keptStep_none c1.out c2.out]; exact Kd.R_alloc HR.out _⟩, ⟨HB.out.alloc HB.out.size _⟩⟩
            case measure => simp [intOf]; omega
      · have hkk : k = l0.length := by omega
        subst hkk
        go_wp2
        go_ret
        exact ⟨_, rfl, by rw [← HE.out]; have := HR.out; rw [List.take_length] at this; exact this, HB.out⟩
  · exact absurd h (by simp)
end Go.Proofs.YtflnkchpfbcgiaaGreatDoor.Q
