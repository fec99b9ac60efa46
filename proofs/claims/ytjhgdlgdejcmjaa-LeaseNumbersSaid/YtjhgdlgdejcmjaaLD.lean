/- Over's first closure; slices.IndexFunc and slices.DeleteFunc at it, walked. By an AI agent of this work. -/
import Derived.Test.YtjhgdlgdejcmjaaQx0
import Derived.Lib.Hide
import Derived.OwnWalk
namespace Go.Proofs.Ytjhgdlgdejcmjaa.L
open Go.RowKit Go.Proofs.Ytjhgdlgdejcmjaa.Q Go.Proofs.YtjhgdlgdejcmjaaW.PrintWords Go.Proofs.YtjhgdlgdejcmjaaW.PrintLast Go.Proofs.YtjhgdlgdejcmjaaW.PrintMore
set_option linter.unusedVariables false
set_option linter.unusedSectionVars false
set_option linter.unusedSimpArgs false

/-- An order's cells. -/
abbrev oc (x : S38) : List Value := [.int .i64 x.f0, .int .i64 x.f1, .int .u64 x.f2]
abbrev oblk (x : S38) : Obj := .cells #[.int .i64 x.f0, .int .i64 x.f1, .int .u64 x.f2] 38 (0, 0)
abbrev ov (x : S38) : Value := .agg #[.int .i64 x.f0, .int .i64 x.f1, .int .u64 x.f2]
abbrev nblk (o : Int) : Obj := .cells #[.int .u64 o] 28 (0, 0)
/-- The closure's value: it has caught the variable o, which lies in block g. -/
abbrev fv (g : Nat) : Value := .func (.func 23) #[] #[.pointer (some ⟨g, 0, none⟩)]

set_option maxHeartbeats 1000000 in
set_option maxRecDepth 100000 in
theorem kept1_calls (x : S38) (o : Int) (g : Nat) (w : World) (hg : w.heap[g]? = some (nblk o)) :
    Calls Try.prog 23 #[ov x, .pointer (some ⟨g, 0, none⟩)] w fun e w' => e = .returned (.bool (decide (o < x.f2))) ∧ Below w.heap.size w w' := by
  have h1 : w.cell? ⟨g, 0, none⟩ = some (.int .u64 o) := (blk_cell hg 0).trans rfl
  have hlt : g < w.heap.size := blk_lt hg
  clear hg
  go_enter Try.func23, Try.ntmps23
  go_wp2
  go_ret
  exact ⟨rfl, (Below.refl _ _).alloc (Nat.le_refl _) _⟩

/-- Where the first one of a token lies. -/
def fstOf (tok : Int) (xs : List S38) : Nat := xs.findIdx (fun x => decide (tok < x.f2))
def idxVal (tok : Int) (xs : List S38) : Int := if fstOf tok xs < xs.length then (fstOf tok xs : Int) else -1
theorem idxVal_at {tok : Int} {xs : List S38} {k : Nat} (h : fstOf tok xs = k) (hl : k < xs.length) : idxVal tok xs = k := by unfold idxVal; rw [h, if_pos hl]
theorem idxVal_none {tok : Int} {xs : List S38} (h : fstOf tok xs = xs.length) : idxVal tok xs = -1 := by unfold idxVal; rw [h, if_neg (by omega)]
theorem ret_i64 {a b : Int} (h : a = b) : Ending.returned (.int .i64 a) = Ending.returned (.int .i64 b) := by rw [h]
theorem fstOf_at {tok : Int} {xs : List S38} {k : Nat} (h : ∀ j, j < k → (decide (tok < (xs.getD j z38).f2)) = false) (hk : (decide (tok < (xs.getD k z38).f2)) = true) (hl : k < xs.length) : fstOf tok xs = k := by
  unfold fstOf
  rw [List.findIdx_eq hl]
  rw [List.getD_eq_getElem?_getD, List.getElem?_eq_getElem hl] at hk
  refine ⟨hk, fun j hj => ?_⟩
  have := h j hj
  rw [List.getD_eq_getElem?_getD, List.getElem?_eq_getElem (by omega)] at this
  exact this
theorem fstOf_none {tok : Int} {xs : List S38} (h : ∀ j, j < xs.length → (decide (tok < (xs.getD j z38).f2)) = false) : fstOf tok xs = xs.length := by
  unfold fstOf
  rw [List.findIdx_eq_length]
  intro x hx
  obtain ⟨j, hj, rfl⟩ := List.getElem_of_mem hx
  have := h j hj
  rw [List.getD_eq_getElem?_getD, List.getElem?_eq_getElem hj] at this
  exact this
theorem fstOf_step {tok : Int} {xs : List S38} {k : Nat} (h : ∀ j, j < k → (decide (tok < (xs.getD j z38).f2)) = false) (hk : (decide (tok < (xs.getD k z38).f2)) = false) : ∀ j, j < k + 1 → (decide (tok < (xs.getD j z38).f2)) = false := by
  intro j hj
  rcases Nat.lt_or_ge j k with hjk | hjk
  · exact h j hjk
  · obtain rfl : j = k := by omega
    exact hk
set_option maxHeartbeats 1000000 in
set_option maxRecDepth 100000 in
theorem index_calls (A : Option Addr) (c : Nat) (xs : List S38) (o : Int) (g : Nat) (w : World) (hr : Kd.C k38 w A xs.length xs) (hc : xs.length ≤ c) (hg : w.heap[g]? = some (nblk o)) :
    Calls Try.prog 30 #[.slice A xs.length c, fv g] w fun e w' =>
      e = .returned (.int .i64 (idxVal o xs)) ∧ Below w.heap.size w w' := by
  have hm : xs.length ≤ 9223372036854775807 := hr.2.1
  have HR := Aside0.mk hr
  have HG := Aside0.mk hg
  clear hr hg
  go_enter Try.func30, Try.ntmps30
  go_wp2
  go_loopw [8] (fun v8 wr => ∃ k : Nat, k ≤ xs.length ∧ v8 = .int .i64 k ∧ Aside0 (∀ j, j < k → (decide (o < (xs.getD j z38).f2)) = false) ∧ Aside0 (Below w.heap.size w wr)) (fun v8 _ => xs.length - (intOf v8).toNat)
  case atStart => exact ⟨0, Nat.zero_le _, rfl, ⟨fun j hj => absurd hj (by omega)⟩, ⟨Below.refl _ _⟩⟩
  case round =>
    obtain ⟨k, hk, rfl, HN, HB⟩ := hrel
    by_cases hlt : k < xs.length
    · obtain ⟨ad, rfl, h0, h1, h2⟩ := at_T38 HR.out (k : Int) (by omega) (by omega)
      simp only [Int.toNat_natCast] at h0 h1 h2
      replace h0 := (HB.out.cell (World.block_lt_of_cell? w _ h0)).trans h0
      replace h1 := (HB.out.cell (World.block_lt_of_cell? w _ h1)).trans h1
      replace h2 := (HB.out.cell (World.block_lt_of_cell? w _ h2)).trans h2
      have hgw := Aside0.mk (blk_below HG.out HB.out)
      obtain ⟨x, hx⟩ : ∃ x, rd_T38 xs (k : Int) = x := ⟨_, rfl⟩
      have HX : Aside0 (xs.getD k z38 = x) := ⟨by rw [← hx]; simp [rd_T38]⟩
      rw [hx] at h0 h1 h2
      clear hx
      by_cases hb : (decide (o < x.f2)) = true
      · go_wp2_with (first
          | (go_at_call 23; refine (kept1_calls x o g _ hgw.out).mono ?_; rintro e w1 ⟨rfl, hb1⟩; have HB1 := Aside0.mk (below_step HB.out hb1); clear hb1))
        go_ret
        have hf := fstOf_at HN.out (by rw [HX.out]; exact hb) hlt
        exact ⟨ret_i64 (idxVal_at hf hlt).symm, HB1.out⟩
      · have hb' : (decide (o < x.f2)) = false := by simpa using hb
        clear hb
        go_wp2_with (first
          | (go_at_call 23; refine (kept1_calls x o g _ hgw.out).mono ?_; rintro e w1 ⟨rfl, hb1⟩; have HB1 := Aside0.mk (below_step HB.out hb1); clear hb1))
        go_roundw
        case rel => exact ⟨k + 1, by omega, by go_num, ⟨fstOf_step HN.out (by rw [HX.out]; exact hb')⟩, HB1⟩
        case measure => simp [intOf]; omega
    · have hkk : k = xs.length := by omega
      subst hkk
      clear hlt hk
      go_wp2
      go_ret
      exact ⟨ret_i64 (idxVal_none (fstOf_none HN.out)).symm, HB.out⟩
/-! ### slices.DeleteFunc -/
abbrev keepsO (tok : Int) (x : S38) : Bool := !(decide (tok < x.f2))
/-- What holds after the places below j have been looked at: i of them are kept, they lie in front; from j on all is as it was. -/
def DelState (tok : Int) (xs ys : List S38) (i j : Nat) : Prop :=
  i < j ∧ j ≤ xs.length ∧ ys.length = xs.length ∧ ys.take i = (xs.take j).filter (keepsO tok) ∧ ys.drop j = xs.drop j
theorem DelState.start {tok : Int} {xs : List S38} {i : Nat} (h : fstOf tok xs = i) (hl : i < xs.length) : DelState tok xs xs i (i + 1) := by
  refine ⟨by omega, by omega, rfl, ?_, rfl⟩
  unfold fstOf at h
  have h2 := (List.findIdx_eq hl).1 h
  rw [List.take_succ_eq_append_getElem hl, List.filter_append]
  have e1 : (xs.take i).filter (keepsO tok) = xs.take i := by
    rw [List.filter_eq_self]
    intro x hx
    obtain ⟨j, hj, rfl⟩ := List.getElem_of_mem hx
    rw [List.length_take] at hj
    rw [List.getElem_take]
    have := h2.2 j (by omega)
    simp [keepsO, this]
  have e2 : [xs[i]].filter (keepsO tok) = [] := by
    have := h2.1
    simp only [List.filter_cons, keepsO, this]
    rfl
  rw [e1, e2, List.append_nil]
theorem DelState.drop_ {tok : Int} {xs ys : List S38} {i j : Nat} (h : DelState tok xs ys i j) (hj : j < xs.length) (hk : (decide (tok < (ys.getD j z38).f2)) = true) : DelState tok xs ys i (j + 1) := by
  obtain ⟨h1, h2, h3, h4, h5⟩ := h
  have hx : ys.getD j z38 = xs[j] := by
    have := congrArg List.head? h5
    rw [List.head?_drop, List.head?_drop, List.getElem?_eq_getElem hj] at this
    rw [List.getD_eq_getElem?_getD, this]
    rfl
  refine ⟨by omega, by omega, h3, ?_, ?_⟩
  · rw [h4, List.take_succ_eq_append_getElem hj, List.filter_append]
    rw [hx] at hk
    simp [keepsO, hk]
  · rw [← List.drop_drop, h5, List.drop_drop]
theorem DelState.keep_ {tok : Int} {xs ys : List S38} {i j : Nat} (h : DelState tok xs ys i j) (hj : j < xs.length) (hk : (decide (tok < (ys.getD j z38).f2)) = false) : DelState tok xs (ys.set i (ys.getD j z38)) (i + 1) (j + 1) := by
  obtain ⟨h1, h2, h3, h4, h5⟩ := h
  have hx : ys.getD j z38 = xs[j] := by
    have := congrArg List.head? h5
    rw [List.head?_drop, List.head?_drop, List.getElem?_eq_getElem hj] at this
    rw [List.getD_eq_getElem?_getD, this]
    rfl
  refine ⟨by omega, by omega, by simp [h3], ?_, ?_⟩
  · rw [List.take_succ_eq_append_getElem (by simp; omega), List.getElem_set_self, List.take_set_of_le (Nat.le_refl _), h4, List.take_succ_eq_append_getElem hj, List.filter_append]
    rw [hx] at hk
    rw [hx]
    simp [keepsO, hk]
  · rw [List.drop_set_of_lt (by omega), ← List.drop_drop, h5, List.drop_drop]
theorem DelState.done {tok : Int} {xs ys : List S38} {i j : Nat} (h : DelState tok xs ys i j) (hj : j = xs.length) : ys.take i = xs.filter (keepsO tok) := by
  rw [h.2.2.2.1, hj, List.take_length]
theorem fst_none_filter {tok : Int} {xs : List S38} (h : ¬ fstOf tok xs < xs.length) : xs.filter (keepsO tok) = xs := by
  have h2 : fstOf tok xs = xs.length := by
    have : fstOf tok xs ≤ xs.length := List.findIdx_le_length
    omega
  rw [List.filter_eq_self]
  intro x hx
  have := (List.findIdx_eq_length).1 h2 x hx
  simp [keepsO, this]

/-- A row's cells from behind its last element on may be written. -/
theorem R_beyond {α : Type} {d : Kd α} {e : Nat} {w : World} {base : Nat} {ok : Nat → Prop} {g m cap : Nat} {xs : List α} (h : d.R e w base ok (.slice (some ⟨g, 0, none⟩) m cap) xs) (zs : List Value) (hz : m * d.sz + zs.length ≤ cap * d.sz) :
    d.R e (w.setCells g (m * d.sz) zs) base ok (.slice (some ⟨g, 0, none⟩) m cap) xs ∧ w.grownBy (w.setCells g (m * d.sz) zs) (some g) := by
  obtain ⟨s1, s2, s3, s4⟩ := setCells_same g zs (m * d.sz) w
  have hgr : w.grownBy (w.setCells g (m * d.sz) zs) (some g) := ⟨s1, s2, s3, by omega, fun k hk hne => setCells_far zs _ k (fun e => hne (by rw [e]))⟩
  refine ⟨?_, hgr⟩
  obtain ⟨h0, inner, ho, hr⟩ := h
  have hm : m = xs.length := by
    rcases ho.2 with ⟨h1, _⟩ | ⟨g', cap', cur, h1, _⟩
    · cases h1
    · injection h1
  refine ⟨h0, inner, ?_, hr.imp_ (fun _ _ hp => d.M_move (fun k hk => setCells_far zs _ k (fun e => hk.2 (by rw [e]; rfl))) hp)⟩
  obtain ⟨ho1, ho2⟩ := ho
  refine ⟨ho1, ?_⟩
  rcases ho2 with ⟨h1, _⟩ | ⟨g', cap', cur, h1, hb, hh, hn, hc, hs, ht⟩
  · cases h1
  · injection h1 with ha hb2 hc2
    injection ha with ha
    injection ha with ha
    subst ha; subst hc2
    obtain ⟨cur', h3, h4, h5⟩ := setCells_row (e := e) zs (m * d.sz) w cur hh (by omega)
    refine .inr ⟨g, cap, cur', by rw [hm], hb, h3, hn, hc, by omega, ?_⟩
    rw [h5, List.append_assoc, ← hm, List.take_append_of_le_length (by rw [List.length_take, Array.length_toList]; have : m * d.sz ≤ cap * d.sz := (by omega); omega), List.take_take, Nat.min_self, hm]
    exact ht
theorem run_clear_any {P : Program} (w : World) (t e ty : TypeId) (z : Value) (ht : P.underlying t = some (.slice e)) (hv : ∀ w, (zeroValue e).run P w = .ok z w) (b o n c : Nat) (hn : 0 < n) (zs : List Value) (hzs : (Builtin.zeroCells z.cells n).toList = zs)
    (h1 : ∀ v ∈ zs, v.oneCell' = true) (hc : ∀ j, j < zs.length → (w.cell? ⟨b, o + j, none⟩).isSome = true) (hf : ∀ j, j < zs.length → w.frozen? ⟨b, o + j, none⟩ = false) :
    (Builtin.clear_ #[t] ty #[.slice (some ⟨b, o, none⟩) n c]).run P w = .ok (.tuple #[]) (w.setCells b o zs) := by
  have hst := run_storeCells_cells (P := P) b o zs 0 w (by simpa using hc) (by simpa using hf) h1
  simp only [Nat.add_zero] at hst
  obtain ⟨m, rfl⟩ : ∃ m, n = m + 1 := ⟨n - 1, by omega⟩
  simp [Builtin.clear_, run_underlying ht, hv, hzs, hst]
theorem cells_own {w : World} {g o : Nat} {x : S38} (h : ∀ j u, (oc x)[j]? = some u → w.cell? ⟨g, o + j, none⟩ = some u) :
    w.cell? ⟨g, o, none⟩ = some (.int .i64 x.f0) ∧ w.cell? ⟨g, o + 1, none⟩ = some (.int .i64 x.f1) ∧ w.cell? ⟨g, o + 2, none⟩ = some (.int .u64 x.f2) :=
  ⟨h 0 _ rfl, h 1 _ rfl, h 2 _ rfl⟩
/-- An element of a row of orders: its cells. -/
theorem row_at {w : World} {base : Nat} {ok : Nat → Prop} {g n cap : Nat} {xs : List S38} (h : Kd.R k38 38 w base ok (.slice (some ⟨g, 0, none⟩) n cap) xs) (i : Nat) (hi : i < n) :
    ∀ j u, (oc (xs.getD i z38))[j]? = some u → w.cell? ⟨g, i * 3 + j, none⟩ = some u := by
  obtain ⟨hn, _, hC⟩ := Kd.R_reads' h
  obtain ⟨ad, c, e, _, hK, hc⟩ := Kd.C_get hC z38 (i : Int) (by omega) (by omega)
  cases e
  have hco := k38_open hK
  simp only [Int.toNat_natCast] at hco hc
  rw [hco] at hc
  intro j u hj
  have h2 := hc j u hj
  rw [add_plain] at h2
  exact h2
theorem below_size2 {w0 W : World} {o : Obj} (h : Below w0.heap.size w0 W) : w0.heap.size ≤ (W.alloc o).heap.size := by
  have : (W.alloc o).heap.size = W.heap.size + 1 := by simp
  have := h.size
  omega
theorem infoO : (Try.prog.info? 38).map (fun i => (i.zero, i.size, i.bytes)) = some (some (.agg #[(.int .i64 0), (.int .i64 0), (.int .u64 0)]), 3, 24) := by kernel_rfl
theorem zeroO (w : World) : (zeroValue 38).run Try.prog w = .ok (.agg #[.int .i64 0, .int .i64 0, .int .u64 0]) w := by kernel_rfl
theorem zero_cells_one (n : Nat) : ∀ v ∈ (Builtin.zeroCells (Value.agg #[.int .i64 0, .int .i64 0, .int .u64 0]).cells n).toList, v.oneCell' = true := by
  intro v hv
  simp only [Builtin.zeroCells, Value.cells, Array.toList_map, List.mem_map] at hv
  obtain ⟨i, _, rfl⟩ := hv
  have h5 : i % 3 = 0 ∨ i % 3 = 1 ∨ i % 3 = 2 := by omega
  have e5 : (#[Value.int .i64 0, Value.int .i64 0, Value.int .u64 0] : Array Value).size = 3 := rfl
  rw [e5]
  rcases h5 with h | h | h <;> rw [h] <;> rfl
set_option maxHeartbeats 4000000 in
set_option maxRecDepth 100000 in
theorem delete_calls (u : Value) (xs : List S38) (o : Int) (g : Nat) (ok : Nat → Prop) (w0 w : World) (hB : Below w0.heap.size w0 w) (ho : Kd.R k38 38 w w0.heap.size ok u xs) (hg : w.heap[g]? = some (nblk o)) (hne : ∀ k, ok k → k ≠ g) :
    Calls Try.prog 22 #[u, fv g] w fun e w' => ∃ v : Value, e = .returned v ∧ Kd.R k38 38 w' w0.heap.size ok v (xs.filter (keepsO o)) ∧ Below w0.heap.size w0 w' := by
  have HB0 := Aside0.mk hB
  have HG0 := Aside0.mk hg
  have HN0 := Aside0.mk hne
  clear hB hg hne
  obtain ⟨A, c, rfl⟩ := Kd.R_slice ho
  obtain ⟨_, hcap, hC⟩ := Kd.R_reads' ho
  have hm : xs.length ≤ 9223372036854775807 := hC.2.1
  have HC := Aside0.mk hC
  clear hC
  by_cases hf : fstOf o xs < xs.length
  · obtain ⟨gb, cap, e1, hbase, hltb, _⟩ := Kd.R_form ho (by omega)
    injection e1 with e1 _ e2
    subst e1; subst e2
    obtain ⟨i0, hi0⟩ : ∃ i0, fstOf o xs = i0 := ⟨_, rfl⟩
    have hi : i0 < xs.length := by omega
    have HI := Aside0.mk (idxVal_at hi0 hi)
    have HS := Aside0.mk (DelState.start hi0 hi)
    have HR := Aside0.mk ho
    clear ho hf hi0
    have hi1 : ((i0 : Int) == -1) = false := beq_eq_false_iff_ne.mpr (by omega)
    go_enter Try.func22, Try.ntmps22
    go_wp2_with (first
      | (go_at_call 30; refine (index_calls _ _ xs o g _ HC.out hcap HG0.out).mono ?_; rintro e w1 ⟨rfl, hb1⟩; rw [HI.out]; have HB1 := Aside0.mk (below_then HB0.out HB0.out.size hb1); have HR1 := Aside0.mk (Kd.R_below HR.out hb1); have HG1 := Aside0.mk (blk_below HG0.out hb1); clear hb1))
    clear HB0 HR HG0 HC hcap
    go_loopw [5, 6] (fun v5 v6 wr => ∃ (i j : Nat) (ys : List S38), v5 = .int .i64 i ∧ v6 = .int .i64 j ∧ (i < j ∧ j ≤ xs.length) ∧ Aside0 (DelState o xs ys i j) ∧ Aside0 (Kd.R k38 38 wr w0.heap.size ok (.slice (some ⟨gb, 0, none⟩) xs.length c) ys) ∧ Aside0 (Below w0.heap.size w0 wr) ∧ Aside0 (wr.heap[g]? = some (nblk o))) (fun _ v6 _ => xs.length - (intOf v6).toNat)
    case atStart => exact ⟨i0, i0 + 1, xs, rfl, by go_num, ⟨by omega, by omega⟩, HS, HR1, HB1, HG1⟩
    case round =>
      obtain ⟨i, j, ys, rfl, rfl, ⟨hij, hjn⟩, HD, HRr, HBr, HGr⟩ := hrel
      clear HR1 HB1 HG1 HS HI
      by_cases hlt : j < xs.length
      · obtain ⟨h0, h1, h2⟩ := cells_own (row_at HRr.out j hlt)
        obtain ⟨x, hx⟩ : ∃ x, ys.getD j z38 = x := ⟨_, rfl⟩
        rw [hx] at h0 h1 h2
        have HX := Aside0.mk hx
        clear hx
        by_cases hb : (decide (o < x.f2)) = true
        · have HS2 := Aside0.mk (HD.out.drop_ hlt (by rw [HX.out]; exact hb))
          go_wp2_with (first
            | (go_at_call 23; refine (kept1_calls x o g _ (blk_alloc HGr.out _)).mono ?_; rintro e w1 ⟨rfl, hb1⟩; have HB2 := Aside0.mk (below_then (HBr.out.alloc HBr.out.size _) (below_size2 HBr.out) hb1); have HR2 := Aside0.mk (Kd.R_below (Kd.R_alloc HRr.out _) hb1); have HG2 := Aside0.mk (blk_below (blk_alloc HGr.out _) hb1); have hx7 : w1.heap[wr.heap.size]? = some (oblk x) := blk_below (blk_new wr _) hb1; have y0 := (blk_cell hx7 0).trans rfl; have y1 := (blk_cell hx7 1).trans rfl; have y2 := (blk_cell hx7 2).trans rfl; clear hb1 hx7))
          go_roundw
          case rel => exact ⟨i, j + 1, ys, rfl, by go_num, ⟨by omega, by omega⟩, HS2, HR2, HB2, HG2⟩
          case measure => simp [intOf]; omega
        · have hb' : (decide (o < x.f2)) = false := by simpa using hb
          clear hb
          have HS2 := Aside0.mk (HD.out.keep_ hlt (by rw [HX.out]; exact hb'))
          go_wp2_with (first
            | (go_at_call 23; refine (kept1_calls x o g _ (blk_alloc HGr.out _)).mono ?_; rintro e w1 ⟨rfl, hb1⟩; have HB2 := Aside0.mk (below_then (HBr.out.alloc HBr.out.size _) (below_size2 HBr.out) hb1); have HR2 := Aside0.mk (Kd.R_below (Kd.R_alloc HRr.out _) hb1); have HG2 := Aside0.mk (blk_below (blk_alloc HGr.out _) hb1); have hx7 : w1.heap[wr.heap.size]? = some (oblk x) := blk_below (blk_new wr _) hb1; have y0 := (blk_cell hx7 0).trans rfl; have y1 := (blk_cell hx7 1).trans rfl; have y2 := (blk_cell hx7 2).trans rfl; clear hb1 hx7)
            | ((with_reducible refine gate_ (.store 38 (.tmp 33) (.tmp 32)) rfl ?_); refine Kd.R_store k38 (w0 := w0) w0.heap.size rfl rfl 38 (.tmp 33) (.tmp 32) rfl 38 (g := gb) (n := xs.length) (cap := c) (o' := i * 3) (i : Int) 0 ys x (ov x) (oc x) (oc (ys.getD i z38)) ok (fun _ => False) rfl ?ho rfl rfl (by kernel_rfl) ?h1 HR2.out (by omega) (by omega) rfl ?hcc (Nat.le_refl 3) ?hM (fun _ h => h.elim) HB2.out ?_; (case ho => simp; rfl); (case h1 => intro q hq; simp at hq; rcases hq with rfl | rfl | rfl <;> rfl); (case hcc => intro j u hj; exact row_at HR2.out i (by omega) j u hj); (case hM => exact k38_mkM _ _ _ x); intro w2 hR hB hG; have HR3 := Aside0.mk hR; have HB3 := Aside0.mk hB; have HG3 := Aside0.mk (blk_grown HG2.out hG (by intro e; injection e with e; exact HN0.out gb (HR2.out.1 gb rfl) e.symm)); clear hR hB hG))
          go_roundw
          case rel => exact ⟨i + 1, j + 1, ys.set i x, by go_num, by go_num, ⟨by omega, by omega⟩, ⟨by have := HS2.out; rw [HX.out] at this; exact this⟩, (by first | exact HR3 | exact ⟨by simpa using HR3.out⟩), HB3, HG3⟩
          case measure => simp [intOf]; omega
      · have hj : j = xs.length := by omega
        obtain ⟨hq_, hcap, hq2_⟩ := Kd.R_reads' HRr.out
        clear hq_ hq2_
        have hyl := HD.out.2.2.1
        have hcm : c ≤ maxLen := by
          obtain ⟨_, inner, ho, _⟩ := HRr.out
          rcases ho.2 with ⟨h1, _⟩ | ⟨g', cap', cur, h1, _, _, _, h2, _⟩
          · cases h1
          · injection h1 with _ _ h3; omega
        have HT := Aside0.mk (show Kd.R k38 38 wr w0.heap.size ok (.slice (some ⟨gb, 0, none⟩) i c) (xs.filter (keepsO o)) from by rw [← HD.out.done hj]; exact Kd.R_take HRr.out (by omega))
        obtain ⟨zs, hzs⟩ : ∃ zs, (Builtin.zeroCells (Value.agg #[.int .i64 0, .int .i64 0, .int .u64 0]).cells (xs.length - i)).toList = zs := ⟨_, rfl⟩
        have hzl : zs.length = (xs.length - i) * 3 := by rw [← hzs]; simp [Builtin.zeroCells, Value.cells]
        have hz1 : ∀ v ∈ zs, v.oneCell' = true := by
          rw [← hzs]
          exact zero_cells_one _
        obtain ⟨gcur, gh, gsz⟩ : ∃ cur : Array Value, wr.heap[gb]? = some (.cells cur 38 (0, 0)) ∧ cur.size = c * 3 := by
          obtain ⟨_, inner, ho, _⟩ := HRr.out
          rcases ho.2 with ⟨h1, _⟩ | ⟨g', cap', cur, h1, _, h2, _, _, h3, _⟩
          · cases h1
          · injection h1 with h4 _ h5; injection h4 with h4; injection h4 with h4; subst h4; subst h5; exact ⟨cur, h2, h3⟩
        have hrow := R_beyond HT.out zs (by rw [hzl]; show i * 3 + (xs.length - i) * 3 ≤ c * 3; omega)
        have hcut1 : ∀ W : World, (Instr.slice 34 (.slice (some ⟨gb, 0, none⟩) xs.length c) (some (.int .i64 i)) none none).run Try.prog W = .ok (.slice (some ⟨gb, i * 3, none⟩) (xs.length - i) (c - i)) W := by
          intro W
          obtain ⟨i0q, hi0q, _, hszq, _⟩ := info_parts infoO
          have h := cut_from (P := Try.prog) 34 38 .i64 Try.underlying34 hi0q 3 hszq (some ⟨gb, 0, none⟩) xs.length c (i : Int) (by omega) (by omega) W
          rw [if_neg (by rw [Int.toNat_natCast]; omega)] at h
          simp only [Int.toNat_natCast, Option.map_some, add_plain] at h
          exact h
        have hcut2 : ∀ W : World, (Instr.slice 34 (.slice (some ⟨gb, 0, none⟩) xs.length c) none (some (.int .i64 i)) none).run Try.prog W = .ok (.slice (some ⟨gb, 0, none⟩) i c) W := by
          intro W
          obtain ⟨i0q, hi0q, _, hszq, _⟩ := info_parts infoO
          have h := cut_to (P := Try.prog) 34 38 .i64 Try.underlying34 hi0q (some ⟨gb, 0, none⟩) xs.length c (i : Int) (by omega) (by omega) hcap W
          simpa only [Int.toNat_natCast] using h
        have hclear : ∀ ty, (Builtin.clear_ #[34] ty #[.slice (some ⟨gb, i * 3, none⟩) (xs.length - i) (c - i)]).run Try.prog wr = .ok (.tuple #[]) (wr.setCells gb (i * 3) zs) := fun ty =>
          run_clear_any wr 34 38 ty _ Try.underlying34 zeroO gb (i * 3) (xs.length - i) (c - i) (by omega) zs hzs hz1
            (fun j hj => by rw [blk_cell gh, Array.getElem?_eq_getElem (by omega)]; rfl) (fun j _ => blk_frozen gh _)
        have HRow := Aside0.mk hrow.1
        have HGr := Aside0.mk hrow.2
        clear hrow hzs hzl hz1 gh gsz hcm hyl
        go_wp2

        go_ret
        exact ⟨_, rfl, HRow.out, HBr.out.grown HGr.out HBr.out.size (fun k hk => by cases hk; exact Kd.R_base HT.out gb rfl)⟩
  · have hnone : idxVal o xs = -1 := by unfold idxVal; rw [if_neg hf]
    have hfl := fst_none_filter hf
    have HI := Aside0.mk hnone
    have HF := Aside0.mk hfl
    have HR := Aside0.mk ho
    clear hf hnone hfl ho
    go_enter Try.func22, Try.ntmps22
    go_wp2_with (first
      | (go_at_call 30; refine (index_calls _ _ xs o g _ HC.out hcap HG0.out).mono ?_; rintro e w1 ⟨rfl, hb1⟩; rw [HI.out]; have HB1 := Aside0.mk (below_then HB0.out HB0.out.size hb1); have HR1 := Aside0.mk (Kd.R_below HR.out hb1); clear hb1))
    go_ret
    exact ⟨_, rfl, by rw [HF.out]; exact HR1.out, HB1.out⟩
end Go.Proofs.Ytjhgdlgdejcmjaa.L
