/- A lease table's Grant and Drop, walked. By an AI agent of this work. -/
import Derived.Test.YtjhgdlgdejcmjaaLT
import Derived.StillTailTactics
namespace Go.Proofs.Ytjhgdlgdejcmjaa.L
open Go.Shelf Go.RowKit Go.Lib Go.Maps
set_option linter.unusedVariables false
set_option linter.unusedSimpArgs false
set_option linter.unusedSectionVars false
theorem blk_cells {w : World} {b ba bo : Nat} {n : Int} (hb : w.heap[b]? = some (.cells #[.int .i64 n, .map (some ba), .map (some bo)] 58 (0, 0))) : w.cell? ⟨b, 0, none⟩ = some (.int .i64 n) ∧ w.cell? ⟨b, 1, none⟩ = some (.map (some ba)) ∧ w.cell? ⟨b, 2, none⟩ = some (.map (some bo)) ∧ w.frozen? ⟨b, 0, none⟩ = false := by
  simp [World.cell?, World.frozen?, hb]
theorem blk_set0 {w : World} {b ba bo : Nat} {n : Int} (hb : w.heap[b]? = some (.cells #[.int .i64 n, .map (some ba), .map (some bo)] 58 (0, 0))) (v : Int) :
    (w.setCell ⟨b, 0, none⟩ (.int .i64 v)).heap[b]? = some (.cells #[.int .i64 v, .map (some ba), .map (some bo)] 58 (0, 0)) := by
  simp [World.setCell, Array.getElem?_modify, hb]
theorem Fr.setCell {S : Nat → Prop} {w w1 : World} (h : Fr S w w1) {a : Addr} (ha : S a.block) (v : Value) : Fr S w (w1.setCell a v) :=
  h.trans ⟨rfl, rfl, rfl, by simp [World.setCell], fun i _ hs => Below.heap_setCell w1 a v i (fun e => hs (by rw [e]; exact ha))⟩
set_option maxHeartbeats 2000000 in
theorem grant_twice (w : World) {b ba bo : Nat} {n : Int} {L : List Gr} (T : TB w b ba bo n L) (j u : Int) (hj : (Lit.int .i64 j).wf = true) (h : (ofL L j).2 = true) :
    Calls Try.prog 7 #[.pointer (some ⟨b, 0, none⟩), .int .i64 j, .int .u64 u] w fun e w' => e = .returned (.tuple #[.int .i64 0, .int .i64 8]) ∧ w' = w := by
  obtain ⟨c0, c1, c2, f0⟩ := T.cells
  obtain ⟨D, m, hown, hes, _⟩ := T.m2
  obtain ⟨ha, hh⟩ := of_at hes T.job j
  rw [h] at hh
  have HA : Aside _ := ha
  have HH : Aside _ := hh
  clear ha hh h
  have hu := Try.underlying58
  go_enter Try.func7, Try.ntmps7
  go_wp2_with (first | (at_lookup; refine wpList_lookup_own_ok_int _ rfl _ _ 56 rfl 3 3 .i64 law3 Try.underlying56 Try.underlying3 (zeroI _) bo m D rfl hown _ _ rfl (keyOf_int_mk Try.underlying3 hj) ?_; intro c hat hwc; rw [HH.out]; clear hat hwc) | go_in)
  go_ret2
  exact ⟨rfl, rfl⟩
set_option maxHeartbeats 4000000 in
set_option maxRecDepth 100000 in
theorem grant_new (w : World) {b ba bo : Nat} {n : Int} {L : List Gr} (T : TB w b ba bo n L) (j u : Int) (hj : (Lit.int .i64 j).wf = true) (hu64 : (Lit.int .u64 u).wf = true) (h : (ofL L j).2 = false) (hn : n < 1000000) :
    Calls Try.prog 7 #[.pointer (some ⟨b, 0, none⟩), .int .i64 j, .int .u64 u] w fun e w' => e = .returned (.tuple #[.int .i64 (n + 1), .int .i64 0]) ∧ TB w' b ba bo (n + 1) (L ++ [⟨n + 1, j, u⟩]) ∧ Fr (fun k => k = b ∨ k = ba ∨ k = bo) w w' := by
  obtain ⟨c0, c1, c2, f0⟩ := T.cells
  obtain ⟨D2, m2, hown2, hes2, hm2⟩ := T.m2
  obtain ⟨D1, m1, hown1, hes1, hm1⟩ := T.m1
  obtain ⟨ha, hh⟩ := of_at hes2 T.job j
  rw [h] at hh
  obtain ⟨n0, n1⟩ := T.top
  have wfn : (Lit.int .i64 (n + 1)).wf = true := WalkArith.wf_i64 (by omega)
  have HH : Aside _ := hh
  have HA : Aside _ := ha
  have HN : Aside ((ofL L j).2 = false) := h
  clear ha hh h
  have hu := Try.underlying58
  go_enter Try.func7, Try.ntmps7
  go_wp2_with (first | (at_lookup; refine wpList_lookup_own_ok_int _ rfl _ _ 56 rfl 3 3 .i64 law3 Try.underlying56 Try.underlying3 (zeroI _) bo m2 D2 rfl hown2 _ _ rfl (keyOf_int_mk Try.underlying3 hj) ?_; intro c hat hwc; rw [HH.out]; clear hat hwc) | go_in)
  obtain ⟨w1, hw1⟩ : ∃ x, x = w.setCell ⟨b, 0, none⟩ (.int .i64 (n + 1)) := ⟨_, rfl⟩
  rw [← hw1]
  have hb1 : w1.heap[b]? = some (.cells #[.int .i64 (n + 1), .map (some ba), .map (some bo)] 58 (0, 0)) := by rw [hw1]; exact blk_set0 T.blk _
  have o1 : w1.ownsMap Try.prog 3 RG ba m1 D1 := by rw [hw1]; exact hown1.setCell T.ne.1.symm _
  have o2 : w1.ownsMap Try.prog 3 (plainElem Try.prog 3) bo m2 D2 := by rw [hw1]; exact hown2.setCell T.ne.2.1.symm _
  have F1 : Fr (fun k => k = b ∨ k = ba ∨ k = bo) w w1 := by rw [hw1]; exact Fr.setCell (Fr.refl _ _) (.inl rfl) _
  clear hw1 c0 c1 c2 f0 hown1 hown2
  obtain ⟨c0, c1, c2, f0⟩ := blk_cells hb1
  have b0 : b < w1.heap.size := (Array.getElem?_eq_some_iff.1 hb1).1
  have N1 : Aside (b ≠ ba ∧ b ≠ bo ∧ ba ≠ bo) := T.ne
  go_still_tail 15, (by kernel_rfl)
  change wpList _ _ _ _ _ w1.drew
  refine wpList_mapUpdate_own _ rfl _ _ _ 55 rfl 3 38 law3 Try.underlying55 RG ba m1 D1 rfl o1.drew (by unfold maxLen; omega) _ _ _ rfl rfl (keyOf_int_mk Try.underlying3 wfn) (dat ⟨n + 1, j, u⟩) [] rfl ?_
  intro w2 p1 hg1
  have F2 : Fr (fun k => k = b ∨ k = ba ∨ k = bo) w w2 := F1.drew.trans (Fr.of_grown hg1 (fun k e => by injection e with e; exact .inr (.inl e.symm)))
  have hb2 : w2.heap[b]? = some (.cells #[.int .i64 (n + 1), .map (some ba), .map (some bo)] 58 (0, 0)) := (hg1.block b b0 (fun e => N1.out.1 (by injection e))).trans hb1
  have p2 : w2.ownsMap Try.prog 3 (plainElem Try.prog 3) bo m2 D2 := o2.drew.kept hg1 (fun e => N1.out.2.2 (by injection e with e; exact e.symm))
  clear o1 o2 F1 hb1 c0 c1 c2 f0 hg1
  obtain ⟨c0, c1, c2, f0⟩ := blk_cells hb2
  have b0 : b < w2.heap.size := (Array.getElem?_eq_some_iff.1 hb2).1
  go_wp2_with fail
  go_still_tail 9, (by kernel_rfl)
  change wpList _ _ _ _ _ w2.drew
  refine wpList_mapUpdate_own _ rfl _ _ _ 56 rfl 3 3 law3 Try.underlying56 (plainElem Try.prog 3) bo m2 D2 rfl p2.drew (by unfold maxLen; omega) _ _ _ rfl rfl (keyOf_int_mk Try.underlying3 hj) (.lit (.int .i64 (n + 1))) [] (plainElem_int Try.underlying3 wfn) ?_
  intro w3 q2 hg2
  have F3 : Fr (fun k => k = b ∨ k = ba ∨ k = bo) w w3 := F2.drew.trans (Fr.of_grown hg2 (fun k e => by injection e with e; exact .inr (.inr e.symm)))
  have hb3 : w3.heap[b]? = some (.cells #[.int .i64 (n + 1), .map (some ba), .map (some bo)] 58 (0, 0)) := (hg2.block b b0 (fun e => N1.out.2.1 (by injection e))).trans hb2
  have q1 : w3.ownsMap Try.prog 3 RG ba (m1 + 1) (D1.put (.int .i64 (n + 1)) (dat ⟨n + 1, j, u⟩)) := p1.drew.kept hg2 (fun e => N1.out.2.2 (by injection e))
  clear p1 p2 F2 hb2 c0 c1 c2 f0 hg2
  obtain ⟨c0, c1, c2, f0⟩ := blk_cells hb3
  go_wp2_with fail
  go_ret2
  have hnj : ∀ x ∈ L, x.j ≠ j := fun x hx e => by
    have := HN.out
    unfold ofL at this
    cases hf : L.find? (fun g => decide (g.j = j)) with
    | none => have := List.find?_eq_none.1 hf x hx; simp [e] at this
    | some y => rw [hf] at this; cases this
  have hnn : ∀ x ∈ L, x.n < n + 1 := fun x hx => by have := (T.rng x hx).2; omega
  refine ⟨rfl, ⟨hb3, ⟨_, _, q1, hes1.put ⟨n + 1, j, u⟩ (fun x hx e => by have := hnn x hx; simp only [ky, if_true] at e; omega), by omega⟩, ⟨_, _, q2, hes2.put ⟨n + 1, j, u⟩ (fun x hx e => hnj x hx (by simpa [ky] using e)), by omega⟩, T.ne, ?_, ?_, ?_, ?_, by omega⟩, F3⟩
  · rw [List.pairwise_append]
    exact ⟨T.ord, List.pairwise_singleton _ _, fun x hx y hy => by rw [List.mem_singleton] at hy; subst hy; exact hnn x hx⟩
  · intro x hx
    rcases List.mem_append.1 hx with hx | hx
    · have := T.rng x hx; omega
    · rw [List.mem_singleton] at hx; subst hx; exact ⟨by show 1 ≤ n + 1; omega, Int.le_refl _⟩
  · intro x hx
    rcases List.mem_append.1 hx with hx | hx
    · exact T.wf x hx
    · rw [List.mem_singleton] at hx; subst hx; exact ⟨wfn, hj, hu64⟩
  · intro x hx y hy e
    rcases List.mem_append.1 hx with hx | hx <;> rcases List.mem_append.1 hy with hy | hy
    · exact T.job x hx y hy e
    · rw [List.mem_singleton] at hy; subst hy; exact absurd e (hnj x hx)
    · rw [List.mem_singleton] at hx; subst hx; exact absurd e.symm (hnj y hy)
    · rw [List.mem_singleton] at hx hy; rw [hx, hy]

def dropL (L : List Gr) (k : Int) : List Gr := L.filter fun g => !decide (g.n = k)
set_option maxHeartbeats 4000000 in
set_option maxRecDepth 100000 in
theorem drop_none (w : World) {b ba bo : Nat} {n : Int} {L : List Gr} (T : TB w b ba bo n L) (k : Int) (hk : (Lit.int .i64 k).wf = true) (h : (lookL L k).2 = false) :
    Calls Try.prog 8 #[.pointer (some ⟨b, 0, none⟩), .int .i64 k] w fun e w' => e = .returned (.tuple #[.int .i64 0, .bool false]) ∧ Below w.heap.size w w' := by
  obtain ⟨c0, c1, c2, f0⟩ := T.cells
  have hc := look_calls w T k hk
  rw [h] at hc
  have hlt := T.lt.1
  have hu := Try.underlying58
  have hu2 := Try.underlying38
  go_enter Try.func8, Try.ntmps8
  go_wp2_with (first | (go_at_call 12; refine hc.mono ?_; rintro e w' ⟨rfl, hb⟩))
  go_ret2
  exact ⟨rfl, hb.trans ((Below.refl _ _).alloc hb.size _)⟩
set_option maxHeartbeats 4000000 in
set_option maxRecDepth 100000 in
theorem drop_some (w : World) {b ba bo : Nat} {n : Int} {L : List Gr} (T : TB w b ba bo n L) (k : Int) (hk : (Lit.int .i64 k).wf = true) (g : Gr) (hg : lookL L k = (g, true)) :
    Calls Try.prog 8 #[.pointer (some ⟨b, 0, none⟩), .int .i64 k] w fun e w' => e = .returned (.tuple #[.int .i64 g.j, .bool true]) ∧ TB w' b ba bo n (dropL L k) ∧ Fr (fun k => k = b ∨ k = ba ∨ k = bo) w w' := by
  have hc := look_calls w T k hk
  rw [hg] at hc
  have hlt := T.lt.1
  have hu := Try.underlying58
  have hu2 := Try.underlying38
  go_enter Try.func8, Try.ntmps8
  obtain ⟨hgm, hgk⟩ : g ∈ L ∧ g.n = k := by
    unfold lookL at hg
    cases hf : L.find? (fun x => decide (x.n = k)) with
    | none => rw [hf] at hg; simp at hg
    | some y =>
      rw [hf] at hg
      simp only [Prod.mk.injEq, and_true] at hg
      subst hg
      exact ⟨List.mem_of_find?_eq_some hf, by simpa using List.find?_some hf⟩
  have hwj := (T.wf g hgm).2.1
  have HG : Aside (g.n = k) := hgk
  have N1 : Aside (b ≠ ba ∧ b ≠ bo ∧ ba ≠ bo) := T.ne
  clear hgk
  go_wp2_with (first
    | (go_at_call 12; refine hc.mono ?_; rintro e w1 ⟨rfl, hb⟩; clear hc; have T1 := T.kept (Fr.of_below (S := fun _ => False) hb) id id id; obtain ⟨c0, c1, c2, f0⟩ := T1.cells; have hlt1 := T1.lt.1; obtain ⟨D1, m1, o1, hes1, hm1⟩ := T1.m1; obtain ⟨D2, m2, o2, hes2, hm2⟩ := T1.m2)
    | (at_delete; refine wpList_delete_own _ rfl _ _ 55 3 rfl 38 law3 Try.underlying55 RG ba m1 D1 rfl (o1.alloc _) _ _ rfl (keyOf_int_mk Try.underlying3 hk) ?_; intro w3 p1 ht))
  have hgr := ht.grown
  have z1 : ba < w1.heap.size := o1.lt
  have hs1 : (w1.alloc (.cells #[.int .i64 g.n, .int .i64 g.j, .int .u64 g.u] 38)).heap.size = w1.heap.size + 1 := by simp
  have hb3 : w3.heap[b]? = some (.cells #[.int .i64 n, .map (some ba), .map (some bo)] 58 (0, 0)) := (hgr.block b (by omega) (fun e => N1.out.1 (by injection e))).trans ((Below.heap_alloc _ _ b hlt1).trans T1.blk)
  have hn3 : w3.heap[w1.heap.size]? = some (.cells #[.int .i64 g.n, .int .i64 g.j, .int .u64 g.u] 38 (0, 0)) := (hgr.block w1.heap.size (by omega) (fun e => by injection e with e; omega)).trans (heap_new _ _)
  have p2 : w3.ownsMap Try.prog 3 (plainElem Try.prog 3) bo m2 D2 := (o2.alloc _).kept hgr (fun e => N1.out.2.2 (by injection e with e; exact e.symm))
  have F3 : Fr (fun k => k = b ∨ k = ba ∨ k = bo) w w3 := ((Fr.of_below hb).alloc _).trans (Fr.of_grown hgr (fun k e => by injection e with e; exact .inr (.inl e.symm)))
  have b3 : b < w3.heap.size := (Array.getElem?_eq_some_iff.1 hb3).1
  obtain ⟨gg, hgg⟩ : ∃ x, x = w1.heap.size := ⟨_, rfl⟩
  have zb : b ≠ bo ∧ gg ≠ bo ∧ bo < w3.heap.size ∧ gg < w3.heap.size := ⟨N1.out.2.1, by have := o2.lt; omega, p2.lt, by rw [hgg]; exact (Array.getElem?_eq_some_iff.1 hn3).1⟩
  have ZB : Aside _ := zb
  rw [← hgg] at hn3 ⊢
  clear zb hgg hs1 hgr ht z1 o1 o2 c0 c1 c2 f0 hb hlt1 T1
  obtain ⟨c0, c1, c2, f0⟩ := blk_cells hb3
  have cj : w3.cell? ⟨gg, 1, none⟩ = some (.int .i64 g.j) := by simp [World.cell?, hn3]
  go_still_tail 6, (by kernel_rfl)
  change wpList _ _ _ _ _ w3.drew
  refine wpList_delete_own _ rfl _ _ 56 3 rfl 3 law3 Try.underlying56 (plainElem Try.prog 3) bo m2 D2 rfl p2.drew _ _ rfl (keyOf_int_mk Try.underlying3 hwj) ?_
  intro w4 q2 ht4
  have hgr := ht4.grown
  have hb4 : w4.heap[b]? = some (.cells #[.int .i64 n, .map (some ba), .map (some bo)] 58 (0, 0)) := (hgr.block b b3 (fun e => N1.out.2.1 (by injection e))).trans hb3
  have hn4 : w4.heap[gg]? = some (.cells #[.int .i64 g.n, .int .i64 g.j, .int .u64 g.u] 38 (0, 0)) := (hgr.block gg ZB.out.2.2.2 (fun e => ZB.out.2.1 (by injection e))).trans hn3
  have q1 : w4.ownsMap Try.prog 3 RG ba m1 (D1.del (.int .i64 k)) := p1.drew.kept hgr (fun e => N1.out.2.2 (by injection e))
  have F4 : Fr (fun k => k = b ∨ k = ba ∨ k = bo) w w4 := F3.drew.trans (Fr.of_grown hgr (fun k e => by injection e with e; exact .inr (.inr e.symm)))
  clear hgr ht4 p1 p2 hb3 hn3 c0 c1 c2 f0 cj F3
  have cj : w4.cell? ⟨gg, 1, none⟩ = some (.int .i64 g.j) := by simp [World.cell?, hn4]
  go_wp2_with fail
  go_ret2
  have hfe : (L.filter fun x => !decide (ky false x = g.j)) = dropL L k := List.filter_congr fun x hx => by
    have hi : x.j = g.j ↔ x.n = k := ⟨fun e => by rw [T.job x hx g hgm e]; exact HG.out, fun e => by rw [T.num x hx g hgm (e.trans HG.out.symm)]⟩
    show (!decide (x.j = g.j)) = (!decide (x.n = k))
    rw [decide_eq_decide.2 hi]
  have hsub : ∀ x, x ∈ dropL L k → x ∈ L := fun x hx => (List.mem_filter.1 hx).1
  refine ⟨rfl, ⟨hb4, ⟨_, _, q1, hes1.del k, hm1⟩, ⟨_, _, q2, by have := hes2.del g.j; rwa [hfe] at this, hm2⟩, T.ne, T.ord.filter _, fun x hx => T.rng x (hsub x hx), fun x hx => T.wf x (hsub x hx), fun x hx y hy e => T.job x (hsub x hx) y (hsub y hy) e, T.top⟩, F4⟩
end Go.Proofs.Ytjhgdlgdejcmjaa.L
