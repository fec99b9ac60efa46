/- A lease table in memory, and its methods New, Len, Of, Look, Grant, Drop, walked. By an AI agent of this work. -/
import Derived.Test.YtjhgdlgdejcmjaaLM
import Derived.Below
import Derived.WalkKit
import Derived.OwnWalk
import Derived.KernelRfl
namespace Go.Proofs.Ytjhgdlgdejcmjaa.L
open Go.Shelf Go.RowKit Go.Lib Go.Maps
set_option linter.unusedVariables false
set_option linter.unusedSimpArgs false
set_option linter.unusedSectionVars false

/-! ### What may turn -/
/-- All that lay in w lies in w', but for the blocks of S. -/
structure Fr (S : Nat → Prop) (w w' : World) : Prop where
  os : w'.os = w.os
  tape : w'.tape = w.tape
  output : w'.output = w.output
  size : w.heap.size ≤ w'.heap.size
  block : ∀ i, i < w.heap.size → ¬ S i → w'.heap[i]? = w.heap[i]?
theorem Fr.refl (S : Nat → Prop) (w : World) : Fr S w w := ⟨rfl, rfl, rfl, Nat.le_refl _, fun _ _ _ => rfl⟩
theorem Fr.trans {S : Nat → Prop} {w w1 w2 : World} (h : Fr S w w1) (k : Fr S w1 w2) : Fr S w w2 :=
  ⟨k.os.trans h.os, k.tape.trans h.tape, k.output.trans h.output, Nat.le_trans h.size k.size, fun i hi hs => (k.block i (Nat.lt_of_lt_of_le hi h.size) hs).trans (h.block i hi hs)⟩
theorem Fr.mono {S T : Nat → Prop} {w w1 : World} (h : Fr S w w1) (hs : ∀ i, S i → T i) : Fr T w w1 := ⟨h.os, h.tape, h.output, h.size, fun i hi ht => h.block i hi (fun x => ht (hs i x))⟩
theorem Fr.of_below {S : Nat → Prop} {w w1 : World} (h : Below w.heap.size w w1) : Fr S w w1 := ⟨h.os, h.tape, h.output, h.size, fun i hi _ => h.block i hi⟩
theorem Fr.of_grown {S : Nat → Prop} {w w1 : World} {row : Option Nat} (h : w.grownBy w1 row) (hr : ∀ k, row = some k → S k) : Fr S w w1 :=
  ⟨h.os, h.tape, h.output, h.size, fun i hi hs => h.block i hi (fun e => hs (hr i e.symm))⟩
theorem Fr.below {S : Nat → Prop} {w0 w w1 : World} (h : Fr S w w1) (hb : Below w0.heap.size w0 w) (hS : ∀ i, S i → w0.heap.size ≤ i) : Below w0.heap.size w0 w1 :=
  hb.trans ⟨h.os, h.tape, h.output, h.size, fun i hi => h.block i (Nat.lt_of_lt_of_le hi hb.size) (fun s => absurd (hS i s) (by omega))⟩
theorem Fr.grownBy {w w1 : World} (h : Fr (fun _ => False) w w1) : w.grownBy w1 none := ⟨h.os, h.tape, h.output, h.size, fun i hi _ => h.block i hi id⟩
theorem Fr.drew {S : Nat → Prop} {w w1 : World} (h : Fr S w w1) : Fr S w w1.drew := ⟨h.os, h.tape, h.output, h.size, h.block⟩
theorem Fr.alloc {S : Nat → Prop} {w w1 : World} (h : Fr S w w1) (o : Obj) : Fr S w (w1.alloc o) := h.trans (Fr.of_grown (World.grownBy_alloc w1 o none) (fun _ e => by cases e))

/-! ### The table -/
theorem law3 : Keyed Try.prog 3 := int_keyed Try.underlying3
theorem zeroG (w : World) : (zeroValue 38).run Try.prog w = .ok (.agg #[.int .i64 0, .int .i64 0, .int .u64 0]) w := by kernel_rfl
theorem zeroI (w : World) : (zeroValue 3).run Try.prog w = .ok (.int .i64 0) w := by kernel_rfl
structure TB (w : World) (b ba bo : Nat) (n : Int) (L : List Gr) : Prop where
  blk : w.heap[b]? = some (.cells #[.int .i64 n, .map (some ba), .map (some bo)] 58 (0, 0))
  m1 : ∃ (D : DataW Unit) (m : Nat), w.ownsMap Try.prog 3 RG ba m D ∧ Es true D L ∧ (m : Int) ≤ n
  m2 : ∃ (D : DataW Unit) (m : Nat), w.ownsMap Try.prog 3 (plainElem Try.prog 3) bo m D ∧ Es false D L ∧ (m : Int) ≤ n
  ne : b ≠ ba ∧ b ≠ bo ∧ ba ≠ bo
  ord : L.Pairwise fun x y => x.n < y.n
  rng : ∀ x ∈ L, 1 ≤ x.n ∧ x.n ≤ n
  wf : ∀ x ∈ L, wfG x
  job : ∀ x ∈ L, ∀ y ∈ L, x.j = y.j → x = y
  top : 0 ≤ n ∧ n ≤ 1000000
theorem ord_inj {L : List Gr} (h : L.Pairwise fun x y => x.n < y.n) : ∀ x ∈ L, ∀ y ∈ L, x.n = y.n → x = y := by
  induction L with
  | nil => intro x hx; cases hx
  | cons a L ih =>
    rw [List.pairwise_cons] at h
    intro x hx y hy e
    rcases List.mem_cons.1 hx with hx1 | hx1
    · rcases List.mem_cons.1 hy with hy1 | hy1
      · rw [hx1, hy1]
      · have := h.1 y hy1; subst hx1; omega
    · rcases List.mem_cons.1 hy with hy1 | hy1
      · have := h.1 x hx1; subst hy1; omega
      · exact ih h.2 x hx1 y hy1 e
theorem TB.num {w : World} {b ba bo : Nat} {n : Int} {L : List Gr} (h : TB w b ba bo n L) : ∀ x ∈ L, ∀ y ∈ L, x.n = y.n → x = y := ord_inj h.ord
theorem TB.lt {w : World} {b ba bo : Nat} {n : Int} {L : List Gr} (h : TB w b ba bo n L) : b < w.heap.size ∧ ba < w.heap.size ∧ bo < w.heap.size := by
  obtain ⟨D1, m1, o1, _⟩ := h.m1
  obtain ⟨D2, m2, o2, _⟩ := h.m2
  exact ⟨(Array.getElem?_eq_some_iff.1 h.blk).1, o1.lt, o2.lt⟩
/-- What leaves the three blocks alone keeps the table. -/
theorem TB.kept {S : Nat → Prop} {w w1 : World} {b ba bo : Nat} {n : Int} {L : List Gr} (h : TB w b ba bo n L) (f : Fr S w w1) (h1 : ¬ S b) (h2 : ¬ S ba) (h3 : ¬ S bo) : TB w1 b ba bo n L := by
  obtain ⟨l1, l2, l3⟩ := h.lt
  obtain ⟨D1, m1, o1, r1⟩ := h.m1
  obtain ⟨D2, m2, o2, r2⟩ := h.m2
  refine ⟨(f.block b l1 h1).trans h.blk, ⟨D1, m1, ?_, r1⟩, ⟨D2, m2, ?_, r2⟩, h.ne, h.ord, h.rng, h.wf, h.job, h.top⟩
  · obtain ⟨es, c, hb, r⟩ := o1
    exact ⟨es, c, (f.block ba l2 h2).trans hb, r⟩
  · obtain ⟨es, c, hb, r⟩ := o2
    exact ⟨es, c, (f.block bo l3 h3).trans hb, r⟩
theorem TB.cells {w : World} {b ba bo : Nat} {n : Int} {L : List Gr} (h : TB w b ba bo n L) : w.cell? ⟨b, 0, none⟩ = some (.int .i64 n) ∧ w.cell? ⟨b, 1, none⟩ = some (.map (some ba)) ∧ w.cell? ⟨b, 2, none⟩ = some (.map (some bo)) ∧ w.frozen? ⟨b, 0, none⟩ = false := by
  have hb := h.blk
  simp [World.cell?, World.frozen?, hb]

theorem heap_new (w : World) (o : Obj) : (w.alloc o).heap[w.heap.size]? = some o := by
  show (w.heap.push o)[w.heap.size]? = some o
  simp

/-! ### New, Len, Of, Look -/
theorem new_calls (w : World) : Calls Try.prog 6 #[] w fun e w' => e = .returned (.pointer (some ⟨w.heap.size + 2, 0, none⟩)) ∧ TB w' (w.heap.size + 2) w.heap.size (w.heap.size + 1) 0 [] ∧ Below w.heap.size w w' := by
  have hmm := @run_makeMap Try.prog
  have hu := Try.underlying58
  go_enter Try.func6, Try.ntmps6
  go_wp2
  go_ret
  have h1 : ((w.alloc (.map #[] 0)).alloc (.map #[] 0)).heap.size = w.heap.size + 2 := by simp
  refine ⟨by simp, ⟨?_, ⟨_, 0, ?_, Es.nil true, Int.le_refl _⟩, ⟨_, 0, ?_, Es.nil false, Int.le_refl _⟩, by omega, List.Pairwise.nil, fun x h => (List.not_mem_nil h).elim, fun x h => (List.not_mem_nil h).elim, fun x h => (List.not_mem_nil h).elim, by omega⟩, ?_⟩
  · rw [← h1]; exact heap_new _ _
  · exact ((World.ownsMap_made w Try.prog 3 RG).alloc _).alloc _
  · have := World.ownsMap_made (H := Unit) (w.alloc (.map #[] 0)) Try.prog 3 (plainElem Try.prog 3)
    exact World.ownsMap.alloc (by simpa using this) _
  · exact (((Below.refl _ _).alloc (Nat.le_refl _) _).alloc (by simp) _).alloc (by simp; omega) _

theorem len_calls (w : World) {b ba bo : Nat} {n : Int} {L : List Gr} (T : TB w b ba bo n L) : Calls Try.prog 13 #[.pointer (some ⟨b, 0, none⟩)] w fun e w' => e = .returned (.int .i64 (L.length : Nat)) ∧ w' = w := by
  obtain ⟨c0, c1, c2, f0⟩ := T.cells
  obtain ⟨D, m, hown, hes, _⟩ := T.m1
  have hsz := hes.size
  have hu := Try.underlying58
  go_enter Try.func13, Try.ntmps13
  go_wp2_with (first | (at_len; refine wpList_len_own _ rfl _ 55 rfl 3 38 Try.underlying55 RG ba m D rfl hown ?_) | go_in)
  go_ret
  exact ⟨rfl, rfl⟩
/-- The lease of a job. -/
def ofL (L : List Gr) (j : Int) : Int × Bool := match L.find? (fun g => decide (g.j = j)) with | some g => (g.n, true) | none => (0, false)
def lookL (L : List Gr) (k : Int) : Gr × Bool := match L.find? (fun g => decide (g.n = k)) with | some g => (g, true) | none => (⟨0, 0, 0⟩, false)
theorem of_at {D : DataW Unit} {L : List Gr} (h : Es false D L) (hu : ∀ x ∈ L, ∀ y ∈ L, x.j = y.j → x = y) (j : Int) : D.atKey (.int .i64 j) (.lit (.int .i64 0)) = .lit (.int .i64 (ofL L j).1) ∧ Maps.has D (.int .i64 j) = (ofL L j).2 := by
  have h1 := h.has j
  unfold ofL
  cases hf : L.find? (fun g => decide (g.j = j)) with
  | none =>
    have h2 : (L.any fun g => decide (ky false g = j)) = false := by
      rw [List.any_eq_false]; intro x hx; have := List.find?_eq_none.1 hf x hx; simpa [ky] using this
    rw [h2] at h1
    exact ⟨atKey_of_not_has h1 _, h1⟩
  | some g =>
    have hm := List.mem_of_find?_eq_some hf
    have hj : g.j = j := by simpa using List.find?_some hf
    have h2 : (L.any fun g => decide (ky false g = j)) = true := List.any_eq_true.2 ⟨g, hm, by simpa [ky] using hj⟩
    rw [h2] at h1
    refine ⟨?_, h1⟩
    have := h.at (fun x hx y hy e => hu x hx y hy e) hm (.lit (.int .i64 0))
    simp only [ky, En] at this
    rw [hj] at this
    exact this
theorem look_at {D : DataW Unit} {L : List Gr} (h : Es true D L) (hu : ∀ x ∈ L, ∀ y ∈ L, x.n = y.n → x = y) (k : Int) : D.atKey (.int .i64 k) (dat ⟨0, 0, 0⟩) = dat (lookL L k).1 ∧ Maps.has D (.int .i64 k) = (lookL L k).2 := by
  have h1 := h.has k
  unfold lookL
  cases hf : L.find? (fun g => decide (g.n = k)) with
  | none =>
    have h2 : (L.any fun g => decide (ky true g = k)) = false := by
      rw [List.any_eq_false]; intro x hx; have := List.find?_eq_none.1 hf x hx; simpa [ky] using this
    rw [h2] at h1
    exact ⟨atKey_of_not_has h1 _, h1⟩
  | some g =>
    have hm := List.mem_of_find?_eq_some hf
    have hj : g.n = k := by simpa using List.find?_some hf
    have h2 : (L.any fun g => decide (ky true g = k)) = true := List.any_eq_true.2 ⟨g, hm, by simpa [ky] using hj⟩
    rw [h2] at h1
    refine ⟨?_, h1⟩
    have := h.at (fun x hx y hy e => hu x hx y hy e) hm (dat ⟨0, 0, 0⟩)
    simp only [ky, En] at this
    rw [hj] at this
    exact this
theorem of_calls (w : World) {b ba bo : Nat} {n : Int} {L : List Gr} (T : TB w b ba bo n L) (j : Int) (hj : (Lit.int .i64 j).wf = true) :
    Calls Try.prog 19 #[.pointer (some ⟨b, 0, none⟩), .int .i64 j] w fun e w' => e = .returned (.tuple #[.int .i64 (ofL L j).1, .bool (ofL L j).2]) ∧ w' = w := by
  obtain ⟨c0, c1, c2, f0⟩ := T.cells
  obtain ⟨D, m, hown, hes, _⟩ := T.m2
  obtain ⟨ha, hh⟩ := of_at hes T.job j
  have HA : Aside _ := ha
  have HH : Aside _ := hh
  clear ha hh
  have hu := Try.underlying58
  go_enter Try.func19, Try.ntmps19
  go_wp2_with (first | (at_lookup; refine wpList_lookup_own_ok_int _ rfl _ _ 56 rfl 3 3 .i64 law3 Try.underlying56 Try.underlying3 (zeroI _) bo m D rfl hown _ _ rfl (keyOf_int_mk Try.underlying3 hj) ?_; intro c hat hwc; rw [HA.out] at hat; injection hat with hat; injection hat with _ hat; subst hat; rw [HH.out]) | go_in)
  go_ret2
  exact ⟨rfl, rfl⟩
set_option maxHeartbeats 1000000 in
theorem look_calls (w : World) {b ba bo : Nat} {n : Int} {L : List Gr} (T : TB w b ba bo n L) (k : Int) (hk : (Lit.int .i64 k).wf = true) :
    Calls Try.prog 12 #[.pointer (some ⟨b, 0, none⟩), .int .i64 k] w fun e w' => e = .returned (.tuple #[.agg #[.int .i64 (lookL L k).1.n, .int .i64 (lookL L k).1.j, .int .u64 (lookL L k).1.u], .bool (lookL L k).2]) ∧ Below w.heap.size w w' := by
  obtain ⟨c0, c1, c2, f0⟩ := T.cells
  obtain ⟨D, m, hown, hes, _⟩ := T.m1
  obtain ⟨ha, hh⟩ := look_at hes T.num k
  have HA : Aside _ := ha
  have HH : Aside _ := hh
  have hlt := T.lt.1
  clear ha hh
  have hu := Try.underlying58
  have hu2 := Try.underlying38
  go_enter Try.func12, Try.ntmps12
  go_wp2_with (first | (at_lookup; refine wpList_lookup_own_ok _ rfl _ _ 55 rfl 3 38 law3 Try.underlying55 RG (zeroG _) (dat ⟨0, 0, 0⟩) [] rfl ba m D rfl (hown.alloc _) _ _ rfl (keyOf_int_mk Try.underlying3 hk) ?_; intro v ps hv; rw [HA.out] at hv; obtain rfl := RG_inv hv; rw [HH.out]) | go_in)
  exact bodyPost_ret (v := .tuple #[.agg #[.int .i64 (lookL L k).1.n, .int .i64 (lookL L k).1.j, .int .u64 (lookL L k).1.u], .bool (lookL L k).2]) (by simp [results, Try.results12, hu2, go_sem]) rfl ⟨rfl, ((Below.refl _ _).alloc (Nat.le_refl _) _).alloc (by simp) _⟩
end Go.Proofs.Ytjhgdlgdejcmjaa.L
