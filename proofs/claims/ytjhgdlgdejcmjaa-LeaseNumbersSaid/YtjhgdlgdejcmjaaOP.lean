/- The rows' arguments, opened out of what the row gives; a world for the witness. By an AI agent of this work. -/
import Derived.Test.YtjhgdlgdejcmjaaLS
import Derived.Test.YtjhgdlgdejcmjaaRows
import Derived.WalkKit
import Derived.ProofKit
import Derived.OpenShut
import Derived.Below
import Derived.SizedLaws
import Derived.Deep.Slices
import Derived.Deep.DeepHandedRow
import Derived.Deep.DeepWitnessRowRef
namespace Go.Proofs.Ytjhgdlgdejcmjaa.L
open Go.RowKit Go.ChangeShapes Go.WideShapes Go.Deep Go.Proofs.Ytjhgdlgdejcmjaa.Q Go.Proofs.YtjhgdlgdejcmjaaW.PrintWords Go.Proofs.YtjhgdlgdejcmjaaW.PrintLast Go.Proofs.YtjhgdlgdejcmjaaW.PrintMore
set_option linter.unusedVariables false
set_option linter.unusedSectionVars false
set_option linter.unusedSimpArgs false
set_option maxRecDepth 100000
theorem own : ownKnob Try.prog.godebug = none := by kernel_rfl
theorem laidOut : laidOutB Try.prog = true := by kernel_rfl
section
variable {H : Type} {enc : TypeId × Value → H} {w : World} {base : Nat} {spare : Nat → Bool} {held : Bool}
theorem rows_open {α : Type} (d : Kd α) (q : α → Prop) (z : α) {t e : TypeId} (ht : Try.prog.underlying t = some (.slice e)) (hsz : Try.prog.cellsOf e = d.sz)
    (hel : ∀ n cs x, DataW.trod enc Try.prog w base spare held n e cs = some x → ∃ y, d.K w y cs ∧ q y) {fuel : Nat} {cs : List Value} {x : DataW H × List MemPlace} (h : DataW.trod enc Try.prog w base spare held fuel t cs = some x) :
    ∃ (A : Option Addr) (cap : Nat) (xs : List α), cs = [.slice A xs.length cap] ∧ xs.length ≤ cap ∧ Kd.C d w A xs.length xs ∧ ∀ x ∈ xs, q x := by
  rcases open_slice ht h with ⟨rfl, rfl⟩ | ⟨a, len, cap, m, n, D, Pl, rfl, hb, hl, hm, hmm, rfl, hx⟩
  · exact ⟨none, 0, [], rfl, Nat.le_refl _, ⟨rfl, Nat.zero_le _, fun h => absurd h (by simp)⟩, fun x hx => absurd hx List.not_mem_nil⟩
  · have hlm : len ≤ m := by rw [hmm]; split <;> omega
    letI : Inhabited α := ⟨z⟩
    obtain ⟨f, hf⟩ := choose_lt (α := α) (p := fun i y => (∃ c, c.length = d.sz ∧ d.K w y c ∧ ∀ j u, c[j]? = some u → w.cell? (a.add (i * d.sz + j)) = some u) ∧ q y) (n := len) (fun i hi => by
      obtain ⟨cs', h1, h2⟩ := hx i (by omega)
      obtain ⟨_, hlen, hcell⟩ := World.cells?_some h1
      obtain ⟨y, hy, hq⟩ := hel _ _ _ h2
      refine ⟨y, ⟨cs', by rw [hlen, hsz], hy, fun j u hj => ?_⟩, hq⟩
      have hjl : j < cs'.length := by
        rcases Nat.lt_or_ge j cs'.length with h3 | h3
        · exact h3
        · rw [List.getElem?_eq_none h3] at hj; cases hj
      have h4 := hcell j (by omega)
      rw [Deep.add_add, hsz] at h4
      exact h4.trans hj)
    have hxl : ((List.range len).map f).length = len := by simp
    refine ⟨some a, cap, (List.range len).map f, by rw [hxl], by rw [hxl]; exact hl, ⟨rfl, ?_, fun _ => ⟨a, rfl, fun j p hj => ?_⟩⟩, fun y hy => ?_⟩
    · rw [hxl]
      have : maxLen = 9223372036854775807 := by rfl
      omega
    · have hjl : j < len := by
        rcases Nat.lt_or_ge j len with h3 | h3
        · exact h3
        · rw [List.getElem?_eq_none (by rw [hxl]; exact h3)] at hj; cases hj
      rw [List.getElem?_map, List.getElem?_range hjl] at hj
      cases hj
      exact (hf j hjl).1
    · obtain ⟨j, hj, rfl⟩ := List.mem_map.1 hy
      exact (hf j (List.mem_range.1 hj)).2
theorem cells_int : Try.prog.cellsOf 3 = 1 := by kernel_rfl
theorem cells_u64 : Try.prog.cellsOf 28 = 1 := by kernel_rfl
theorem get_ok {α : Type} {xs : List α} {i n : Nat} (h : xs.length = n) (hi : i < n) : ∃ y, xs[i]? = some y := ⟨_, List.getElem?_eq_getElem (by omega)⟩
def wfS (x : S38) : Prop := (Lit.int .i64 x.f0).wf = true ∧ (Lit.int .i64 x.f1).wf = true ∧ (Lit.int .u64 x.f2).wf = true
theorem act_open (n : Nat) (cs : List Value) (x : DataW H × List MemPlace) (h : DataW.trod enc Try.prog w base spare held n 30 cs = some x) : ∃ y : S38, k38.K w y cs ∧ wfS y := by
  obtain ⟨xs, k, hk, hxy, hcl, hxl, hf⟩ := DataW.trod_struct Try.underlying30 h
  rw [show Try.prog.cellsOf 30 = 3 from by kernel_rfl] at hcl
  match cs, hcl with
  | [v0, v1, v2], _ =>
    obtain ⟨y0, e0⟩ := get_ok (i := 0) hxl (by decide)
    obtain ⟨y1, e1⟩ := get_ok (i := 1) hxl (by decide)
    obtain ⟨y2, e2⟩ := get_ok (i := 2) hxl (by decide)
    obtain ⟨n0, h0, k0, w0⟩ := DataW.trod_int Try.underlying3 ((hf 0 _ rfl).trans e0)
    obtain ⟨n1, h1, k1, w1⟩ := DataW.trod_int Try.underlying3 ((hf 1 _ rfl).trans e1)
    obtain ⟨n2, h2, k2, w2⟩ := DataW.trod_int Try.underlying28 ((hf 2 _ rfl).trans e2)
    simp [cells_int, cells_u64] at h0 h1 h2
    subst h0; subst h1; subst h2
    exact ⟨⟨n0, n1, n2⟩, k38_mk _ _, w0, w1, w2⟩
theorem u64_open (n : Nat) (cs : List Value) (x : DataW H × List MemPlace) (h : DataW.trod enc Try.prog w base spare held n 28 cs = some x) : ∃ y : Int, (Kd.int .u64).K w y cs ∧ (Lit.int .u64 y).wf = true := by
  obtain ⟨n0, h0, k0, w0⟩ := DataW.trod_int Try.underlying28 h
  exact ⟨n0, h0, w0⟩
/-- An argument that is a row. -/
theorem row_arg {α : Type} (dk : Kd α) (qq : α → Prop) (z : α) {t e : TypeId} (ht : Try.prog.underlying t = some (.slice e)) (hsz : Try.prog.cellsOf e = dk.sz)
    (hel : ∀ n cs x, DataW.trod enc Try.prog w base spare held n e cs = some x → ∃ y, dk.K w y cs ∧ qq y) {r : Reach} {b0 : Nat} {v : Value} {d : DataW H} {ps : List MemPlace} (hval : Value.okWide Try.prog w r b0 t v) (hd : DataW.Trod enc Try.prog w base spare held t v d ps) :
    ∃ (A : Option Addr) (cap : Nat) (xs : List α), v = .slice A xs.length cap ∧ xs.length ≤ cap ∧ Kd.C dk w A xs.length xs ∧ ∀ x ∈ xs, qq x := by
  obtain ⟨a, len, cap, rfl⟩ := okWide_slice ht hval
  obtain ⟨fuel, hf⟩ := hd
  obtain ⟨A, cap, xs, h1, h2, h3, h4⟩ := rows_open dk qq z ht hsz hel hf
  simp [Value.cells] at h1
  obtain ⟨rfl, rfl, rfl⟩ := h1
  exact ⟨_, _, xs, rfl, h2, h3, h4⟩
end
noncomputable def base0 (os : Os) : World := World.holding Try.prog os ⟨#[], #[], []⟩
end Go.Proofs.Ytjhgdlgdejcmjaa.L
