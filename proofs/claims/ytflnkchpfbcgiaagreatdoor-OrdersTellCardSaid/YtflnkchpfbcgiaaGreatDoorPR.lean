/- The rows' arguments: a definition, events, orders, opened out of what the row gives. By an AI agent of this work. -/
import Derived.Test.YtflnkchpfbcgiaaGreatDoorQx0
import Derived.Test.YtflnkchpfbcgiaaGreatDoorRows
import Derived.Test.YtflnkchpfbcgiaaGreatDoorCards
import Derived.Test.YtflnkchpfbcgiaaGreatDoorTie
import Derived.WalkKit
import Derived.ProofKit
import Derived.OpenShut
import Derived.ShutString
import Derived.Below
import Derived.SizedLaws
import Derived.Deep.Slices
import Derived.Deep.DeepHandedRow
namespace Go.Proofs.YtflnkchpfbcgiaaGreatDoor.Q
open Go.RowKit Go.ChangeShapes Go.WideShapes Go.Deep Go.Proofs.YtflnkchpfbcgiaaGreatDoorW.PrintWords Go.Proofs.YtflnkchpfbcgiaaGreatDoorW.PrintLast Go.Proofs.YtflnkchpfbcgiaaGreatDoorW.PrintMore
set_option linter.unusedVariables false
set_option linter.unusedSimpArgs false
set_option maxRecDepth 100000
theorem own : ownKnob Tryz.prog.godebug = none := by kernel_rfl
theorem laidOut : laidOutB Tryz.prog = true := by kernel_rfl
section
variable {H : Type} {enc : TypeId × Value → H} {w : World} {base : Nat} {spare : Nat → Bool} {held : Bool}
theorem rows_open {α : Type} (d : Kd α) (z : α) {t e : TypeId} (ht : Tryz.prog.underlying t = some (.slice e)) (hsz : Tryz.prog.cellsOf e = d.sz)
    (hel : ∀ n cs x, DataW.trod enc Tryz.prog w base spare held n e cs = some x → ∃ y, d.K w y cs) {fuel : Nat} {cs : List Value} {x : DataW H × List MemPlace} (h : DataW.trod enc Tryz.prog w base spare held fuel t cs = some x) :
    ∃ (A : Option Addr) (cap : Nat) (xs : List α), cs = [.slice A xs.length cap] ∧ xs.length ≤ cap ∧ Kd.C d w A xs.length xs := by
  rcases open_slice ht h with ⟨rfl, rfl⟩ | ⟨a, len, cap, m, n, D, Pl, rfl, hb, hl, hm, hmm, rfl, hx⟩
  · exact ⟨none, 0, [], rfl, Nat.le_refl _, rfl, Nat.zero_le _, fun h => absurd h (by simp)⟩
  · have hlm : len ≤ m := by rw [hmm]; split <;> omega
    letI : Inhabited α := ⟨z⟩
    obtain ⟨f, hf⟩ := choose_lt (α := α) (p := fun i y => ∃ c, c.length = d.sz ∧ d.K w y c ∧ ∀ j u, c[j]? = some u → w.cell? (a.add (i * d.sz + j)) = some u) (n := len) (fun i hi => by
      obtain ⟨cs', h1, h2⟩ := hx i (by omega)
      obtain ⟨_, hlen, hcell⟩ := World.cells?_some h1
      obtain ⟨y, hy⟩ := hel _ _ _ h2
      refine ⟨y, cs', by rw [hlen, hsz], hy, fun j u hj => ?_⟩
      have hjl : j < cs'.length := by
        rcases Nat.lt_or_ge j cs'.length with h3 | h3
        · exact h3
        · rw [List.getElem?_eq_none h3] at hj; cases hj
      have h4 := hcell j (by omega)
      rw [Deep.add_add, hsz] at h4
      exact h4.trans hj)
    have hxl : ((List.range len).map f).length = len := by simp
    refine ⟨some a, cap, (List.range len).map f, by rw [hxl], by rw [hxl]; exact hl, rfl, ?_, fun _ => ⟨a, rfl, fun j p hj => ?_⟩⟩
    · rw [hxl]
      have : maxLen = 9223372036854775807 := by rfl
      omega
    · have hjl : j < len := by
        rcases Nat.lt_or_ge j len with h3 | h3
        · exact h3
        · rw [List.getElem?_eq_none (by rw [hxl]; exact h3)] at hj; cases hj
      rw [List.getElem?_map, List.getElem?_range hjl] at hj
      cases hj
      exact hf j hjl
theorem cells_int : Tryz.prog.cellsOf 3 = 1 := by kernel_rfl
theorem cells_u64 : Tryz.prog.cellsOf 46 = 1 := by kernel_rfl
theorem cells_str : Tryz.prog.cellsOf 9 = 1 := by kernel_rfl
theorem get_ok {α : Type} {xs : List α} {i n : Nat} (h : xs.length = n) (hi : i < n) : ∃ y, xs[i]? = some y := ⟨_, List.getElem?_eq_getElem (by omega)⟩
theorem event_open (n : Nat) (cs : List Value) (x : DataW H × List MemPlace) (h : DataW.trod enc Tryz.prog w base spare held n 45 cs = some x) : ∃ y : S45, k45.K w y cs := by
  obtain ⟨xs, k, hk, hxy, hcl, hxl, hf⟩ := DataW.trod_struct Tryz.underlying45 h
  rw [show Tryz.prog.cellsOf 45 = 4 from by kernel_rfl] at hcl
  match cs, hcl with
  | [v0, v1, v2, v3], _ =>
    obtain ⟨y0, e0⟩ := get_ok (i := 0) hxl (by decide)
    obtain ⟨y1, e1⟩ := get_ok (i := 1) hxl (by decide)
    obtain ⟨y2, e2⟩ := get_ok (i := 2) hxl (by decide)
    obtain ⟨y3, e3⟩ := get_ok (i := 3) hxl (by decide)
    obtain ⟨n0, h0, _, _⟩ := DataW.trod_int Tryz.underlying3 ((hf 0 _ rfl).trans e0)
    obtain ⟨n1, h1, _, _⟩ := DataW.trod_int Tryz.underlying3 ((hf 1 _ rfl).trans e1)
    obtain ⟨n2, h2, _, _⟩ := DataW.trod_int Tryz.underlying3 ((hf 2 _ rfl).trans e2)
    obtain ⟨n3, h3, _, _⟩ := DataW.trod_int Tryz.underlying3 ((hf 3 _ rfl).trans e3)
    simp [cells_int] at h0 h1 h2 h3
    subst h0; subst h1; subst h2; subst h3
    exact ⟨⟨n0, n1, n2, n3⟩, k45_mk _ _⟩
theorem order_open (n : Nat) (cs : List Value) (x : DataW H × List MemPlace) (h : DataW.trod enc Tryz.prog w base spare held n 48 cs = some x) : ∃ y : S48, k48.K w y cs := by
  obtain ⟨xs, k, hk, hxy, hcl, hxl, hf⟩ := DataW.trod_struct Tryz.underlying48 h
  rw [show Tryz.prog.cellsOf 48 = 5 from by kernel_rfl] at hcl
  match cs, hcl with
  | [v0, v1, v2, v3, v4], _ =>
    obtain ⟨y0, e0⟩ := get_ok (i := 0) hxl (by decide)
    obtain ⟨y1, e1⟩ := get_ok (i := 1) hxl (by decide)
    obtain ⟨y2, e2⟩ := get_ok (i := 2) hxl (by decide)
    obtain ⟨y3, e3⟩ := get_ok (i := 3) hxl (by decide)
    obtain ⟨y4, e4⟩ := get_ok (i := 4) hxl (by decide)
    obtain ⟨n0, h0, _, _⟩ := DataW.trod_int Tryz.underlying3 ((hf 0 _ rfl).trans e0)
    obtain ⟨n1, h1, _, _⟩ := DataW.trod_int Tryz.underlying3 ((hf 1 _ rfl).trans e1)
    obtain ⟨n2, h2, _, _⟩ := DataW.trod_int Tryz.underlying3 ((hf 2 _ rfl).trans e2)
    obtain ⟨n3, h3, _, _⟩ := DataW.trod_int Tryz.underlying3 ((hf 3 _ rfl).trans e3)
    obtain ⟨n4, h4, _, _⟩ := DataW.trod_int Tryz.underlying46 ((hf 4 _ rfl).trans e4)
    simp [cells_int, cells_u64] at h0 h1 h2 h3 h4
    subst h0; subst h1; subst h2; subst h3; subst h4
    exact ⟨⟨n0, n1, n2, n3, n4⟩, k48_mk _ _⟩
theorem node_open (n : Nat) (cs : List Value) (x : DataW H × List MemPlace) (h : DataW.trod enc Tryz.prog w base spare held n 41 cs = some x) : ∃ y : S41, k41.K w y cs := by
  obtain ⟨xs, k, hk, hxy, hcl, hxl, hf⟩ := DataW.trod_struct Tryz.underlying41 h
  rw [show Tryz.prog.cellsOf 41 = 5 from by kernel_rfl] at hcl
  match cs, hcl with
  | [v0, v1, v2, v3, v4], _ =>
    obtain ⟨y0, e0⟩ := get_ok (i := 0) hxl (by decide)
    obtain ⟨y1, e1⟩ := get_ok (i := 1) hxl (by decide)
    obtain ⟨y2, e2⟩ := get_ok (i := 2) hxl (by decide)
    obtain ⟨y3, e3⟩ := get_ok (i := 3) hxl (by decide)
    obtain ⟨y4, e4⟩ := get_ok (i := 4) hxl (by decide)
    obtain ⟨n0, h0, _, _⟩ := DataW.trod_int Tryz.underlying3 ((hf 0 _ rfl).trans e0)
    obtain ⟨n1, h1, _, _⟩ := DataW.trod_int Tryz.underlying3 ((hf 1 _ rfl).trans e1)
    obtain ⟨n2, h2, _, _⟩ := DataW.trod_int Tryz.underlying3 ((hf 2 _ rfl).trans e2)
    obtain ⟨n3, h3, _, _⟩ := DataW.trod_int Tryz.underlying3 ((hf 3 _ rfl).trans e3)
    obtain ⟨n4, h4, _, _⟩ := DataW.trod_string Tryz.underlying9 ((hf 4 _ rfl).trans e4)
    simp [cells_int, cells_str] at h0 h1 h2 h3 h4
    subst h0; subst h1; subst h2; subst h3; subst h4
    exact ⟨⟨n0, n1, n2, n3, n4⟩, k41_mk _ _⟩
theorem flow_open (n : Nat) (cs : List Value) (x : DataW H × List MemPlace) (h : DataW.trod enc Tryz.prog w base spare held n 43 cs = some x) : ∃ y : S43, k43.K w y cs := by
  obtain ⟨xs, k, hk, hxy, hcl, hxl, hf⟩ := DataW.trod_struct Tryz.underlying43 h
  rw [show Tryz.prog.cellsOf 43 = 5 from by kernel_rfl] at hcl
  match cs, hcl with
  | [v0, v1, v2, v3, v4], _ =>
    obtain ⟨y0, e0⟩ := get_ok (i := 0) hxl (by decide)
    obtain ⟨y1, e1⟩ := get_ok (i := 1) hxl (by decide)
    obtain ⟨y2, e2⟩ := get_ok (i := 2) hxl (by decide)
    obtain ⟨y3, e3⟩ := get_ok (i := 3) hxl (by decide)
    obtain ⟨y4, e4⟩ := get_ok (i := 4) hxl (by decide)
    obtain ⟨n0, h0, _, _⟩ := DataW.trod_int Tryz.underlying3 ((hf 0 _ rfl).trans e0)
    obtain ⟨n1, h1, _, _⟩ := DataW.trod_int Tryz.underlying3 ((hf 1 _ rfl).trans e1)
    obtain ⟨n2, h2, _, _⟩ := DataW.trod_int Tryz.underlying3 ((hf 2 _ rfl).trans e2)
    obtain ⟨n3, h3, _, _⟩ := DataW.trod_int Tryz.underlying3 ((hf 3 _ rfl).trans e3)
    obtain ⟨n4, h4, _, _⟩ := DataW.trod_string Tryz.underlying9 ((hf 4 _ rfl).trans e4)
    simp [cells_int, cells_str] at h0 h1 h2 h3 h4
    subst h0; subst h1; subst h2; subst h3; subst h4
    exact ⟨⟨n0, n1, n2, n3, n4⟩, k43_mk _ _⟩
/-- An argument that is a definition. -/
theorem def_arg {r : Reach} {b0 : Nat} {v : Value} {d : DataW H} {ps : List MemPlace} (hval : Value.okWide Tryz.prog w r b0 25 v) (hd : DataW.Trod enc Tryz.prog w base spare held 25 v d ps) :
    ∃ (s : ByteArray) (A1 : Option Addr) (c1 : Nat) (l1 : List S41) (A2 : Option Addr) (c2 : Nat) (l2 : List S43), v = .agg #[.string s, .slice A1 l1.length c1, .slice A2 l2.length c2] ∧
      l1.length ≤ c1 ∧ Kd.C k41 w A1 l1.length l1 ∧ l2.length ≤ c2 ∧ Kd.C k43 w A2 l2.length l2 := by
  obtain ⟨cs, rfl, hs⟩ := okWide_struct Tryz.underlying25 hval
  obtain ⟨fuel, hf⟩ := hd
  obtain ⟨xs, k, hk, hxy, hcl, hxl, hf⟩ := DataW.trod_struct Tryz.underlying25 hf
  rw [show Tryz.prog.cellsOf 25 = 3 from by kernel_rfl] at hcl
  obtain ⟨l⟩ := cs
  have hl : l.length = 3 := hcl
  match l, hl with
  | [v0, v1, v2], _ =>
    obtain ⟨y0, e0⟩ := get_ok (i := 0) hxl (by decide)
    obtain ⟨y1, e1⟩ := get_ok (i := 1) hxl (by decide)
    obtain ⟨y2, e2⟩ := get_ok (i := 2) hxl (by decide)
    obtain ⟨s, h0, _, _⟩ := DataW.trod_string Tryz.underlying9 ((hf 0 _ rfl).trans e0)
    obtain ⟨A1, c1, l1, h1, q1, r1⟩ := rows_open k41 z41 Tryz.underlying22 (by kernel_rfl) node_open ((hf 1 _ rfl).trans e1)
    obtain ⟨A2, c2, l2, h2, q2, r2⟩ := rows_open k43 z43 Tryz.underlying23 (by kernel_rfl) flow_open ((hf 2 _ rfl).trans e2)
    have c1' : Tryz.prog.cellsOf 22 = 1 := by kernel_rfl
    have c2' : Tryz.prog.cellsOf 23 = 1 := by kernel_rfl
    simp [Value.cells, cells_str, c1', c2'] at h0 h1 h2
    subst h0; subst h1; subst h2
    exact ⟨s, A1, c1, l1, A2, c2, l2, rfl, q1, r1, q2, r2⟩
/-- An argument that is an event. -/
theorem event_arg {r : Reach} {b0 : Nat} {v : Value} {d : DataW H} {ps : List MemPlace} (hval : Value.okWide Tryz.prog w r b0 45 v) (hd : DataW.Trod enc Tryz.prog w base spare held 45 v d ps) :
    ∃ n0 n1 n2 n3 : Int, v = .agg #[.int .i64 n0, .int .i64 n1, .int .i64 n2, .int .i64 n3] := by
  obtain ⟨cs, rfl, hs⟩ := okWide_struct Tryz.underlying45 hval
  obtain ⟨fuel, hf⟩ := hd
  obtain ⟨y, hy⟩ := event_open (w := w) _ _ _ hf
  have h1 := k45_open hy
  refine ⟨y.f0, y.f1, y.f2, y.f3, ?_⟩
  obtain ⟨l⟩ := cs
  have h2 : l = _ := h1
  rw [h2]
/-- An argument that is a row. -/
theorem row_arg {α : Type} (dk : Kd α) (z : α) {t e : TypeId} (ht : Tryz.prog.underlying t = some (.slice e)) (hsz : Tryz.prog.cellsOf e = dk.sz)
    (hel : ∀ n cs x, DataW.trod enc Tryz.prog w base spare held n e cs = some x → ∃ y, dk.K w y cs) {r : Reach} {b0 : Nat} {v : Value} {d : DataW H} {ps : List MemPlace} (hval : Value.okWide Tryz.prog w r b0 t v) (hd : DataW.Trod enc Tryz.prog w base spare held t v d ps) :
    ∃ (A : Option Addr) (cap : Nat) (xs : List α), v = .slice A xs.length cap ∧ xs.length ≤ cap ∧ Kd.C dk w A xs.length xs := by
  obtain ⟨a, len, cap, rfl⟩ := okWide_slice ht hval
  obtain ⟨fuel, hf⟩ := hd
  obtain ⟨A, cap, xs, h1, h2, h3⟩ := rows_open dk z ht hsz hel hf
  simp [Value.cells] at h1
  obtain ⟨rfl, rfl, rfl⟩ := h1
  exact ⟨_, _, xs, rfl, h2, h3⟩
end
end Go.Proofs.YtflnkchpfbcgiaaGreatDoor.Q
