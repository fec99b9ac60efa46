/- The two maps of a lease table as data: what stands in them, put, struck out, looked up (no program here). By an AI agent of this work. -/
import Derived.Test.YtjhgdlgdejcmjaaLV
import Derived.Maps.OwnSet
import Derived.Lib.SlKeysI
namespace Go.Proofs.Ytjhgdlgdejcmjaa.L
open Go.Maps Go.WideShapes
set_option linter.unusedVariables false
set_option linter.unusedSimpArgs false
set_option linter.unusedSectionVars false
variable {H : Type}

def dat (g : Gr) : DataW H := .agg [.lit (.int .i64 g.n), .lit (.int .i64 g.j), .lit (.int .u64 g.u)]
/-- An entry: under the number; under the job. -/
def En (b : Bool) (g : Gr) : Lit × DataW H := if b then (.int .i64 g.n, dat g) else (.int .i64 g.j, .lit (.int .i64 g.n))
def ky (b : Bool) (g : Gr) : Int := if b then g.n else g.j
theorem En_key (b : Bool) (g : Gr) : (En (H := H) b g).1 = .int .i64 (ky b g) := by cases b <;> rfl
/-- The map holds just the entries of L. -/
def Es (b : Bool) (D : DataW H) (L : List Gr) : Prop := ∃ es, D = .map es ∧ es.Perm (L.map (En b))
theorem same_key (b : Bool) (g : Gr) (k : Int) : (En (H := H) b g).1.sameKey (.int .i64 k) = decide (ky b g = k) := by
  rw [En_key]; simp [Lit.sameKey]
theorem Es.nil (b : Bool) : Es (H := H) b (.map []) [] := ⟨[], rfl, List.Perm.refl _⟩
theorem Es.del {b : Bool} {D : DataW H} {L : List Gr} (h : Es b D L) (k : Int) : Es b (D.del (.int .i64 k)) (L.filter fun g => !decide (ky b g = k)) := by
  obtain ⟨es, rfl, hp⟩ := h
  refine ⟨_, rfl, (hp.filter _).trans ?_⟩
  rw [List.filter_map]
  refine List.Perm.of_eq (congrArg _ (List.filter_congr fun g _ => ?_))
  simp only [Function.comp_apply, same_key]
theorem Es.put {b : Bool} {D : DataW H} {L : List Gr} (h : Es b D L) (g : Gr) (hn : ∀ x ∈ L, ky b x ≠ ky b g) : Es b (D.put (.int .i64 (ky b g)) (En b g).2) (L ++ [g]) := by
  obtain ⟨es, hD, hp⟩ := h.del (ky b g)
  obtain ⟨es0, rfl, hp0⟩ := h
  have e : es = es0.filter fun p => !p.1.sameKey (.int .i64 (ky b g)) := by
    have := hD
    simp only [DataW.del] at this
    injection this with this
    exact this.symm
  refine ⟨_, rfl, ?_⟩
  rw [← e]
  refine (insert_perm _ _).trans ?_
  rw [List.map_append]
  refine List.Perm.trans ?_ List.perm_append_comm
  have hf : (L.filter fun x => !decide (ky b x = ky b g)) = L := List.filter_eq_self.2 fun x hx => by simp [hn x hx]
  rw [hf] at hp
  have e2 : ((Lit.int .i64 (ky b g), (En (H := H) b g).2)) = En b g := by rw [← En_key (H := H) b g]
  rw [e2]
  exact hp.cons _
theorem Es.has {b : Bool} {D : DataW H} {L : List Gr} (h : Es b D L) (k : Int) : Maps.has D (.int .i64 k) = L.any fun g => decide (ky b g = k) := by
  obtain ⟨es, rfl, hp⟩ := h
  rw [has_eq, hp.any_eq, List.any_map]
  congr 1
  funext g
  simp only [Function.comp_apply, same_key]
theorem Es.at {b : Bool} {D : DataW H} {L : List Gr} (h : Es b D L) (hu : ∀ x ∈ L, ∀ y ∈ L, ky b x = ky b y → x = y) {g : Gr} (hg : g ∈ L) (z : DataW H) : D.atKey (.int .i64 (ky b g)) z = (En b g).2 := by
  obtain ⟨es, rfl, hp⟩ := h
  simp only [DataW.atKey]
  cases hf : es.find? (fun p => p.1.sameKey (.int .i64 (ky b g))) with
  | none =>
    rw [List.find?_eq_none] at hf
    have := hf (En b g) (hp.mem_iff.2 (List.mem_map.2 ⟨g, hg, rfl⟩))
    rw [same_key] at this
    simp at this
  | some p =>
    have h1 := List.find?_some hf
    obtain ⟨x, hx, rfl⟩ := List.mem_map.1 (hp.mem_iff.1 (List.mem_of_find?_eq_some hf))
    simp only [same_key, decide_eq_true_eq] at h1
    rw [hu x hx g hg h1]
theorem Es.size {b : Bool} {D : DataW H} {L : List Gr} (h : Es b D L) : Maps.size D = L.length := by
  obtain ⟨es, rfl, hp⟩ := h
  rw [size_eq, hp.length_eq, List.length_map]
theorem Es.keys {b : Bool} {D : DataW H} {L : List Gr} (h : Es b D L) : (intKeys D).Perm (L.map (ky b)) := by
  obtain ⟨es, rfl, hp⟩ := h
  refine (hp.map _).trans (List.Perm.of_eq ?_)
  rw [List.map_map]
  refine List.map_congr_left fun g _ => ?_
  simp only [Function.comp_apply, En_key]; rfl

/-! ### A struct's elements, read -/
def wfG (g : Gr) : Prop := (Lit.int .i64 g.n).wf = true ∧ (Lit.int .i64 g.j).wf = true ∧ (Lit.int .u64 g.u).wf = true
def RGl : List Value → Option (DataW H × List MemPlace)
  | [.int .i64 a, .int .i64 b, .int .u64 c] => some (dat ⟨a, b, c⟩, [])
  | _ => none
def RG : Value → Option (DataW H × List MemPlace)
  | .agg cs => RGl cs.toList
  | _ => none
theorem RG_mk (g : Gr) : RG (H := H) (.agg #[.int .i64 g.n, .int .i64 g.j, .int .u64 g.u]) = some (dat g, []) := rfl
theorem dat_inj {g h : Gr} (e : dat (H := H) g = dat h) : g = h := by
  cases g; cases h
  simpa [dat] using e
theorem RG_inv {v : Value} {g : Gr} {ps : List MemPlace} (h : RG (H := H) v = some (dat g, ps)) : v = .agg #[.int .i64 g.n, .int .i64 g.j, .int .u64 g.u] := by
  cases v with
  | agg cs =>
    simp only [RG] at h
    unfold RGl at h
    split at h
    · rename_i a b c e
      simp only [Option.some.injEq, Prod.mk.injEq] at h
      have := dat_inj h.1
      subst this
      have e2 : cs = #[.int .i64 a, .int .i64 b, .int .u64 c] := Array.ext' e
      rw [e2]
    · cases h
  | _ => simp [RG] at h
end Go.Proofs.Ytjhgdlgdejcmjaa.L
