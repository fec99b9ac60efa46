/- slices.Sort and slices.Compact of a row of ints that the call owns, in the form that the printed callers ask: out of the shelf's contracts. By an AI agent of this work. -/
import Derived.Test.YtflnkchpfbcgiaaGreatDoorQx0
import Derived.Test.YtflnkchpfbcgiaaGreatDoorShelf
import Derived.Lib.OwnBridge
import Derived.Sort.OwnSortedInts
namespace Go.Proofs.YtflnkchpfbcgiaaGreatDoor.Q
open Go.RowKit Go.Sort Go.Proofs.YtflnkchpfbcgiaaGreatDoorW.PrintWords Go.Proofs.YtflnkchpfbcgiaaGreatDoorW.PrintLast Go.Proofs.YtflnkchpfbcgiaaGreatDoorW.PrintMore
set_option linter.unusedVariables false
set_option linter.unusedSimpArgs false

/-- A row of ints, opened: its cells are the numbers. -/
theorem ints_open {w : World} {base : Nat} {ok : Nat → Prop} {v : Value} {xs : List Int} (h : Kd.R (Kd.int .i64) 3 w base ok v xs) :
    (∀ k, v.ownBlock = some k → ok k) ∧ w.ownsRow base 3 1 v xs.length (xs.map (Value.int .i64)) := ⟨h.1, Kd.own_of_R h⟩
theorem ints_mk {w : World} {base : Nat} {ok : Nat → Prop} {v : Value} {xs : List Int} (h0 : ∀ k, v.ownBlock = some k → ok k) (h : w.ownsRow base 3 1 v xs.length (xs.map (Value.int .i64))) :
    Kd.R (Kd.int .i64) 3 w base ok v xs := Kd.R_of_own h h0
theorem kept_of_grown {w w1 : World} {S : Nat → Prop} {g : Nat} (h : w.grownBy w1 (some g)) (hS : S g) : Kept w w1 S :=
  ⟨h.size, fun i hi hn => h.block i hi (fun e => hn (by cases e; exact hS))⟩
theorem grownBy_putRow {w : World} {g q : Nat} (d : Array Int) : w.grownBy (putRow (Value.int .i64) (Sort.ahead w q) g 0 d) (some g) := by
  refine ⟨rfl, rfl, rfl, by simp [putRow, mapBlock, Sort.ahead], fun k hk hne => ?_⟩
  have : g ≠ k := fun e => hne (by rw [e])
  simp [putRow, mapBlock, Sort.ahead, Array.getElem?_modify, this]

def slices_Sort_int_int.f (l0 : List Int) : Option (List Int) := if l0.length < 4611686018427387904 then some (l0.mergeSort fun x y => decide (x ≤ y)) else none
theorem slices_Sort_int_int.calls (P0_ : Nat → Prop) (u9000_ : Value) (l0 : List Int) (r : List Int) (w0 w : World) (hB : Below w0.heap.size w0 w) (ho0 : Kd.R (Kd.int .i64) 3 w w0.heap.size P0_ u9000_ l0) (h : slices_Sort_int_int.f l0 = some r) :
    Calls Tryz.prog 19 #[u9000_] w fun e w' => e = .returned (.tuple #[]) ∧ Kd.R (Kd.int .i64) 3 w' w0.heap.size (fun k_ => (P0_ k_ ∨ w.heap.size ≤ k_)) u9000_ r ∧ Below w0.heap.size w0 w' ∧ Kept w w' (fun k_ => P0_ k_) := by
  unfold slices_Sort_int_int.f at h
  split at h
  · rename_i hl
    obtain rfl := Option.some.inj h
    obtain ⟨h0, ho⟩ := ints_open ho0
    rcases ho.2 with ⟨rfl, hn⟩ | ⟨g, cap, cur, rfl, hbase, hb, h1, h2, h3, h4⟩
    · obtain rfl : l0 = [] := List.eq_nil_of_length_eq_zero hn
      refine (Tryz.slices_Sort_int_none none 0 w).mono ?_
      rintro e w' ⟨rfl, rfl⟩
      exact ⟨rfl, ints_mk (fun k hk => by simp [Value.ownBlock] at hk) (by simpa using own_nil _ _ _ _), hB, Kept.refl _ _⟩
    · have hH : Holds (Value.int .i64) w g 0 l0.toArray := holds_of_blockI hb (by simpa using h4)
      refine (Tryz.slices_Sort_int g 0 cap l0 w hH (Array.getElem?_eq_some_iff.1 hb).1 hl).mono ?_
      rintro e w' ⟨rfl, n, os, rfl⟩
      have hlen : (l0.mergeSort fun x y => decide (x ≤ y)).length = l0.length := List.length_mergeSort _
      have hS : P0_ g := h0 g rfl
      refine ⟨rfl, ints_mk (fun k hk => .inl (h0 k hk)) ?_, hB.grown (grownBy_sortedI _) hB.size (fun j hj => by cases hj; exact hbase), kept_of_grown (grownBy_sortedI _) hS⟩
      have := ownsRow_sortedI (os := os) (n := n) hlen hbase hb h1 h2 h3
      rw [hlen]
      exact this
  · exact absurd h (by simp)

def slices_Compact_int_int.f (l0 : List Int) : Option (List Int) := if l0.length ≤ 9223372036854775807 then some (Lib.compact l0) else none
theorem slices_Compact_int_int.calls (P0_ : Nat → Prop) (u9000_ : Value) (l0 : List Int) (r : List Int) (w0 w : World) (hB : Below w0.heap.size w0 w) (ho0 : Kd.R (Kd.int .i64) 3 w w0.heap.size P0_ u9000_ l0) (h : slices_Compact_int_int.f l0 = some r) :
    Calls Tryz.prog 20 #[u9000_] w fun e w' => ∃ v0_ : Value, e = .returned v0_ ∧ Kd.R (Kd.int .i64) 3 w' w0.heap.size (fun k_ => (P0_ k_ ∨ w.heap.size ≤ k_)) v0_ r ∧ Below w0.heap.size w0 w' ∧ Kept w w' (fun k_ => P0_ k_) := by
  unfold slices_Compact_int_int.f at h
  split at h
  · rename_i hl
    obtain rfl := Option.some.inj h
    obtain ⟨h0, ho⟩ := ints_open ho0
    rcases ho.2 with ⟨rfl, hn⟩ | ⟨g, cap, cur, rfl, hbase, hb, h1, h2, h3, h4⟩
    · obtain rfl : l0 = [] := List.eq_nil_of_length_eq_zero hn
      refine (Tryz.slices_Compact_int_empty none 0 w).mono ?_
      rintro e w' ⟨rfl, rfl⟩
      exact ⟨_, rfl, ints_mk (fun k hk => by simp [Value.ownBlock] at hk) (show w'.ownsRow w0.heap.size 3 1 (.slice none 0 0) (Lib.compact ([] : List Int)).length ((Lib.compact ([] : List Int)).map (Value.int .i64)) from (show Lib.compact ([] : List Int) = [] from rfl) ▸ own_nil _ _ _ _), hB, Kept.refl _ _⟩
    · have hH : Holds (Value.int .i64) w g 0 l0.toArray := holds_of_blockI hb (by simpa using h4)
      refine (Tryz.slices_Compact_int g 0 cap l0 w hH hl h1).mono ?_
      rintro e w' ⟨rfl, q, rfl⟩
      have hle := Lib.compact_length_le l0
      have hS : P0_ g := h0 g rfl
      refine ⟨_, rfl, ints_mk (fun k hk => .inl (h0 k hk)) ?_, hB.grown (grownBy_putRow _) hB.size (fun j hj => by cases hj; exact hbase), kept_of_grown (grownBy_putRow _) hS⟩
      have := Lib.ownsRow_putRow (q := q) (k := (Lib.compact l0).length) (ys := Lib.compact l0 ++ List.replicate (l0.length - (Lib.compact l0).length) 0) ho (by simp; omega) hle
      rw [List.take_left'  rfl] at this
      exact this
  · exact absurd h (by simp)
end Go.Proofs.YtflnkchpfbcgiaaGreatDoor.Q
