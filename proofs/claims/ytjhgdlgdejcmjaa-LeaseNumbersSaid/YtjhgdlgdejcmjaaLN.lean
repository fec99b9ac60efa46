/- Rows of leases: in the print's words, in the sort's, as own rows. By an AI agent of this work. -/
import Derived.Test.YtjhgdlgdejcmjaaLI
import Derived.Test.YtjhgdlgdejcmjaaLZ
import Derived.Test.YtjhgdlgdejcmjaaLD
import Derived.Sort.OwnSorted
namespace Go.Proofs.Ytjhgdlgdejcmjaa.L
open Go.Shelf Go.RowKit Go.Lib Go.Sort Go.Proofs.Ytjhgdlgdejcmjaa.Q Go.Proofs.YtjhgdlgdejcmjaaW.PrintWords Go.Proofs.YtjhgdlgdejcmjaaW.PrintLast Go.Proofs.YtjhgdlgdejcmjaaW.PrintMore
set_option linter.unusedVariables false
set_option linter.unusedSimpArgs false
set_option linter.unusedSectionVars false
def toS (g : Gr) : S38 := ⟨g.n, g.j, g.u⟩
def ofS (x : S38) : Gr := ⟨x.f0, x.f1, x.f2⟩
theorem reps_of {R : S38 → List Value → Prop} (hR : ∀ g, R (toS g) (enc g)) : ∀ L : List Gr, Reps R 3 (L.map toS) (cellsOf L)
  | [] => Reps.none _ _
  | g :: L => Reps.front (hR g) rfl (reps_of hR L) (by unfold cellsOf; rw [List.flatMap_cons])
theorem of_reps {R : S38 → List Value → Prop} (hR : ∀ x c, R x c → c = enc (ofS x)) : ∀ (xs : List S38) (cs : List Value), Reps R 3 xs cs → cs = cellsOf (xs.map ofS)
  | [], cs, h => List.eq_nil_of_length_eq_zero (by simpa using h.1)
  | x :: xs, cs, h => by
    have h0 := hR _ _ (h.2 0 x rfl)
    have h1 : Reps R 3 xs (cs.drop 3) := ⟨by rw [List.length_drop, h.1, List.length_cons]; omega, fun j p hj => by
      have := h.2 (j + 1) p (by simpa using hj)
      rw [List.drop_drop]
      rwa [show 3 + j * 3 = (j + 1) * 3 by omega]⟩
    have h2 := of_reps hR xs _ h1
    rw [List.map_cons]
    show cs = enc (ofS x) ++ cellsOf _
    rw [← h2, ← h0, Nat.zero_mul, List.drop_zero, List.take_append_drop]
theorem own_of_R {w : World} {base : Nat} {ok : Nat → Prop} {v : Value} {xs : List S38} (h : Kd.R k38 38 w base ok v xs) : w.ownsRow base 38 3 v (xs.map ofS).length (cellsOf (xs.map ofS)) := by
  obtain ⟨_, inner, ho, hr⟩ := h
  have := of_reps (fun x c hx => k38_openM hx) xs inner hr
  subst this
  rw [List.length_map]; exact ho
theorem R_of_own {w : World} {base : Nat} {ok : Nat → Prop} {v : Value} {L : List Gr} (ho : w.ownsRow base 38 3 v L.length (cellsOf L)) (hok : ∀ k, v.ownBlock = some k → ok k) : Kd.R k38 38 w base ok v (L.map toS) :=
  ⟨hok, _, by rw [List.length_map]; exact ho, reps_of (fun g => k38_mkM w base _ _) L⟩
theorem ofS_keeps (o : Int) (L : List Gr) : ((L.map toS).filter (keepsO o)).map ofS = L.filter fun g => decide (g.u ≤ o) := by
  rw [List.filter_map, List.map_map]
  have e : (ofS ∘ toS) = id := by funext g; rfl
  rw [e, List.map_id]
  refine List.filter_congr fun g _ => ?_
  show (!decide (o < g.u)) = decide (g.u ≤ o)
  by_cases h : o < g.u
  · rw [decide_eq_true h, decide_eq_false (by omega)]; rfl
  · rw [decide_eq_false h, decide_eq_true (by omega)]; rfl

/-! ### The sort's row -/
theorem cellsOf_get : ∀ (L : List Gr) (j : Nat), j < L.length * 3 → (cellsOf L)[j]? = some ((enc L[j / 3]!)[j % 3]!)
  | [], j, h => by simp at h
  | g :: L, j, h => by
    show (enc g ++ cellsOf L)[j]? = _
    rcases Nat.lt_or_ge j 3 with h3 | h3
    · rw [List.getElem?_append_left (by simpa [enc] using h3), Nat.div_eq_of_lt h3, Nat.mod_eq_of_lt h3]
      match j, h3 with
      | 0, _ => rfl
      | 1, _ => rfl
      | 2, _ => rfl
    · obtain ⟨i, rfl⟩ : ∃ i, j = i + 3 := ⟨j - 3, by omega⟩
      have hl : (enc g).length = 3 := rfl
      rw [List.getElem?_append_right (by rw [hl]; omega), hl, Nat.add_sub_cancel, cellsOf_get L i (by rw [List.length_cons] at h; omega), Nat.add_mod_right, show (i + 3) / 3 = i / 3 + 1 by omega]
      rfl
theorem flat_list (L : List Gr) : (flatK enc 3 L.toArray).toList = cellsOf L := by
  apply List.ext_getElem?
  intro j
  by_cases h : j < L.length * 3
  · have hs : j < (flatK enc 3 L.toArray).size := by rw [size_flatK]; simpa using h
    rw [cellsOf_get L j h, Array.getElem?_toList, Array.getElem?_eq_getElem hs, ← getElem!_pos _ j hs, get_flatK _ _ _ _ (by simpa using h)]
    simp
  · rw [List.getElem?_eq_none (by rw [Array.length_toList, size_flatK]; simpa using h), List.getElem?_eq_none (by rw [cellsOf_length]; omega)]
theorem rowK_of {w : World} {g : Nat} {cur : Array Value} {L : List Gr} (hh : w.heap[g]? = some (.cells cur 38 (0, 0))) (ht : cur.toList.take (L.length * 3) = cellsOf L) : RowK enc 3 w g 0 L.toArray := by
  refine ⟨fun x => rfl, fun x v hv => ?_, fun j hj => ?_, (Array.getElem?_eq_some_iff.1 hh).1⟩
  · simp only [enc, List.mem_cons, List.not_mem_nil, or_false] at hv
    rcases hv with rfl | rfl | rfl <;> rfl
  · have hj2 : j < L.length * 3 := by rw [size_flatK] at hj; simpa using hj
    refine ⟨?_, by simp [World.frozen?, hh]⟩
    have h1 : (cur.toList.take (L.length * 3))[j]? = (flatK enc 3 L.toArray).toList[j]? := by rw [ht, flat_list]
    rw [List.getElem?_take_of_lt hj2, Array.getElem?_toList, Array.getElem?_toList, Array.getElem?_eq_getElem hj, ← getElem!_pos _ j hj] at h1
    simp only [World.cell?, hh, Nat.zero_add]
    simpa using h1
theorem heap_sortedF {w : World} {g n : Nat} {os : Array Obj} {cur : Array Value} {e : TypeId} {fr : Nat × Nat} (F : Array Value) (hb : w.heap[g]? = some (.cells cur e fr)) :
    (grow (putRow id (Sort.ahead w n) g 0 F) os).heap[g]? = some (.cells (putCells id 0 F cur) e fr) := by
  have hg : g < w.heap.size := (Array.getElem?_eq_some_iff.1 hb).1
  rw [heap_grow_old _ _ (by simpa using hg)]
  simp [putRow, mapBlock, Sort.ahead, Array.getElem?_modify, hb, onCells]
theorem grownBy_sortedF {w : World} {g n : Nat} {os : Array Obj} (F : Array Value) : w.grownBy (grow (putRow id (Sort.ahead w n) g 0 F) os) (some g) := by
  refine ⟨rfl, rfl, rfl, by simp, fun k hk hne => ?_⟩
  rw [heap_grow_old _ _ (by simpa using hk)]
  have : g ≠ k := fun e => hne (by rw [e])
  simp [putRow, mapBlock, Sort.ahead, Array.getElem?_modify, this]
theorem take_putCellsF (cur F : Array Value) (h : F.size ≤ cur.size) : (putCells id 0 F cur).toList.take F.size = F.toList := by
  apply List.ext_getElem?
  intro j
  by_cases hj : j < F.size
  · rw [List.getElem?_take_of_lt hj, Array.getElem?_toList]
    simp [putCells, hj, show j < cur.size by omega]
  · rw [List.getElem?_take_eq_none (by omega), List.getElem?_eq_none (by simp; omega)]
theorem own_sorted {w w' : World} {base g cap n : Nat} {cur : Array Value} {M : List Gr} (hl : M.length = n) (hbase : base ≤ g) (hb : w.heap[g]? = some (.cells cur 38 (0, 0))) (h1 : n ≤ cap) (h2 : cap ≤ maxLen) (h3 : cur.size = cap * 3)
    (h : SWK enc 3 w g 0 M.toArray w') : w'.ownsRow base 38 3 (.slice (some ⟨g, 0, none⟩) n cap) n (cellsOf M) ∧ w.grownBy w' (some g) := by
  obtain ⟨m, os, rfl⟩ := h
  subst hl
  refine ⟨⟨by rw [cellsOf_length], .inr ⟨g, cap, _, rfl, hbase, heap_sortedF _ hb, h1, h2, by simp [putCells, h3], ?_⟩⟩, grownBy_sortedF _⟩
  have hs : (flatK enc 3 M.toArray).size = M.length * 3 := by rw [size_flatK]; simp
  have := take_putCellsF cur (flatK enc 3 M.toArray) (by rw [hs, h3]; omega)
  rw [hs, flat_list] at this
  exact this
end Go.Proofs.Ytjhgdlgdejcmjaa.L
