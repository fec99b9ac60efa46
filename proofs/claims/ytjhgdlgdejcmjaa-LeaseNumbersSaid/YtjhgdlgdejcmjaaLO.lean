/- SortStableFunc, Clone, Over, walked. By an AI agent of this work. -/
import Derived.Test.YtjhgdlgdejcmjaaLN
namespace Go.Proofs.Ytjhgdlgdejcmjaa.L
open Go.Shelf Go.RowKit Go.Lib Go.Sort Go.Maps
set_option linter.unusedVariables false
set_option linter.unusedSimpArgs false
set_option linter.unusedSectionVars false
/-! ### The plain side -/
def srt (L : List Gr) : List Gr := (stable (ltOf cfU) L.length L.toArray).toList
theorem lt_eq : ltOf cfU = ltK (fun g : Gr => g.u) := by
  funext x y
  unfold ltOf ltK cfU cmpU
  by_cases h1 : x.u < y.u
  · rw [if_pos h1, decide_eq_true h1]; rfl
  · rw [if_neg h1, decide_eq_false h1]
    by_cases h2 : y.u < x.u
    · rw [if_pos h2]; rfl
    · rw [if_neg h2]; rfl
theorem srt_spec (L : List Gr) (h : L.Pairwise fun x y => x.n < y.n) : PermIn 0 L.length L.toArray (stable (ltOf cfU) L.length L.toArray) ∧ SortedIn (ltR (fun g : Gr => g.u) (fun g => g.n)) 0 L.length (stable (ltOf cfU) L.length L.toArray) := by
  rw [lt_eq]
  have := stable_spec (fun g : Gr => g.u) (fun g => g.n) L.toArray (fun p q hpq hq => by
    have hq' : q < L.length := by simpa using hq
    have := List.pairwise_iff_getElem.1 h p q (by omega) hq' hpq
    rw [getElem!_pos L.toArray p (by simpa using Nat.lt_trans hpq hq'), getElem!_pos L.toArray q hq]
    simpa using this)
  simpa using this
theorem srt_perm (L : List Gr) (h : L.Pairwise fun x y => x.n < y.n) : (srt L).Perm L := by
  obtain ⟨hs, _, hp⟩ := (srt_spec L h).1
  have ex : ∀ (A : Array Gr) (n : Nat), n = A.size → A.extract 0 n = A := by intro A n h; subst h; exact Array.extract_size
  have e1 := ex (stable (ltOf cfU) L.length L.toArray) L.length (by rw [hs]; simp)
  have e2 := ex L.toArray L.length (by simp)
  rw [e1, e2] at hp
  simpa [srt] using hp
theorem srt_len (L : List Gr) (h : L.Pairwise fun x y => x.n < y.n) : (srt L).length = L.length := (srt_perm L h).length_eq
theorem srt_sorted (L : List Gr) (h : L.Pairwise fun x y => x.n < y.n) : (srt L).Pairwise fun x y => x.u < y.u ∨ x.u = y.u ∧ x.n < y.n := by
  have hp := srt_perm L h
  have hnd : (srt L).Pairwise fun x y => x.n ≠ y.n := hp.symm.pairwise (h.imp fun h => by omega) (fun h => Ne.symm h)
  have hS := (srt_spec L h).2
  have hl : (srt L).length = L.length := srt_len L h
  rw [List.pairwise_iff_getElem] at hnd ⊢
  intro i j hi hj hij
  have h1 := hnd i j hi hj hij
  have h2 := hS i j (Nat.zero_le _) hij (by omega)
  have ei : (stable (ltOf cfU) L.length L.toArray)[i]! = (srt L)[i] := by rw [getElem!_pos _ i (by simpa [srt] using hi)]; rfl
  have ej : (stable (ltOf cfU) L.length L.toArray)[j]! = (srt L)[j] := by rw [getElem!_pos _ j (by simpa [srt] using hj)]; rfl
  rw [ei, ej] at h2
  simp only [ltR, decide_eq_false_iff_not] at h2
  omega
/-- What is over at o, in its order; what stays. -/
def goneL (L : List Gr) (o : Int) : List Gr := srt (L.filter fun g => decide (g.u ≤ o))
def restL (L : List Gr) (o : Int) : List Gr := L.filter fun g => !decide (g.u ≤ o)
/-- What stays behind k drops. -/
def dropsTo (L M : List Gr) (k : Nat) : List Gr := L.filter fun x => !(M.take k).any fun y => decide (x.n = y.n)
theorem dropsTo_zero (L M : List Gr) : dropsTo L M 0 = L := by unfold dropsTo; rw [List.filter_eq_self]; intro x _; rfl
theorem dropsTo_succ (L M : List Gr) (k : Nat) (h : k < M.length) : dropL (dropsTo L M k) M[k].n = dropsTo L M (k + 1) := by
  unfold dropL dropsTo
  rw [List.filter_filter]
  refine List.filter_congr fun x _ => ?_
  rw [List.take_succ_eq_append_getElem h, List.any_append]
  simp only [List.any_cons, List.any_nil, Bool.or_false, Bool.not_or]
  rw [Bool.and_comm]
theorem dropsTo_mem {L M : List Gr} (hM : ∀ x ∈ M, x ∈ L) (hn : M.Pairwise fun x y => x.n ≠ y.n) (k : Nat) (h : k < M.length) : M[k] ∈ dropsTo L M k := by
  unfold dropsTo
  refine List.mem_filter.2 ⟨hM _ (List.getElem_mem h), ?_⟩
  have : ((M.take k).any fun y => decide (M[k].n = y.n)) = false := by
    rw [List.any_eq_false]
    intro y hy
    obtain ⟨i, hi, rfl⟩ := List.getElem_of_mem hy
    rw [List.length_take] at hi
    rw [List.getElem_take]
    have := List.pairwise_iff_getElem.1 hn i k (by omega) h (by omega)
    simpa using Ne.symm this
  rw [this]; rfl
theorem look_mem {L : List Gr} (hu : ∀ x ∈ L, ∀ y ∈ L, x.n = y.n → x = y) {g : Gr} (hg : g ∈ L) : lookL L g.n = (g, true) := by
  unfold lookL
  cases hf : L.find? (fun x => decide (x.n = g.n)) with
  | none => have := List.find?_eq_none.1 hf g hg; simp at this
  | some y =>
    have h1 := List.mem_of_find?_eq_some hf
    have h2 : y.n = g.n := by simpa using List.find?_some hf
    rw [hu y h1 g hg h2]
theorem dropsTo_end {L : List Gr} (ho : L.Pairwise fun x y => x.n < y.n) (o : Int) : dropsTo L (goneL L o) (goneL L o).length = restL L o := by
  unfold dropsTo restL
  rw [List.take_length]
  refine List.filter_congr fun x hx => ?_
  have hp := srt_perm (L.filter fun g => decide (g.u ≤ o)) (ho.filter _)
  congr 1
  by_cases h : x.u ≤ o
  · rw [decide_eq_true h]
    exact List.any_eq_true.2 ⟨x, hp.mem_iff.2 (List.mem_filter.2 ⟨hx, decide_eq_true h⟩), by simp⟩
  · rw [decide_eq_false h, List.any_eq_false]
    intro y hy
    have hy2 := List.mem_filter.1 (hp.mem_iff.1 hy)
    intro e
    have := ord_inj ho x hx y hy2.1 (by simpa using e)
    subst this
    exact h (by simpa using hy2.2)
theorem gone_len {L : List Gr} (ho : L.Pairwise fun x y => x.n < y.n) (o : Int) : (goneL L o).length = (L.filter fun g => decide (g.u ≤ o)).length := srt_len _ (ho.filter _)
theorem gone_mem {L : List Gr} (ho : L.Pairwise fun x y => x.n < y.n) (o : Int) : ∀ x ∈ goneL L o, x ∈ L := fun x hx => (List.mem_filter.1 ((srt_perm _ (ho.filter _)).mem_iff.1 hx)).1
theorem gone_ne {L : List Gr} (ho : L.Pairwise fun x y => x.n < y.n) (o : Int) : (goneL L o).Pairwise fun x y => x.n ≠ y.n := (srt_perm _ (ho.filter _)).symm.pairwise ((ho.filter _).imp fun h => by omega) (fun h => Ne.symm h)

/-! ### SortStableFunc -/
theorem own_slice {w : World} {base e sz n : Nat} {v : Value} {xs : List Value} (h : w.ownsRow base e sz v n xs) : ∃ A c, v = .slice A n c := by
  rcases h.2 with ⟨rfl, rfl⟩ | ⟨g, cap, cur, rfl, _⟩
  · exact ⟨none, 0, rfl⟩
  · exact ⟨_, _, rfl⟩
theorem cmpLays (w : World) (blk off n : Nat) : CmpLays Try.prog 25 #[] enc 3 cfU blk off n w := by
  intro m os dk hdk x y
  have e : (#[Value.agg (enc x).toArray, .agg (enc y).toArray] ++ #[] : Array Value) = #[.agg (enc x).toArray, .agg (enc y).toArray] := rfl
  rw [e]
  refine Calls.mono (over2_calls x y _) ?_
  rintro e w' ⟨rfl, rfl⟩
  exact ⟨rfl, 0, #[.cells (enc x).toArray 38 (0, 0), .cells (enc y).toArray 38 (0, 0)], rfl⟩
theorem aggG (w : World) : (isAgg 38).run Try.prog w = .ok true w := aE w
theorem sizeG (w : World) : (Go.sizeOf 38).run Try.prog w = .ok 3 w := zE w
set_option maxHeartbeats 1000000 in
theorem sort_nil (c : Nat) (w : World) : Calls Try.prog 24 #[.slice none 0 c, .func (.func 25) #[] #[]] w fun e w' => e = .returned (.tuple #[]) ∧ w' = w := by
  have hu := Try.underlying34; have mixed := mixed; have t3 := Try.underlying3; have a3 := a3; have z3 := z3; have v3 := v3; have t4 := Try.underlying4
  have hi : ∀ w : World, Calls Try.prog 36 #[.slice none 0 c, .int .i64 0, .int .i64 0, .func (.func 25) #[] #[]] w fun e w' => e = .returned (.tuple #[]) ∧ w' = w := by
    intro w
    go_enter Try.func36, Try.ntmps36
    go_wp2
    go_loopg [8] 1 (fun kx vi wr => vi = .int .i64 1 ∧ wr = w)
    case atStart => exact ⟨by go_num, rfl⟩
    case round =>
      obtain ⟨rfl, rfl⟩ := hrel
      go_wp2
      go_end0
      exact ⟨rfl, rfl⟩
  have hs : ∀ w : World, Calls Try.prog 31 #[.slice none 0 c, .int .i64 0, .func (.func 25) #[] #[]] w fun e w' => e = .returned (.tuple #[]) ∧ w' = w := by
    intro w
    go_enter Try.func31, Try.ntmps31
    go_wp2
    go_loopg [7, 8] 1 (fun kx s7 s8 wr => s7 = .int .i64 0 ∧ s8 = .int .i64 20 ∧ wr = w)
    case atStart => exact ⟨by go_num, by go_num, rfl⟩
    case round =>
      obtain ⟨rfl, rfl, rfl⟩ := hrel
      go_wp2_with (first | (go_at_call 36; refine (hi _).mono ?_; rintro e w' ⟨rfl, rfl⟩))
      go_loopg [6] 1 (fun kx s6 wr => s6 = .int .i64 20 ∧ wr = w')
      case atStart => exact ⟨by go_num, rfl⟩
      case round =>
        obtain ⟨rfl, rfl⟩ := hrel
        go_wp2
        go_end0
        exact ⟨rfl, rfl⟩
  go_enter Try.func24, Try.ntmps24
  go_wp2_with (first | (go_at_call 31; refine (hs _).mono ?_; rintro e w' ⟨rfl, rfl⟩))
  go_end0
  exact ⟨rfl, rfl⟩
theorem srt_nil : srt [] = [] := List.eq_nil_of_length_eq_zero (srt_len [] List.Pairwise.nil)
set_option maxHeartbeats 1000000 in
theorem sort_calls (v : Value) (L : List Gr) (hL : L.Pairwise fun x y => x.n < y.n) (base : Nat) (w : World) (ho : w.ownsRow base 38 3 v L.length (cellsOf L)) (hsz : L.length < 1152921504606846976) :
    Calls Try.prog 24 #[v, .func (.func 25) #[] #[]] w fun e w' => e = .returned (.tuple #[]) ∧ w'.ownsRow base 38 3 v L.length (cellsOf (srt L)) ∧ w.grownBy w' v.ownBlock := by
  rcases ho.2 with ⟨rfl, h0⟩ | ⟨g, cap, cur, rfl, hbg, hh, hnc, hcm, hcs, htake⟩
  · obtain rfl := List.eq_nil_of_length_eq_zero h0
    refine (sort_nil 0 w).mono ?_
    rintro e w' ⟨rfl, rfl⟩
    rw [srt_nil]
    exact ⟨rfl, ho, Fr.grownBy (Fr.refl _ _)⟩
  · have R := rowK_of hh htake
    have hc := stable_calls 3 aggG sizeG enc g 0 cap cfU L.toArray w (cmpLays w g 0 _) R (by simpa using hsz)
    rw [List.size_toArray] at hc
    have hlen := srt_len L hL
    have hu := Try.underlying34; have mixed := mixed; have t3 := Try.underlying3; have a3 := a3; have z3 := z3; have v3 := v3; have t4 := Try.underlying4
    go_enter Try.func24, Try.ntmps24
    go_wp2_with (first | (go_at_call 31; refine hc.mono ?_; rintro e w' ⟨rfl, hS⟩))
    go_end0
    have hS2 : SWK enc 3 w g 0 (srt L).toArray w' := by unfold srt; simpa using hS
    obtain ⟨h1, h2⟩ := own_sorted hlen hbg hh hnc hcm hcs hS2
    exact ⟨rfl, h1, h2⟩

/-! ### Clone -/
set_option maxHeartbeats 2000000 in
set_option maxRecDepth 100000 in
theorem clone_calls (v : Value) (M : List Gr) (base : Nat) (w : World) (ho : w.ownsRow base 38 3 v M.length (cellsOf M)) (hsz : M.length ≤ 1000000) :
    Calls Try.prog 27 #[v] w fun e w' => ∃ v', e = .returned v' ∧ w'.ownsRow w.heap.size 38 3 v' M.length (cellsOf M) ∧ Below w.heap.size w w' := by
  have mixed := mixed; have t4 := Try.underlying4
  have q34 : ∀ (w : World) (a : Option Addr) (n c n' c' : Nat), (binOp .eql 34 (.slice a n c) (.slice none n' c')).run Try.prog w = .ok (.bool a.isNone) w := fun w a n c n' c' => Lib.run_eql_slice_nil w _ _ a n c n' c' Try.underlying34
  obtain ⟨i0, hi, hz0, hz1, hz2⟩ := info_parts infoG
  have t34 := Try.underlying34
  rcases ho.2 with ⟨rfl, h0⟩ | ⟨g, cap, cur, rfl, hbg, hh, hnc, hcm, hcs, htake⟩
  · go_enter Try.func27, Try.ntmps27
    go_wp2
    go_ret
    obtain rfl := List.eq_nil_of_length_eq_zero h0
    exact ⟨_, rfl, World.ownsRow_nil _ _ _ _, Below.refl _ _⟩
  · have A : Aside (∀ j u, (cellsOf M)[j]? = some u → w.cell? ⟨g, j, none⟩ = some u) := fun j u hj => by
      have hj2 : j < M.length * 3 := by rw [← cellsOf_length]; exact (List.getElem?_eq_some_iff.1 hj).1
      rw [← htake, List.getElem?_take_of_lt hj2, Array.getElem?_toList] at hj
      simp only [World.cell?, hh]
      simpa using hj
    clear ho htake hh
    go_enter Try.func27, Try.ntmps27
    go_wp2_with (at_builtin; refine wpList_append_own _ rfl _ _ 34 rfl w.heap.size 38 i0 (.agg #[.int .i64 0, .int .i64 0, .int .u64 0]) 3 24 t34 hi hz0 hz1 hz2 rfl (by decide) _ _ _ rfl (World.ownsRow_made w #[] 0 (Nat.le_refl _) (Nat.zero_le _) rfl) ⟨g, 0, none⟩ M.length cap (cellsOf M) rfl ?qc1 ?qc2 ?qc3 ?qc4 ?qc5 ?qc6 ?_)
    case qc1 => rw [cellsOf_length]
    case qc2 =>
      intro j u hj
      rw [Addr.add_lit]
      refine Lib.cell?_alloc_some _ ?_
      rw [Nat.zero_add]
      exact A.out j u hj
    case qc3 =>
      intro u hu
      obtain ⟨x, _, hx⟩ := List.mem_flatMap.1 hu
      simp only [enc, List.mem_cons, List.not_mem_nil, or_false] at hx
      rcases hx with rfl | rfl | rfl <;> rfl
    case qc4 => unfold maxLen; omega
    case qc5 => omega
    case qc6 => simp
    intro v' w1 hown hgrow hnil
    go_wp2
    go_ret
    refine ⟨v', rfl, by simpa using hown, ?_⟩
    exact ((Below.refl _ w).alloc (Nat.le_refl _) _).grown hgrow (by simp) (by intro k hk; simp [Value.ownBlock] at hk; omega)
end Go.Proofs.Ytjhgdlgdejcmjaa.L
