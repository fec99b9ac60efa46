/- maps.Keys and slices.Sorted at the table's map (the kit's contracts); List, walked. By an AI agent of this work. -/
import Derived.Test.YtjhgdlgdejcmjaaLU
import Derived.Test.YtjhgdlgdejcmjaaShelf
import Derived.Maps.AppendAt
import Derived.Deep.LoopGhost
namespace Go.Proofs.Ytjhgdlgdejcmjaa.L
open Go.Shelf Go.RowKit Go.Lib Go.Maps
set_option linter.unusedVariables false
set_option linter.unusedSimpArgs false
set_option linter.unusedSectionVars false
abbrev FK : Value := .func (.func 35) #[] #[]
theorem sortsA (m : Nat) : AnyZI.SortsIn Try.prog Try.sortedA_ren Fence.wide m :=
  ⟨fun blk off cap ss W hH hblk hsz => callsIn_wide.2 (AnyM.slices_Sort_int Try.sortA blk off cap ss W hH hblk hsz),
   fun p cap W => callsIn_wide.2 (AnyM.slices_Sort_int_none Try.sortA p cap W)⟩
theorem keys_calls (ba : Nat) (w : World) : Calls Try.prog 29 #[.map (some ba)] w fun e w' =>
    e = .returned (.func (.func 35) #[] #[.pointer (some ⟨w.heap.size, 0, none⟩)]) ∧ w' = w.alloc (.cells #[.map (some ba)] 55) :=
  (callsIn_wide (n := 5)).1 (AnyZI.keys_in Try.keysA Fence.wide 5 trivial rfl (some ba) w)
theorem sorted_calls {H : Type} (ba nn : Nat) (D : DataW H) (R : Value → Option (DataW H × List MemPlace)) (w : World) (hown : w.ownsMap Try.prog 3 R ba nn D) (hmax : Maps.size D ≤ maxLen) (hbytes : Maps.size D * 8 ≤ 140737488355328) :
    Calls Try.prog 28 #[.func (.func 35) #[] #[.pointer (some ⟨w.heap.size, 0, none⟩)]] (w.alloc (.cells #[.map (some ba)] 55)) fun e w' =>
      ∃ (v : Value) (ss : List Int), e = .returned v ∧ ss.Perm (intKeys D) ∧ w'.ownsRow (w.heap.size + 1) 3 1 v ss.length ((ss.mergeSort (fun x y => decide (x ≤ y))).map encZ) ∧ (v = .slice none 0 0 ↔ ss = []) ∧ Below w.heap.size w w' := by
  have hbl := hown.lt
  have hseq : SeqGives Fence.wide 2 Try.prog 35 #[.pointer (some ⟨w.heap.size, 0, none⟩)] encZ (fun ss => ss.Perm (intKeys D)) (Maps.size D) (w.alloc (.cells #[.map (some ba)] 55)) :=
    AnyZI.keys_gives (ρ := Try.keysA_ren) { Try.keysA with } Fence.wide _ trivial rfl (by omega) w.heap.size ba nn D _ (by simp) (by simp) (by
      obtain ⟨es, clock, hb, Ft, hs, hD⟩ := hown
      exact ⟨es, clock, (Below.heap_alloc _ _ ba hbl).trans hb, Ft, hs, hD⟩)
  have cS := AnyZI.sorted_in Try.sortedA Fence.wide 5 trivial trivial trivial trivial rfl (by omega) (sortsA _) (enters_of Try.func34 (by kernel_rfl) rfl) 35 #[.pointer (some ⟨w.heap.size, 0, none⟩)] trivial (enters_of Try.func35 (by kernel_rfl) rfl) _ _ hmax hbytes _ hseq
  change CallsIn _ _ Try.prog 28 _ _ _ at cS
  refine ((callsIn_wide (n := 5)).1 cS).mono ?_
  rintro e w' ⟨v, ss, rfl, hS, hrow, hnil, hb⟩
  have hs1 : (w.alloc (.cells #[.map (some ba)] 55)).heap.size = w.heap.size + 1 := by simp
  rw [hs1] at hrow hb
  exact ⟨v, ss, rfl, hS, hrow, hnil, ((Below.refl _ w).alloc (Nat.le_refl _) _).trans (hb.mono (by omega))⟩
/-- The leases' cells, one behind the other. -/
def cellsOf (L : List Gr) : List Value := L.flatMap enc
theorem cellsOf_length (L : List Gr) : (cellsOf L).length = L.length * 3 := by
  induction L with
  | nil => rfl
  | cons a L ih => unfold cellsOf at *; rw [List.flatMap_cons, List.length_append, ih, List.length_cons]; simp [enc]; omega
theorem cellsOf_snoc (L : List Gr) (g : Gr) : cellsOf (L ++ [g]) = cellsOf L ++ [.int .i64 g.n, .int .i64 g.j, .int .u64 g.u] := by unfold cellsOf; rw [List.flatMap_append]; rfl
theorem sort_ord {L : List Gr} {ss : List Int} (h : ss.Perm (L.map (ky true))) (ho : L.Pairwise fun x y => x.n < y.n) : ss.mergeSort (fun x y => decide (x ≤ y)) = L.map (fun g => g.n) := by
  have e := mergeSort_of_perm_i h
  have e2 : (L.map (ky true)).mergeSort leI = L.map (ky true) := List.mergeSort_of_pairwise (by
    rw [List.pairwise_map]
    exact ho.imp fun {a b} hab => by simp only [leI, ky, if_true, decide_eq_true_eq]; omega)
  rw [e2] at e
  exact e
/-- What List leaves: a new row that holds the leases. -/
def GRow (base : Nat) (L : List Gr) (w : World) (e : Ending) (w' : World) : Prop := ∃ v, e = .returned v ∧ w'.ownsRow base 38 3 v L.length (cellsOf L) ∧ Below w.heap.size w w'
theorem infoG : (Try.prog.info? 38).map (fun i => (i.zero, i.size, i.bytes)) = some (some (.agg #[.int .i64 0, .int .i64 0, .int .u64 0]), 3, 24) := by kernel_rfl
theorem cell_three_new (w : World) (x y z : Value) (t : TypeId) : ∀ j u, [x, y, z][j]? = some u → (w.alloc (.cells #[x, y, z] t)).cell? ((⟨w.heap.size, 0, none⟩ : Addr).add j) = some u := by
  intro j u hj
  match j, hj with
  | 0, hj => simp at hj; subst hj; simp [Addr.add]
  | 1, hj => simp at hj; subst hj; simp [Addr.add]
  | 2, hj => simp at hj; subst hj; simp [Addr.add]
theorem wpList_lookup_G {H : Type} {P : Program} (w : World) {ops : Array Oper} {rest : List Oper} {o : Oper} {a : Act} {Q : Exit → Act → World → Prop}
    (hg : o.guard = none) (m x : Operand) (t : TypeId) (hop : o.op = Op.lookup t m x false)
    (k e : TypeId) (K : Keyed P k) (ht : P.underlying t = some (.map k e)) (R : Value → Option (DataW H × List MemPlace)) {z : Value} (hz : (zeroValue e).run P w = .ok z w) (zd : DataW H) (zp : List MemPlace) (hzd : R z = some (zd, zp)) (b n : Nat) (D : DataW H)
    (hm : a.eval m = .map (some b)) (hown : w.ownsMap P k R b n D) (key : Value) (kl : Lit) (hx : a.eval x = key) (hkey : keyOf P k key = some kl)
    (hK : ∀ v ps, R v = some (D.atKey kl zd, ps) → wpList P ops Q rest (a.put o.dst v) w) :
    wpList P ops Q (o :: rest) a w := by
  refine wpList_plain hg fun K' hK' => ?_
  obtain ⟨v, ps, hrun, hv⟩ := hown.lookup K ht hz hzd hkey
  unfold Oper.wp
  simp [execOp, hop, hm, hx, hrun, Result.andThen]
  exact hK' _ _ (hK v ps hv)
/-- The sorted numbers, in a row of another type than the leases'. -/
def SR (w : World) (A : Option Addr) (L : List Gr) : Prop := L = [] ∨ ∃ g cur, A = some ⟨g, 0, none⟩ ∧ w.heap[g]? = some (.cells cur 3 (0, 0)) ∧ ∀ i, i < L.length → cur[i]? = some (.int .i64 L[i]!.n)
theorem SR.below {w w1 : World} {A : Option Addr} {L : List Gr} (h : SR w A L) (hb : Below w.heap.size w w1) : SR w1 A L := by
  rcases h with h | ⟨g, cur, e, hg, hc⟩
  · exact .inl h
  · exact .inr ⟨g, cur, e, (hb.block g (Array.getElem?_eq_some_iff.1 hg).1).trans hg, hc⟩
theorem SR.grown {w w1 : World} {A : Option Addr} {L : List Gr} (h : SR w A L) {base n : Nat} {v : Value} {xs : List Value} (ho : w.ownsRow base 38 3 v n xs) (hg1 : w.grownBy w1 v.ownBlock) : SR w1 A L := by
  rcases h with h | ⟨g, cur, e, hg, hc⟩
  · exact .inl h
  · refine .inr ⟨g, cur, e, (hg1.block g (Array.getElem?_eq_some_iff.1 hg).1 (fun e2 => ?_)).trans hg, hc⟩
    rcases ho.2 with ⟨rfl, _⟩ | ⟨g2, cap, cur2, rfl, _, hh, _⟩
    · cases e2
    · simp only [Value.ownBlock, Option.some.injEq] at e2
      subst e2
      rw [hg] at hh
      simp at hh
theorem sortedL_calls (w : World) {b ba bo : Nat} {n : Int} {L : List Gr} (T : TB w b ba bo n L) :
    Calls Try.prog 28 #[.func (.func 35) #[] #[.pointer (some ⟨w.heap.size, 0, none⟩)]] (w.alloc (.cells #[.map (some ba)] 55)) fun e w' =>
      ∃ (A : Option Addr) (c : Nat), e = .returned (.slice A L.length c) ∧ SR w' A L ∧ Below w.heap.size w w' := by
  obtain ⟨D, m, hown, hes, hm⟩ := T.m1
  have hsz := hes.size
  have hle := hown.size_le
  have htop := T.top
  refine (sorted_calls ba m D RG w hown (by unfold maxLen; omega) (by omega)).mono ?_
  rintro e w' ⟨v, ss, rfl, hS, hrow, hnil, hb⟩
  have hp := hS.trans hes.keys
  have hlen : ss.length = L.length := by have := hp.length_eq; simpa using this
  rw [sort_ord hp T.ord, hlen] at hrow
  rcases hrow.2 with ⟨rfl, h0⟩ | ⟨g, cap, cur, rfl, hbg, hh, hnc, hcm, hcs, htake⟩
  · exact ⟨none, 0, by rw [h0], .inl (List.eq_nil_of_length_eq_zero h0), hb⟩
  · refine ⟨_, _, rfl, .inr ⟨g, cur, rfl, hh, fun i hi => ?_⟩, hb⟩
    have : (cur.toList.take (L.length * 1))[i]? = ((L.map (fun g => g.n)).map encZ)[i]? := by rw [htake]
    rw [List.getElem?_take_of_lt (by omega), Array.getElem?_toList] at this
    rw [this, List.getElem?_map, List.getElem?_map, List.getElem?_eq_getElem hi, getElem!_pos L i hi]
    rfl
set_option maxHeartbeats 4000000 in
set_option maxRecDepth 100000 in
theorem list_calls (w : World) {b ba bo : Nat} {n : Int} {L : List Gr} (T : TB w b ba bo n L) :
    Calls Try.prog 14 #[.pointer (some ⟨b, 0, none⟩)] w (GRow w.heap.size L w) := by
  have htop := T.top
  have hLn : (L.length : Int) ≤ 1000000 := by
    obtain ⟨D, m, hown, hes, hm⟩ := T.m1
    have h1 := hes.size
    have h2 := hown.size_le
    omega
  have T0 : Aside _ := T

  obtain ⟨c0, c1, c2, f0⟩ := T.cells
  have hlt := T.lt.1
  obtain ⟨i0, hi, hz0, hz1, hz2⟩ := info_parts infoG
  have hu := Try.underlying58
  have hu2 := Try.underlying38
  have hu3 := Try.underlying65
  have hu4 := Try.underlying34
  go_enter Try.func14, Try.ntmps14
  go_wp2_with (first
    | (go_at_call 29; refine (keys_calls ba _).mono ?_; rintro e w' ⟨rfl, rfl⟩)
    | (go_at_call 28; refine (sortedL_calls w T0.out).mono ?_; rintro e w1 ⟨A, c, rfl, hS, hb⟩))
  have S0 : Aside (SR w1 A L) := hS
  have B0 : Aside (Below w.heap.size w w1) := hb
  clear hS hb c0 c1 c2 f0
  go_loopg [3, 15] L.length (fun kx s3 s15 wr => ∃ k : Nat, s15 = .int .i64 k ∧ k ≤ L.length ∧ L.length - k ≤ kx ∧ Aside (wr.ownsRow w.heap.size 38 3 s3 k (cellsOf (L.take k))) ∧ Aside (Below w.heap.size w wr) ∧ Aside (SR wr A L))
  case atStart => exact ⟨0, by go_num, Nat.zero_le _, Nat.le_refl _, World.ownsRow_nil _ _ _ _, B0, S0⟩
  case round =>
    clear B0 S0
    obtain ⟨k, rfl, hk, hkx, HO, HB, HS⟩ := hrel
    by_cases hlt2 : k < L.length
    · have hltz : (k : Int) < (L.length : Int) := by omega
      obtain ⟨x, hx⟩ : ∃ x, x = L[k]! := ⟨_, rfl⟩
      have hxm : x ∈ L := by rw [hx, getElem!_pos L k hlt2]; exact List.getElem_mem _
      obtain ⟨g, cur, rfl, hg, hc⟩ : ∃ g cur, A = some ⟨g, 0, none⟩ ∧ wr.heap[g]? = some (.cells cur 3 (0, 0)) ∧ cur[k]? = some (.int .i64 x.n) := by
        rcases HS.out with h | ⟨g, cur, e, hg, hc⟩
        · rw [h] at hlt2; exact absurd hlt2 (Nat.not_lt_zero _)
        · exact ⟨g, cur, e, hg, by rw [hx]; exact hc k hlt2⟩
      have hcell : wr.cell? ⟨g, k, none⟩ = some (.int .i64 x.n) := by simp [World.cell?, hg, hc]
      have T1 := T0.out.kept (Fr.of_below (S := fun _ => False) HB.out) id id id
      obtain ⟨c0, c1, c2, f0⟩ := T1.cells
      obtain ⟨D, m, hown, hes, hm⟩ := T1.m1
      have hat := hes.at (fun x hx y hy e => T0.out.num x hx y hy e) hxm (dat ⟨0, 0, 0⟩)
      simp only [ky, En, if_true] at hat
      have HA : Aside _ := hat
      have hwx := (T0.out.wf x hxm).1
      have htk : L.take (k + 1) = L.take k ++ [x] := by rw [List.take_succ_eq_append_getElem hlt2, hx, getElem!_pos L k hlt2]
      have HT : Aside _ := htk
      have hsz := HB.out.size
      clear hat htk T1 hx hg hc hxm hes
      go_wp2_with (first
        | (at_lookup; refine wpList_lookup_G _ rfl _ _ 55 rfl 3 38 law3 Try.underlying55 RG (zeroG _) (dat ⟨0, 0, 0⟩) [] rfl ba m D rfl hown _ _ rfl (keyOf_int_mk Try.underlying3 hwx) ?_; intro v ps hv; rw [HA.out] at hv; obtain rfl := RG_inv hv; clear hv)
        | (at_builtin; refine wpList_append_own_at _ rfl _ _ 34 rfl w.heap.size 38 i0 (.agg #[.int .i64 0, .int .i64 0, .int .u64 0]) 3 24 Try.underlying34 hi hz0 hz1 hz2 rfl (by decide) u3 _ _ rfl (HO.out.alloc _) ⟨wr.heap.size, 0, none⟩ 1 1 [.int .i64 x.n, .int .i64 x.j, .int .u64 x.u] rfl rfl (cell_three_new _ _ _ _ _) (by simp [Value.oneCell']) (by unfold maxLen; omega) (by omega) (by simp; omega) ?_; intro v' w1 hown' hgrow hnil hloc))
      go_roundg (L.length - (k + 1))
      case measure => omega
      case rel =>
        refine ⟨k + 1, by go_num, by omega, Nat.le_refl _, ?_, ?_, ?_⟩
        · rw [HT.out, cellsOf_snoc]; exact hown'
        · refine (HB.out.alloc hsz _).grown hgrow (by simp; omega) (fun j hj => ?_)
          rcases HO.out.2 with ⟨rfl, _⟩ | ⟨g2, cap, cur2, rfl, hbg, _⟩
          · cases hj
          · have hgj : g2 = j := by simpa [Value.ownBlock] using hj
            omega
        · exact (HS.out.below ((Below.refl _ _).alloc (Nat.le_refl _) _)).grown (HO.out.alloc _) hgrow
    · have hltz : ¬ (k : Int) < (L.length : Int) := by omega
      obtain rfl : k = L.length := by omega
      go_wp2
      go_ret
      refine ⟨_, rfl, ?_, HB.out⟩
      have := HO.out
      rwa [List.take_length] at this
end Go.Proofs.Ytjhgdlgdejcmjaa.L
