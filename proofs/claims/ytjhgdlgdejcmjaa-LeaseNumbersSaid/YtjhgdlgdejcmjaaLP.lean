/- Over, walked. By an AI agent of this work. -/
import Derived.Test.YtjhgdlgdejcmjaaLO
namespace Go.Proofs.Ytjhgdlgdejcmjaa.L
open Go.Shelf Go.RowKit Go.Lib Go.Sort Go.Maps Go.Proofs.Ytjhgdlgdejcmjaa.Q Go.Proofs.YtjhgdlgdejcmjaaW.PrintWords Go.Proofs.YtjhgdlgdejcmjaaW.PrintLast Go.Proofs.YtjhgdlgdejcmjaaW.PrintMore
set_option linter.unusedVariables false
set_option linter.unusedSimpArgs false
set_option linter.unusedSectionVars false
/-- The sorted row of leases, seen over a slice of known shape. -/
def OR (w : World) (A : Option Addr) (L : List Gr) : Prop := L = [] ∨ ∃ g cur, A = some ⟨g, 0, none⟩ ∧ w.heap[g]? = some (.cells cur 38 (0, 0)) ∧ cur.toList.take (L.length * 3) = cellsOf L
theorem OR.of_own {w : World} {base n c : Nat} {A : Option Addr} {L : List Gr} (hl : L.length = n) (h : w.ownsRow base 38 3 (.slice A n c) n (cellsOf L)) : OR w A L := by
  rcases h.2 with ⟨e, h0⟩ | ⟨g, cap, cur, e, hbg, hh, hnc, hcm, hcs, htake⟩
  · exact .inl (List.eq_nil_of_length_eq_zero (hl.trans h0))
  · injection e with e1 e2 e3
    exact .inr ⟨g, cur, e1, hh, by rw [hl]; exact htake⟩
theorem OR.cell {w : World} {A : Option Addr} {L : List Gr} (h : OR w A L) {k : Nat} (hk : k < L.length) : ∃ g, A = some ⟨g, 0, none⟩ ∧ ∀ j u, (enc L[k]!)[j]? = some u → w.cell? ⟨g, k * 3 + j, none⟩ = some u := by
  rcases h with rfl | ⟨g, cur, e, hh, ht⟩
  · exact absurd hk (Nat.not_lt_zero _)
  · refine ⟨g, e, fun j u hj => ?_⟩
    have hj3 : j < 3 := (List.getElem?_eq_some_iff.1 hj).1
    have h1 : (cur.toList.take (L.length * 3))[k * 3 + j]? = (cellsOf L)[k * 3 + j]? := by rw [ht]
    rw [List.getElem?_take_of_lt (by omega), Array.getElem?_toList, cellsOf_get L _ (by omega), show (k * 3 + j) / 3 = k by omega, show (k * 3 + j) % 3 = j by omega] at h1
    simp only [World.cell?, hh]
    have h2 : (enc L[k]!)[j]! = u := by rw [List.getElem!_eq_getElem?_getD, hj]; rfl
    rw [h2] at h1
    simpa using h1
theorem own_base {w : World} {base e sz n : Nat} {v : Value} {xs : List Value} (h : w.ownsRow base e sz v n xs) : ∀ k, v.ownBlock = some k → base ≤ k := by
  intro k hk
  rcases h.2 with ⟨rfl, _⟩ | ⟨g, cap, cur, rfl, hb, _⟩
  · cases hk
  · simp only [Value.ownBlock, Option.some.injEq] at hk
    subst hk; exact hb
theorem own_lower {w : World} {base base' e sz n : Nat} {v : Value} {xs : List Value} (h : w.ownsRow base e sz v n xs) (hb : base' ≤ base) : w.ownsRow base' e sz v n xs := by
  refine ⟨h.1, ?_⟩
  rcases h.2 with h0 | ⟨g, cap, cur, rfl, h1, h2⟩
  · exact .inl h0
  · exact .inr ⟨g, cap, cur, rfl, Nat.le_trans hb h1, h2⟩
theorem own_kept {S : Nat → Prop} {w w1 : World} {base e sz n : Nat} {v : Value} {xs : List Value} (h : w.ownsRow base e sz v n xs) (f : Fr S w w1) (hS : ∀ k, base ≤ k → ¬ S k) : w1.ownsRow base e sz v n xs := by
  refine ⟨h.1, ?_⟩
  rcases h.2 with h0 | ⟨g, cap, cur, rfl, h1, h2, h3⟩
  · exact .inl h0
  · exact .inr ⟨g, cap, cur, rfl, h1, (f.block g (Array.getElem?_eq_some_iff.1 h2).1 (hS g h1)).trans h2, h3⟩
theorem three {w : World} {g k : Nat} {x : Gr} (h : ∀ j u, (enc x)[j]? = some u → w.cell? ⟨g, k * 3 + j, none⟩ = some u) : w.cell? ⟨g, k * 3, none⟩ = some (.int .i64 x.n) ∧ w.cell? ⟨g, k * 3 + 1, none⟩ = some (.int .i64 x.j) ∧ w.cell? ⟨g, k * 3 + 2, none⟩ = some (.int .u64 x.u) := ⟨h 0 _ rfl, h 1 _ rfl, h 2 _ rfl⟩
set_option maxHeartbeats 8000000 in
set_option maxRecDepth 100000 in
theorem over_calls (w : World) {b ba bo : Nat} {n : Int} {L : List Gr} (T : TB w b ba bo n L) (o : Int) :
    Calls Try.prog 10 #[.pointer (some ⟨b, 0, none⟩), .int .u64 o] w fun e w' => ∃ v, e = .returned v ∧ w'.ownsRow w.heap.size 38 3 v (goneL L o).length (cellsOf (goneL L o)) ∧ TB w' b ba bo n (restL L o) ∧ Fr (fun k => k = b ∨ k = ba ∨ k = bo) w w' := by
  obtain ⟨w0, hw0⟩ : ∃ x, x = w.alloc (.cells #[.int .u64 o] 28) := ⟨_, rfl⟩
  have B0 : Below w.heap.size w w0 := by rw [hw0]; exact (Below.refl _ _).alloc (Nat.le_refl _) _
  have N0 : w0.heap[w.heap.size]? = some (nblk o) := by rw [hw0]; exact heap_new _ _
  have S0 : w0.heap.size = w.heap.size + 1 := by rw [hw0]; simp
  have T0 := T.kept (Fr.of_below (S := fun _ => False) B0) id id id
  obtain ⟨l1, l2, l3⟩ := T.lt
  have hLn : L.length ≤ 1000000 := by
    obtain ⟨D, m, hown, hes, hm⟩ := T.m1
    have h1 := hes.size
    have h2 := hown.size_le
    have := T.top
    omega
  have hfl : (L.filter fun g => decide (g.u ≤ o)).length ≤ 1000000 := Nat.le_trans (List.length_filter_le _ _) hLn
  obtain ⟨L2, hL2⟩ : ∃ x, x = L.filter fun g => decide (g.u ≤ o) := ⟨_, rfl⟩
  obtain ⟨M, hM⟩ : ∃ x, x = goneL L o := ⟨_, rfl⟩
  have O2 : Aside (L2.Pairwise fun x y => x.n < y.n) := (by rw [hL2]; exact T.ord.filter _)
  have hlen : M.length = L2.length := by rw [hM, hL2]; exact gone_len T.ord o
  have hMs : M = srt L2 := by rw [hM, hL2]; rfl
  have hMm : ∀ x ∈ M, x ∈ L := by rw [hM]; exact gone_mem T.ord o
  have hMn : M.Pairwise fun x y => x.n ≠ y.n := by rw [hM]; exact gone_ne T.ord o
  have hME : dropsTo L M M.length = restL L o := by rw [hM]; exact dropsTo_end T.ord o
  have hwf : ∀ x ∈ M, (Lit.int .i64 x.n).wf = true := fun x hx => (T.wf x (hMm x hx)).1
  have HK : Aside (((L.map toS).filter (keepsO o)).map ofS = L2) := (by rw [hL2]; exact ofS_keeps o L)
  rw [← hL2] at hfl
  rw [← hM]
  have HS : Aside _ := hMs
  have HMm : Aside _ := hMm
  have HMn : Aside _ := hMn
  have HME : Aside _ := hME
  have HWF : Aside _ := hwf
  have HLN : Aside (M.length = L2.length) := hlen
  have hMl : M.length ≤ 1000000 := by omega
  have hLb : L2.length ≤ 1000000 := hfl
  have hu := Try.underlying38
  have hu34 := Try.underlying34
  have HT : Aside (TB w b ba bo n L) := T
  have HT0 : Aside (TB w0 b ba bo n L) := T0
  have HN0 : Aside _ := N0
  have HB0 : Aside (Below w.heap.size w w0) := B0
  clear T T0 N0 B0 hL2 hM hMs hMm hMn hME hwf hLn hfl hlen
  go_enter Try.func10, Try.ntmps10
  go_wp2_with (first
    | (go_at_call 14; rw [← hw0]; refine Calls.mono (list_calls w0 HT0.out) ?_; rintro e w1 ⟨v1, rfl, ho1, hb1⟩)
    | (go_at_call 22; refine Calls.mono (delete_calls v1 (L.map toS) o w.heap.size (fun k => k ≠ w.heap.size) w0 w1 hb1 (R_of_own ho1 (fun k hk => by have := own_base ho1 k hk; omega)) (blk_below HN0.out hb1) (fun k h => h)) ?_; rintro e w2 ⟨v2, rfl, hR2, hb2⟩; have ho2 := own_of_R hR2; rw [HK.out] at ho2; clear hR2 ho1 hb1; obtain ⟨A, c, rfl⟩ := own_slice ho2)
    | (go_at_call 24; refine Calls.mono (sort_calls _ L2 O2.out w0.heap.size w2 ho2 (by have := HLN.out; omega)) ?_; rintro e w3 ⟨rfl, ho3, hg3⟩; rw [← HS.out] at ho3; have hb3 := hb2.grown hg3 hb2.size (fun k hk => own_base ho2 k hk); clear ho2 hg3 hb2))
  have HB3 : Aside (Below w0.heap.size w0 w3) := hb3
  have HO3 : Aside (w3.ownsRow w0.heap.size 38 3 (.slice A L2.length c) L2.length (cellsOf M)) := ho3
  have HR3 : Aside (OR w3 A M) := OR.of_own HLN.out ho3
  have T3 : Aside (TB w3 b ba bo n (dropsTo L M 0)) := (by rw [dropsTo_zero]; exact HT0.out.kept (Fr.of_below (S := fun _ => False) HB3.out) id id id)
  clear hb3 ho3
  go_loopg [16] L2.length (fun kx s16 wr => ∃ k : Nat, s16 = .int .i64 k ∧ k ≤ L2.length ∧ L2.length - k ≤ kx ∧ Aside (TB wr b ba bo n (dropsTo L M k)) ∧ Aside (Fr (fun k => k = b ∨ k = ba ∨ k = bo) w3 wr))
  case atStart => exact ⟨0, by go_num, Nat.zero_le _, Nat.le_refl _, T3, Fr.refl _ _⟩
  case round =>
    clear T3
    obtain ⟨k, rfl, hk, hkx, T4, F4⟩ := hrel
    have hS : Aside (∀ j, w0.heap.size ≤ j → ¬ (j = b ∨ j = ba ∨ j = bo)) := fun j hj hh => by omega
    have HO4 : Aside (wr.ownsRow w0.heap.size 38 3 (.slice A L2.length c) L2.length (cellsOf M)) := own_kept HO3.out F4.out hS.out
    by_cases hlt : k < L2.length
    · have hltz : (k : Int) < (L2.length : Int) := by omega
      have hkM : k < M.length := by rw [HLN.out]; exact hlt
      obtain ⟨g, rfl, hcells⟩ := (OR.of_own HLN.out HO4.out).cell hkM
      obtain ⟨x, hx⟩ : ∃ x, x = M[k] := ⟨_, rfl⟩
      rw [getElem!_pos M k hkM, ← hx] at hcells
      obtain ⟨c0, c1, c2⟩ := three hcells
      have hxm : x ∈ dropsTo L M k := by rw [hx]; exact dropsTo_mem HMm.out HMn.out k hkM
      have HX : Aside (lookL (dropsTo L M k) x.n = (x, true)) := look_mem T4.out.num hxm
      have HD : Aside (dropL (dropsTo L M k) x.n = dropsTo L M (k + 1)) := (by rw [hx]; exact dropsTo_succ L M k hkM)
      have hwx : Aside ((Lit.int .i64 x.n).wf = true) := HWF.out x (by rw [hx]; exact List.getElem_mem _)
      clear hx hxm hcells hkM
      go_wp2_with (first
        | (go_at_call 8; refine Calls.mono (drop_some _ (T4.out.kept (Fr.alloc (Fr.refl (fun _ => False) _) _) id id id) x.n hwx.out x HX.out) ?_; rintro e w4 ⟨rfl, T5, F5⟩; rw [HD.out] at T5))
      go_roundg (L2.length - (k + 1))
      case measure => omega
      case rel => exact ⟨k + 1, by go_num, by omega, Nat.le_refl _, T5, (F4.out.alloc _).trans F5⟩
    · have hltz : ¬ (k : Int) < (L2.length : Int) := by omega
      obtain rfl : k = L2.length := by omega
      go_wp2_with (first
        | (go_at_call 27; refine Calls.mono (clone_calls _ M w0.heap.size wr (by rw [HLN.out]; exact HO4.out) hMl) ?_; rintro e w5 ⟨v5, rfl, ho5, hb5⟩))
      go_ret
      have FA : Fr (fun k => k = b ∨ k = ba ∨ k = bo) w wr := ((Fr.of_below HB0.out).trans (Fr.of_below HB3.out)).trans F4.out
      have FB : Fr (fun k => k = b ∨ k = ba ∨ k = bo) w w5 := FA.trans (Fr.of_below hb5)
      refine ⟨v5, rfl, own_lower ho5 FA.size, ?_, FB⟩
      have T6 := T4.out.kept (Fr.of_below (S := fun _ => False) hb5) id id id
      rw [← HLN.out, HME.out] at T6
      exact T6
end Go.Proofs.Ytjhgdlgdejcmjaa.L
