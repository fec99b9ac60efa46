/- LeaseNumbers, walked. By an AI agent of this work. -/
import Derived.Test.YtjhgdlgdejcmjaaLR
import Derived.Test.YtjhgdlgdejcmjaaQx2
namespace Go.Proofs.Ytjhgdlgdejcmjaa.L
open Go.Shelf Go.RowKit Go.Lib Go.Sort Go.Maps Go.Proofs.Ytjhgdlgdejcmjaa.Q Go.Proofs.YtjhgdlgdejcmjaaW.PrintWords Go.Proofs.YtjhgdlgdejcmjaaW.PrintLast Go.Proofs.YtjhgdlgdejcmjaaW.PrintMore
set_option linter.unusedVariables false
set_option linter.unusedSimpArgs false
set_option linter.unusedSectionVars false
/-- Drop, in one word. -/
theorem drop_any (w : World) {b ba bo : Nat} {n : Int} {L : List Gr} (T : TB w b ba bo n L) (k : Int) (hk : (Lit.int .i64 k).wf = true) :
    Calls Try.prog 8 #[.pointer (some ⟨b, 0, none⟩), .int .i64 k] w fun e w' => e = .returned (.tuple #[.int .i64 (lookL L k).1.j, .bool (lookL L k).2]) ∧ TB w' b ba bo n (dropL L k) ∧ Fr (fun k => k = b ∨ k = ba ∨ k = bo) w w' := by
  cases h : (lookL L k).2 with
  | true =>
    have e : lookL L k = ((lookL L k).1, true) := by rw [← h]
    refine Calls.mono (drop_some w T k hk _ e) ?_
    rintro e w' ⟨rfl, h2⟩
    exact ⟨rfl, h2⟩
  | false =>
    refine Calls.mono (drop_none w T k hk h) ?_
    rintro e w' ⟨rfl, hb⟩
    have hf : L.find? (fun g => decide (g.n = k)) = none := by
      unfold lookL at h
      cases hf : L.find? (fun g => decide (g.n = k)) with
      | none => rfl
      | some g => rw [hf] at h; cases h
    have e0 : (lookL L k).1.j = 0 := by unfold lookL; rw [hf]
    have ed : dropL L k = L := by
      unfold dropL
      rw [List.filter_eq_self]
      intro x hx
      have := List.find?_eq_none.1 hf x hx
      simpa using this
    rw [e0, ed]
    exact ⟨rfl, T.kept (Fr.of_below (S := fun _ => False) hb) id id id, Fr.of_below hb⟩
theorem mod_calls (a m : Int) (h0 : 0 < m) (hm : m ≤ 1000000) (w : World) : Calls Try.prog 9 #[.int .i64 a, .int .i64 m] w fun e w' => ∃ r, 0 ≤ r ∧ r < m ∧ e = .returned (.int .i64 r) ∧ Below w.heap.size w w' := by
  have hlt := Int.tmod_lt_of_pos a h0
  have hgt : -m < Int.tmod a m := by
    have h1 := Int.tmod_lt_of_pos (-a) h0
    rw [Int.neg_tmod] at h1
    omega
  by_cases hn : Int.tmod a m < 0
  · have hw : wrap64 (Int.tmod a m + m) = Int.tmod a m + m := IntWalk.wrap64_in _ (by omega)
    refine Calls.mono (remontoirkeep_Mod.calls a m (Int.tmod a m + m) w (by unfold remontoirkeep_Mod.f; rw [if_neg (by omega), if_pos hn, hw])) ?_
    rintro e w' ⟨rfl, hd⟩
    exact ⟨_, by omega, by omega, rfl, hd.below⟩
  · refine Calls.mono (remontoirkeep_Mod.calls a m (Int.tmod a m) w (by unfold remontoirkeep_Mod.f; rw [if_neg (by omega), if_neg hn])) ?_
    rintro e w' ⟨rfl, hd⟩
    exact ⟨_, by omega, by omega, rfl, hd.below⟩
theorem ofL_fresh {L : List Gr} {i : Int} (h : ∀ x ∈ L, 0 ≤ x.j ∧ x.j < i) : (ofL L i).2 = false := by
  unfold ofL
  cases hf : L.find? (fun g => decide (g.j = i)) with
  | none => rfl
  | some y =>
    have h1 := h y (List.mem_of_find?_eq_some hf)
    have h2 : y.j = i := by simpa using List.find?_some hf
    omega
theorem lookL_none {L : List Gr} {n k : Int} (h : ∀ x ∈ L, 1 ≤ x.n ∧ x.n ≤ n) (hk : ¬ (1 ≤ k ∧ k ≤ n)) : lookL L k = (⟨0, 0, 0⟩, false) := by
  unfold lookL
  cases hf : L.find? (fun g => decide (g.n = k)) with
  | none => rfl
  | some y =>
    have h1 := h y (List.mem_of_find?_eq_some hf)
    have h2 : y.n = k := by simpa using List.find?_some hf
    omega
theorem jobs_snoc {L : List Gr} {i n u : Int} (h : ∀ x ∈ L, 0 ≤ x.j ∧ x.j < i) (hi : 0 ≤ i) : ∀ x ∈ L ++ [⟨n, i, u⟩], 0 ≤ x.j ∧ x.j < i + 1 := by
  intro x hx
  rcases List.mem_append.1 hx with hx | hx
  · have := h x hx; omega
  · rw [List.mem_singleton] at hx; subst hx; exact ⟨hi, by show i < i + 1; omega⟩
/-- The three cells of an element of a row that lies below. -/
def Acts (w : World) (A : Option Addr) (l : List S38) : Prop := Kd.C k38 w A l.length l ∧ ∀ x ∈ l, (Lit.int .i64 x.f0).wf = true ∧ (Lit.int .i64 x.f1).wf = true ∧ (Lit.int .u64 x.f2).wf = true
theorem Acts.at {w : World} {A : Option Addr} {l : List S38} (h : Acts w A l) {i : Nat} (hi : i < l.length) : ∃ (ad : Addr) (x : S38), A = some ad ∧ ((Lit.int .i64 x.f0).wf = true ∧ (Lit.int .i64 x.f1).wf = true ∧ (Lit.int .u64 x.f2).wf = true) ∧
    ∀ w', Below w.heap.size w w' → w'.cell? (ad.add (i * 3)) = some (.int .i64 x.f0) ∧ w'.cell? ⟨(ad.add (i * 3)).block, (ad.add (i * 3)).off + 1, none⟩ = some (.int .i64 x.f1) ∧ w'.cell? ⟨(ad.add (i * 3)).block, (ad.add (i * 3)).off + 2, none⟩ = some (.int .u64 x.f2) := by
  obtain ⟨ad, e, h0, h1, h2⟩ := at_T38 h.1 (i : Int) (by omega) (by omega)
  simp only [Int.toNat_natCast] at h0 h1 h2
  have hx : rd_T38 l (i : Int) = l[i] := by simp [rd_T38, hi]
  rw [hx] at h0 h1 h2
  exact ⟨ad, l[i], e, h.2 _ (List.getElem_mem hi), fun w' hb => ⟨(hb.cell (World.block_lt_of_cell? w _ h0)).trans h0, (hb.cell (World.block_lt_of_cell? w _ h1)).trans h1, (hb.cell (World.block_lt_of_cell? w _ h2)).trans h2⟩⟩
set_option maxHeartbeats 8000000 in
set_option maxRecDepth 100000 in
theorem numbers_calls (A : Option Addr) (c : Nat) (l : List S38) (number : Int) (hnum : (Lit.int .i64 number).wf = true) (w : World) (hl : Acts w A l) (hc : l.length ≤ c) :
    Calls Try.prog 3 #[.slice A l.length c, .int .i64 number] w fun e w' => e = .returned (.bool true) ∧ Below w.heap.size w w' := by
  have HL : Aside (Acts w A l) := hl
  have hm : l.length ≤ 9223372036854775807 := hl.1.2.1
  clear hl
  have hu := Try.underlying38
  have hu34 := Try.underlying34
  go_enter Try.func3, Try.ntmps3
  go_wp2_with (first
    | (go_at_call 6; refine Calls.mono (new_calls _) ?_; rintro e w1 ⟨rfl, T1, b1⟩))
  obtain ⟨b, hb⟩ : ∃ b, b = w.heap.size + 2 := ⟨_, rfl⟩
  obtain ⟨ba, hba⟩ : ∃ b, b = w.heap.size := ⟨_, rfl⟩
  obtain ⟨bo, hbo⟩ : ∃ b, b = w.heap.size + 1 := ⟨_, rfl⟩
  have HS : Aside (∀ j, (j = b ∨ j = ba ∨ j = bo) → w.heap.size ≤ j) := fun j hj => by omega
  have TT : Aside (TB w1 b ba bo (0 : Nat) []) := (by rw [hb, hba, hbo]; exact T1)
  have BB : Aside (Below w.heap.size w w1) := b1
  rw [← hb]
  clear hb hba hbo T1 b1
  go_loopg [6, 7] 40 (fun kx s6 s7 wr => ∃ (i : Nat) (L : List Gr), s6 = .int .i64 i ∧ s7 = .int .i64 i ∧ i ≤ 40 ∧ 40 - i ≤ kx ∧ i ≤ l.length ∧ Aside (TB wr b ba bo i L) ∧ Aside (∀ x ∈ L, 0 ≤ x.j ∧ x.j < (i : Int)) ∧ Aside (Below w.heap.size w wr))
  case atStart => exact ⟨0, [], by go_num, by go_num, by omega, by omega, Nat.zero_le _, TT, (fun x (hx : x ∈ []) => absurd hx List.not_mem_nil : ∀ x ∈ ([] : List Gr), 0 ≤ x.j ∧ x.j < ((0 : Nat) : Int)), BB⟩
  case round =>
    clear TT BB
    obtain ⟨i, L, rfl, rfl, hi, hkx, hil, T1, J1, B1⟩ := hrel
    by_cases hc2 : i < l.length ∧ i < 40
    · obtain ⟨h1, h2⟩ := hc2
      have z1 : (i : Int) < (l.length : Int) := by omega
      have z2 : (i : Int) < 40 := by omega
      obtain ⟨ad, x, rfl, ⟨wx0, wx1, wx2⟩, hx⟩ := HL.out.at h1
      have HX : Aside _ := hx
      obtain ⟨c0, c1, c2⟩ := hx _ B1.out
      clear hx
      have gr := grant_new wr T1.out i x.f2 (WalkArith.wf_i64 (by omega)) wx2 (ofL_fresh J1.out) (by omega)
      cases gk with
      | zero => omega
      | succ kx =>
      by_cases hd : x.f0.tmod 2 = 0
      · go_wp2_with (first
          | (go_at_call 7; refine Calls.mono gr ?_; rintro e w2 ⟨rfl, T2, F2⟩; have B2 : Aside (Below w.heap.size w w2) := F2.below B1.out HS.out; obtain ⟨d0, d1, d2⟩ := HX.out _ B2.out)
          | (go_at_call 9; refine Calls.mono (mod_calls _ _ (by omega) (by omega) _) ?_; rintro e w3 ⟨r, hr0, hr1, rfl, b3⟩)
          | (go_at_call 8; refine Calls.mono (drop_any w3 (T2.kept (Fr.of_below (S := fun _ => False) b3) id id id) (1 + r) (WalkArith.wf_i64 (by omega))) ?_; rintro e w4 ⟨rfl, T4, F4⟩))
        go_roundg kx
        case measure => omega
        case rel => exact ⟨i + 1, _, by go_num, by go_num, by omega, by omega, by omega, T4, (fun y (hy : y ∈ dropL _ _) => jobs_snoc J1.out (by omega) y (List.mem_filter.1 hy).1), F4.below (below_step B2.out b3) HS.out⟩
      · go_wp2_with (first
          | (go_at_call 7; refine Calls.mono gr ?_; rintro e w2 ⟨rfl, T2, F2⟩; have B2 : Aside (Below w.heap.size w w2) := F2.below B1.out HS.out; obtain ⟨d0, d1, d2⟩ := HX.out _ B2.out)
          | (go_at_call 10; refine Calls.mono (over_calls _ T2 _) ?_; rintro e w4 ⟨v, rfl, ho, T4, F4⟩))
        go_roundg kx
        case measure => omega
        case rel => exact ⟨i + 1, _, by go_num, by go_num, by omega, by omega, by omega, T4, (fun y (hy : y ∈ restL _ _) => jobs_snoc J1.out (by omega) y (List.mem_filter.1 hy).1), F4.below B2.out HS.out⟩
    · have hz : (¬ (i : Int) < (l.length : Int)) ∨ ((i : Int) < (l.length : Int) ∧ ¬ (i : Int) < 40) := by omega
      rcases hz with z1 | ⟨z1, z2⟩
      all_goals
        by_cases hn : 1 ≤ number ∧ number ≤ (i : Int)
        · obtain ⟨n1, n2⟩ := hn
          go_wp2_with (first | (go_at_call 11; refine Calls.mono (wakes_calls _) ?_; rintro e w5 ⟨rfl, b5⟩))
          go_ret
          exact ⟨rfl, below_step B1.out b5⟩
        · have hlk := lookL_none T1.out.rng hn
          have lk := look_calls wr T1.out number hnum
          rw [hlk] at lk
          have HK : Aside ((lookL L number).2 = false) := congrArg Prod.snd hlk
          clear hlk
          rcases (by omega : ¬ 1 ≤ number ∨ (1 ≤ number ∧ ¬ number ≤ (i : Int))) with n1 | ⟨n1, n2⟩
          all_goals
            clear hn
            go_wp2_with (first
              | (go_at_call 12; refine Calls.mono lk ?_; rintro e w2 ⟨rfl, b2⟩; have T2 := T1.out.kept (Fr.of_below (S := fun _ => False) b2) id id id)
              | (go_at_call 8; refine Calls.mono (drop_none _ (T2.kept (Fr.alloc (Fr.refl (fun _ => False) _) _) id id id) number hnum HK.out) ?_; rintro e w3 ⟨rfl, b3⟩; have q3 := (b3.block w2.heap.size (by simp)).trans (heap_new _ _); have q0 : w3.cell? ⟨w2.heap.size, 0, none⟩ = some (.int .i64 0) := (by simp [World.cell?, q3]); have q1 : w3.cell? ⟨w2.heap.size, 1, none⟩ = some (.int .i64 0) := (by simp [World.cell?, q3]); have q2 : w3.cell? ⟨w2.heap.size, 2, none⟩ = some (.int .u64 0) := (by simp [World.cell?, q3]); clear q3)
              | (go_at_call 11; refine Calls.mono (wakes_calls _) ?_; rintro e w5 ⟨rfl, b5⟩))
            go_ret
            exact ⟨rfl, below_step (below_step ((below_step B1.out b2).alloc (below_step B1.out b2).size _) b3) b5⟩
end Go.Proofs.Ytjhgdlgdejcmjaa.L
