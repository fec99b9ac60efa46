/- Plain laws, part I: what Jobs is; equal lists of numbers compare equal. By an AI agent of this work. -/
import Derived.Test.YtflnkchpfbcgiaaGreatDoorPC
import Derived.Test.YtflnkchpfbcgiaaGreatDoorQx11
namespace Go.Proofs.YtflnkchpfbcgiaaGreatDoor.Q
open Go.RowKit Go.Proofs.YtflnkchpfbcgiaaGreatDoorW.PrintWords Go.Proofs.YtflnkchpfbcgiaaGreatDoorW.PrintLast Go.Proofs.YtflnkchpfbcgiaaGreatDoorW.PrintMore
set_option linter.unusedVariables false
set_option linter.unusedSimpArgs false

/-! ### What Jobs is: its members, in order, each once -/
theorem compact_props (d : Array Int) (hs : ∀ i j, i < j → j < d.size → d[i]! ≤ d[j]!) : ∀ m, m ≤ d.size → (Lib.compactUpTo d m).Pairwise (· < ·) ∧ (∀ x, x ∈ Lib.compactUpTo d m ↔ ∃ j, j < m ∧ d[j]! = x)
  | 0, _ => ⟨by simp [Lib.compactUpTo], fun x => by simp [Lib.compactUpTo]⟩
  | m + 1, h => by
    obtain ⟨ih1, ih2⟩ := compact_props d hs m (by omega)
    rw [Lib.compactUpTo_succ]
    by_cases hk : Lib.keeps d m = true
    · rw [if_pos hk]
      have hlt : ∀ x, x ∈ Lib.compactUpTo d m → x < d[m]! := by
        intro x hx
        obtain ⟨j, hj, rfl⟩ := (ih2 x).1 hx
        unfold Lib.keeps at hk
        rw [decide_eq_true_iff] at hk
        rcases hk with rfl | hk
        · omega
        · have h1 := hs (m - 1) m (by omega) (by omega)
          have h2 : d[j]! ≤ d[m - 1]! := by
            rcases Nat.lt_or_ge j (m - 1) with h3 | h3
            · exact hs j (m - 1) h3 (by omega)
            · have : j = m - 1 := by omega
              rw [this]; exact Int.le_refl _
          omega
      refine ⟨?_, fun x => ?_⟩
      · rw [List.pairwise_append]
        refine ⟨ih1, by simp, fun x hx y hy => ?_⟩
        rw [List.mem_singleton] at hy
        subst hy
        exact hlt x hx
      · rw [List.mem_append, ih2, List.mem_singleton]
        constructor
        · rintro (⟨j, hj, hx⟩ | hx)
          · exact ⟨j, by omega, hx⟩
          · exact ⟨m, by omega, hx.symm⟩
        · rintro ⟨j, hj, hx⟩
          rcases Nat.lt_or_ge j m with h3 | h3
          · exact .inl ⟨j, h3, hx⟩
          · have : j = m := by omega
            subst this
            exact .inr hx.symm
    · rw [if_neg hk, List.append_nil]
      refine ⟨ih1, fun x => ?_⟩
      rw [ih2]
      unfold Lib.keeps at hk
      rw [decide_eq_true_iff] at hk
      constructor
      · rintro ⟨j, hj, hx⟩; exact ⟨j, by omega, hx⟩
      · rintro ⟨j, hj, hx⟩
        rcases Nat.lt_or_ge j m with h3 | h3
        · exact ⟨j, h3, hx⟩
        · have hjm : j = m := by omega
          subst hjm
          have h0 : j ≠ 0 := fun e => hk (.inl e)
          have h4 : d[j]! = d[j - 1]! := Classical.byContradiction fun e => hk (.inr e)
          exact ⟨j - 1, by omega, by rw [← h4]; exact hx⟩
theorem sorted_compact (L : List Int) : (Lib.compact (L.mergeSort fun x y => decide (x ≤ y))).Pairwise (· < ·) ∧ (∀ x, x ∈ Lib.compact (L.mergeSort fun x y => decide (x ≤ y)) ↔ x ∈ L) := by
  have hp := List.pairwise_mergeSort (le := fun (x y : Int) => decide (x ≤ y)) (by intro a b c h1 h2; simp at h1 h2 ⊢; omega) (by intro a b; simp; omega) L
  have hperm := List.mergeSort_perm L (fun (x y : Int) => decide (x ≤ y))
  obtain ⟨S, hS⟩ : ∃ S, L.mergeSort (fun x y => decide (x ≤ y)) = S := ⟨_, rfl⟩
  rw [hS] at hp hperm ⊢
  have hs : ∀ i j, i < j → j < S.toArray.size → S.toArray[i]! ≤ S.toArray[j]! := by
    intro i j hij hj
    have hj' : j < S.length := by simpa using hj
    rw [getElem!_pos S.toArray i (by simp; omega), getElem!_pos S.toArray j hj]
    have := List.pairwise_iff_getElem.1 hp i j (by omega) hj' hij
    simpa using this
  obtain ⟨h1, h2⟩ := compact_props S.toArray hs S.length (by simp)
  refine ⟨h1, fun x => ?_⟩
  rw [← hperm.mem_iff]
  refine (h2 x).trans ⟨?_, ?_⟩
  · rintro ⟨j, hj, rfl⟩
    rw [getElem!_pos S.toArray j (by simpa using hj)]
    simp
  · intro hx
    obtain ⟨j, hj, rfl⟩ := List.getElem_of_mem hx
    exact ⟨j, hj, by rw [getElem!_pos S.toArray j (by simpa using hj)]; simp⟩
theorem strict_ext {a b : List Int} (ha : a.Pairwise (· < ·)) (hb : b.Pairwise (· < ·)) (h : ∀ x, x ∈ a ↔ x ∈ b) : a = b := by
  have na : a.Nodup := ha.imp (fun h => by omega)
  have nb : b.Nodup := hb.imp (fun h => by omega)
  exact List.Perm.eq_of_pairwise (le := (· < ·)) (fun x y _ _ h1 h2 => by omega) ha hb ((List.perm_ext_iff_of_nodup na nb).2 h)
theorem jobsV_strict (l : List S48) : (jobsV l).Pairwise (· < ·) := (sorted_compact _).1
theorem jobsV_mem (l : List S48) (x : Int) : x ∈ jobsV l ↔ x ∈ (keptL 1 l).map (·.f1) := (sorted_compact _).2 x
theorem jobsV_len (l : List S48) : (jobsV l).length ≤ l.length := by
  have hn : (jobsV l).Nodup := (jobsV_strict l).imp (fun h => by omega)
  have h1 : (jobsV l).length ≤ ((keptL 1 l).map (·.f1)).length := List.Nodup.length_le_of_subset hn (fun x hx => (jobsV_mem l x).1 hx)
  have h2 := keptL_length 1 l
  rw [List.length_map] at h1
  omega
theorem keptL_snoc (kind : Int) (l : List S48) (x : S48) : keptL kind (l ++ [x]) = keptStep kind (keptL kind l) x := by
  unfold keptL
  rw [List.foldl_append]; rfl
theorem keptL_away (kind : Int) (hk : ¬ (3 : Int) = kind) (l : List S48) (tok : Int) : keptL kind (l ++ [⟨3, tok, 0, 0, 0⟩]) = (keptL kind l).filter (keepsO tok) := by
  rw [keptL_snoc]
  exact keptStep_away hk rfl
/-! ### Equal lists of numbers -/
theorem ints_same (l : List Int) (hl : l.length < 1000000) : ∀ n j : Nat, l.length - j = n → Ev (fun k => remontoirkeep_Ints.l0 k l l (j : Int)) true := by
  intro n
  induction n with
  | zero => intro j hn; exact Ev.step (fun k => remontoirkeep_Ints.l0.eq_2 _ _ _ _) (Ev.neg (by omega) (Ev.const rfl))
  | succ n ih =>
    intro j hn
    have hw : wrap64 ((j : Int) + 1) = ((j + 1 : Nat) : Int) := by rw [wrap_in (by omega) (by omega)]; omega
    refine Ev.step (fun k => remontoirkeep_Ints.l0.eq_2 _ _ _ _) (Ev.pos (by omega) (Ev.pos (by omega) (Ev.pos (by omega) (Ev.pos rfl ?_))))
    rw [hw]
    exact ih (j + 1) (by omega)
theorem ints_eq (l l' : List Int) (h : l = l') (hl : l.length < 1000000) : Ev (fun k => remontoirkeep_Ints.f k l l') true := by
  subst h
  exact Ev.congr (fun k => by unfold remontoirkeep_Ints.f; rfl) (Ev.pos rfl (ints_same l hl l.length 0 (by omega)))
theorem wakes_tail2 : Ev (fun k => (remontoirlaw27_wakes.f k).bind fun t => some t) true := Ev.bind wakes_ev (Ev.const rfl)
end Go.Proofs.YtflnkchpfbcgiaaGreatDoor.Q
