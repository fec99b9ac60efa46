/- slices.stableCmpFunc and SortStableFunc at []api.Grant, walked. By an AI agent of this work. -/
import Derived.Test.YtjhgdlgdejcmjaaLY
import Derived.Test.YtjhgdlgdejcmjaaLV
import Derived.Deep.Cut
import Derived.Deep.CutRange
import Derived.Deep.CutBlock
import Derived.Deep.DeepCutAuto
namespace Go.Proofs.Ytjhgdlgdejcmjaa.L
open Go.Shelf Go.RowKit Go.Lib Go.Sort
set_option linter.unusedVariables false
set_option linter.unusedSimpArgs false
set_option linter.unusedSectionVars false
section
variable {α : Type} [Inhabited α]
theorem stB_done (lt : α → α → Bool) (n f a : Nat) (d : Array α) (h : ¬ a + 20 ≤ n) : stB lt n f a d = insertionSort lt d a n := by
  cases f with
  | zero => rfl
  | succ f => simp only [stB]; rw [if_neg h]
theorem stB_go (lt : α → α → Bool) (n f a : Nat) (d : Array α) (h : a + 20 ≤ n) : stB lt n (f + 1) a d = stB lt n f (a + 20) (insertionSort lt d a (a + 20)) := by simp only [stB]; rw [if_pos h]
theorem stM_go (lt : α → α → Bool) (n bs f a : Nat) (d : Array α) (h : a + 2 * bs ≤ n) : stM lt n bs (f + 1) a d = stM lt n bs f (a + 2 * bs) (symF lt (2 * bs) a (a + bs) (a + 2 * bs) d) := by simp only [stM]; rw [if_pos h]
theorem stM_done (lt : α → α → Bool) (n bs f a : Nat) (d : Array α) (h : ¬ a + 2 * bs ≤ n) : stM lt n bs (f + 1) a d = if a + bs < n then symF lt (n - a) a (a + bs) n d else d := by simp only [stM]; rw [if_neg h]
theorem stM_end (lt : α → α → Bool) (n bs f a : Nat) (d : Array α) (h : ¬ a + 2 * bs ≤ n) (hf : n - a ≤ f) : stM lt n bs f a d = if a + bs < n then symF lt (n - a) a (a + bs) n d else d := by
  cases f with
  | zero => rw [if_neg (by omega)]; rfl
  | succ f => exact stM_done lt n bs f a d h
theorem stO_go (lt : α → α → Bool) (n f bs : Nat) (d : Array α) (h : bs < n) : stO lt n (f + 1) bs d = stO lt n f (2 * bs) (stM lt n bs (n + 1) 0 d) := by simp only [stO]; rw [if_pos h]
theorem stO_done (lt : α → α → Bool) (n f bs : Nat) (d : Array α) (h : ¬ bs < n) : stO lt n f bs d = d := by
  cases f with
  | zero => rfl
  | succ f => simp only [stO]; rw [if_neg h]
theorem insInner_size (lt : α → α → Bool) (a : Nat) : ∀ (j : Nat) (d : Array α), (insInner lt a j d).size = d.size
  | 0, d => by unfold insInner; rfl
  | j + 1, d => by
    unfold insInner
    split
    · rw [insInner_size lt a j, size_swp]
    · rfl
theorem insOuter_size (lt : α → α → Bool) (a b : Nat) : ∀ (n i : Nat) (d : Array α), b - i = n → a < i → (insOuter lt a b i d).size = d.size
  | 0, i, d, hn, h1 => by rw [insOuter_stop _ _ _ _ _ (by omega)]
  | n + 1, i, d, hn, h1 => by
    rw [insOuter_go _ _ _ _ _ (by omega), insOuter_size lt a b n (i + 1) _ (by omega) (by omega)]
    exact insInner_size lt a i d
theorem ins_size (lt : α → α → Bool) (a b : Nat) (d : Array α) : (insertionSort lt d a b).size = d.size := insOuter_size lt a b _ (a + 1) d rfl (by omega)
set_option maxHeartbeats 8000000 in
set_option maxRecDepth 1000000 in
theorem stable_calls (k : Nat) (aE : ∀ w, (isAgg 38).run Try.prog w = .ok true w) (zE : ∀ w, (Go.sizeOf 38).run Try.prog w = .ok k w) (enc : α → List Value) (blk off cap : Nat) (cf : α → α → Int) (d : Array α) (w : World)
    (hcmp : CmpLays Try.prog 25 #[] enc k cf blk off d.size w) (R : RowK enc k w blk off d) (hsz : d.size < 1152921504606846976) :
    Calls Try.prog 31 #[.slice (some ⟨blk, off, none⟩) d.size cap, .int .i64 d.size, .func (.func 25) #[] #[]] w fun e w' => e = .returned (.tuple #[]) ∧ SWK enc k w blk off (stable (ltOf cf) d.size d) w' := by
  have HC : Aside _ := hcmp
  have S0 : Aside (SWK enc k w blk off d w) := SWK.start R.hH
  have hu := Try.underlying34; have mixed := mixed; have t3 := Try.underlying3; have a3 := a3; have z3 := z3; have v3 := v3; have t4 := Try.underlying4
  have HSZ : Hid (stO (ltOf cf) d.size (d.size + 1) 20 (stB (ltOf cf) d.size (d.size + 1) 0 d) = stable (ltOf cf) d.size d) := rfl
  clear hcmp
  go_enter Try.func31, Try.ntmps31
  go_upto_block 0 with (fail)
  go_cut [7] (fun s7 wc => ∃ (a : Nat) (dk : Array α), s7 = .int .i64 a ∧ a ≤ d.size ∧ dk.size = d.size ∧ Aside (SWK enc k w blk off dk wc) ∧ Hid (insertionSort (ltOf cf) dk a d.size = stB (ltOf cf) d.size (d.size + 1) 0 d))
  case first =>
    go_wp2_with fail
    go_loopg [7, 8] (d.size + 1) (fun kx s7 s8 wr => ∃ (a : Nat) (z : Int) (dk : Array α), s7 = .int .i64 a ∧ s8 = .int .i64 z ∧ z = a + 20 ∧ a ≤ d.size ∧ d.size - a ≤ kx ∧ dk.size = d.size ∧ Aside (SWK enc k w blk off dk wr) ∧ Hid (stB (ltOf cf) d.size kx a dk = stB (ltOf cf) d.size (d.size + 1) 0 d))
    case atStart => exact ⟨0, _, d, by go_num, rfl, by omega, Nat.zero_le _, by omega, rfl, S0, rfl⟩
    case round =>
      clear S0
      obtain ⟨a, z, dk, rfl, rfl, ez, ha, hkx, hdk, S1, HE⟩ := hrel
      obtain rfl := ez
      by_cases hlt : a + 20 ≤ d.size
      · have hltz : (a : Int) + 20 ≤ (d.size : Int) := by omega
        cases gk with
        | zero => omega
        | succ kx =>
        go_wp2_with (first | (go_at_call 36; refine Calls.mono (ins_calls k aE zE enc blk off cap a (a + 20) _ _ rfl (by omega) cf d dk w _ (by rw [hdk]; exact HC.out) R hdk.symm S1.out (by omega) (by omega) (by omega) _ hdk.symm) ?_; rintro e w' ⟨rfl, S2⟩))
        go_roundg kx
        case measure => omega
        case rel =>
          have h := HE.out
          rw [stB_go _ _ _ _ _ hlt] at h
          exact ⟨a + 20, _, _, by go_num, rfl, by omega, hlt, by omega, by rw [ins_size]; exact hdk, S2, h⟩
      · have hltz : ¬ (a : Int) + 20 ≤ (d.size : Int) := by omega
        go_wp2_with fail
        go_meet
        have h := HE.out
        rw [stB_done _ _ _ _ _ hlt] at h
        case rel => exact ⟨a, dk, rfl, ha, hdk, S1, h⟩
  case rest =>
    clear S0
    obtain ⟨a, dk, rfl, ha, hdk, S1, HE⟩ := hcut
    go_wp2_with (first | (go_at_call 36; refine Calls.mono (ins_calls k aE zE enc blk off cap a d.size _ _ rfl rfl cf d dk w _ (by rw [hdk]; exact HC.out) R hdk.symm S1.out (by omega) (by omega) (by omega) _ hdk.symm) ?_; rintro e w' ⟨rfl, S2⟩))
    have S3 : Aside (SWK enc k w blk off (stB (ltOf cf) d.size (d.size + 1) 0 d) w') := (by rw [← HE.out]; exact S2)
    have hdb : (stB (ltOf cf) d.size (d.size + 1) 0 d).size = d.size := (by rw [← HE.out, ins_size]; exact hdk)
    clear S2 S1 HE
    go_loopg [6] (d.size + 1) (fun kx s6 wr => ∃ (bs : Nat) (dk : Array α), s6 = .int .i64 bs ∧ 20 ≤ bs ∧ d.size ≤ bs + kx ∧ dk.size = d.size ∧ Aside (SWK enc k w blk off dk wr) ∧ Hid (stO (ltOf cf) d.size kx bs dk = stable (ltOf cf) d.size d))
    case atStart => exact ⟨20, _, by first | rfl | go_num, Nat.le_refl _, by omega, hdb, S3, HSZ⟩
    case round =>
      clear S3 HSZ hdb
      obtain ⟨bs, dj, rfl, hbs, hk2, hdj, S1, HO⟩ := hrel
      by_cases hlt : bs < d.size
      · have hltz : (bs : Int) < (d.size : Int) := by omega
        cases gk with
        | zero => omega
        | succ kx =>
        have HO2 : Hid (stO (ltOf cf) d.size kx (2 * bs) (stM (ltOf cf) d.size bs (d.size + 1) 0 dj) = stable (ltOf cf) d.size d) := (by have h := HO.out; rw [stO_go _ _ _ _ _ hlt] at h; exact h)
        clear HO
        go_wp2_with fail
        go_loopg [7, 8] (d.size + 1) (fun ky s7 s8 wr => ∃ (x : Nat) (z : Int) (dk : Array α), s7 = .int .i64 x ∧ s8 = .int .i64 z ∧ z = x + 2 * bs ∧ x ≤ d.size ∧ d.size - x ≤ ky ∧ dk.size = d.size ∧ Aside (SWK enc k w blk off dk wr) ∧ Hid (stM (ltOf cf) d.size bs ky x dk = stM (ltOf cf) d.size bs (d.size + 1) 0 dj))
        case atStart => exact ⟨0, _, dj, by first | rfl | go_num, by first | rfl | go_num, by omega, Nat.zero_le _, by omega, hdj, S1, rfl⟩
        case round =>
          clear S1
          obtain ⟨x, z, dm, rfl, rfl, ez, hx, hky, hdm, S1, HM⟩ := hrel
          by_cases hlx : x + 2 * bs ≤ d.size
          · have hlxz : (x : Int) + 2 * (bs : Int) ≤ (d.size : Int) := by omega
            cases gk with
            | zero => omega
            | succ ky =>
            go_wp2_with (first | (go_at_call 37; refine Calls.mono (sym_calls k aE zE enc blk off cap cf d w HC.out R (by omega) (2 * bs) x (x + bs) (x + 2 * bs) _ _ _ rfl (by omega) (by omega) dm _ hdm.symm S1.out (by omega) (by omega) (by omega) (by omega) _ hdm.symm) ?_; rintro e w' ⟨rfl, S2⟩))
            go_roundg ky
            case measure => omega
            case rel =>
              have h := HM.out
              rw [stM_go _ _ _ _ _ _ hlx] at h
              exact ⟨x + 2 * bs, _, _, by first | rfl | go_num, by first | rfl | go_num, by omega, hlx, by omega, by rw [symF_size]; exact hdm, S2, h⟩
          · have hlxz : ¬ (x : Int) + 2 * (bs : Int) ≤ (d.size : Int) := by omega
            have hM2 : Hid ((if x + bs < d.size then symF (ltOf cf) (d.size - x) x (x + bs) d.size dm else dm) = stM (ltOf cf) d.size bs (d.size + 1) 0 dj) := (by have h := HM.out; exact (stM_end _ _ _ _ _ _ hlx (by omega)).symm.trans h)
            clear HM
            by_cases hm : x + bs < d.size
            · have hmz : (x : Int) + (bs : Int) < (d.size : Int) := by omega
              go_wp2_with (first | (go_at_call 37; refine Calls.mono (sym_calls k aE zE enc blk off cap cf d w HC.out R (by omega) (d.size - x) x (x + bs) d.size _ _ _ rfl (by omega) rfl dm _ hdm.symm S1.out (by omega) (by omega) (by omega) (by omega) _ hdm.symm) ?_; rintro e w' ⟨rfl, S2⟩))
              go_roundg kx
              case measure => omega
              case rel =>
                have h := hM2.out
                rw [if_pos hm] at h
                exact ⟨2 * bs, _, by first | rfl | go_num, by omega, by omega, by rw [← h, symF_size]; exact hdm, (by rw [← h]; exact S2), HO2⟩
            · have hmz : ¬ (x : Int) + (bs : Int) < (d.size : Int) := by omega
              go_wp2_with fail
              go_roundg kx
              case measure => omega
              case rel =>
                have h := hM2.out
                rw [if_neg hm] at h
                exact ⟨2 * bs, _, by first | rfl | go_num, by omega, by omega, by rw [← h]; exact hdm, (by rw [← h]; exact S1), HO2⟩
      · have hltz : ¬ (bs : Int) < (d.size : Int) := by omega
        go_wp2_with fail
        go_end0
        refine ⟨rfl, ?_⟩
        have h := HO.out
        rw [stO_done _ _ _ _ _ hlt] at h
        rw [← h]
        exact S1.out
end
end Go.Proofs.Ytjhgdlgdejcmjaa.L
