/- slices.SortStableFunc's parts, walked (3): symMerge. By an AI agent of this work (written by its program gen_sort.py). -/
import Derived.Test.YtjhgdlgdejcmjaaLYa
import Derived.Deep.Cut
import Derived.Deep.CutRange
import Derived.Deep.CutBlock
import Derived.Deep.DeepCutAuto
namespace Go.Proofs.Ytjhgdlgdejcmjaa.L
open Go.Shelf Go.RowKit Go.Lib Go.Sort
set_option linter.unusedVariables false
set_option linter.unusedSectionVars false
set_option linter.unusedSimpArgs false
variable {α : Type} [Inhabited α]

set_option maxHeartbeats 8000000 in
set_option maxRecDepth 1000000 in
theorem sym_b (k : Nat) (aE : ∀ w, (isAgg 38).run Try.prog w = .ok true w) (zE : ∀ w, (Go.sizeOf 38).run Try.prog w = .ok k w) (enc : α → List Value) (blk off cap : Nat) (cf : α → α → Int) (d0 : Array α) (w0 : World)
    (hcmp : CmpLays Try.prog 25 #[] enc k cf blk off d0.size w0) (R : RowK enc k w0 blk off d0) (hsz : d0.size < 4611686018427387904) (n : Nat) (ih : ∀ (a m b : Nat) (za zm zb : Int) (ea : za = a) (em : zm = m) (eb : zb = b) (d : Array α) (w : World) (hs : d0.size = d.size) (S : SWK enc k w0 blk off d w)
    (h1 : a < m) (h2 : m < b) (h3 : b ≤ d.size) (hn : b - a ≤ n + 1) (N : Nat) (hN : N = d.size), Calls Try.prog 37 #[.slice (some ⟨blk, off, none⟩) N cap, .int .i64 za, .int .i64 zm, .int .i64 zb, .func (.func 25) #[] #[]] w fun e w' => e = .returned (.tuple #[]) ∧ SWK enc k w0 blk off (symF (ltOf cf) n a m b d) w') (a m b : Nat) (za zm zb : Int) (ea : za = a) (em : zm = m) (eb : zb = b) (d : Array α) (w : World) (hs : d0.size = d.size) (S : SWK enc k w0 blk off d w)
    (h1 : a < m) (h2 : m < b) (h3 : b ≤ d.size) (hn : b - a ≤ (n + 1) + 1) (N : Nat) (hN : N = d.size) (e1 : ¬ m - a = 1) (e2 : b - m = 1) :
    Calls Try.prog 37 #[.slice (some ⟨blk, off, none⟩) N cap, .int .i64 za, .int .i64 zm, .int .i64 zb, .func (.func 25) #[] #[]] w fun e w' => e = .returned (.tuple #[]) ∧ SWK enc k w0 blk off (symF (ltOf cf) (n + 1) a m b d) w' := by
  subst ea em eb hN
  have IH : Aside _ := ih
  have HC : Aside _ := hcmp
  have S0 : Aside (SWK enc k w0 blk off d w) := S
  clear S hcmp ih
  have hsz : d.size < 4611686018427387904 := by omega
  have hu := Try.underlying34; have mixed := mixed; have t3 := Try.underlying3; have a3 := a3; have z3 := z3; have v3 := v3; have t4 := Try.underlying4; have eg : ∀ args w, (callFunc 25 args).run Try.prog w = .ok (.enter 25 args) w := enters_of Try.func25 (by kernel_rfl) rfl
  go_enter Try.func37, Try.ntmps37
  have t1 : ((m : Int) - (a : Int) == 1) = false := by simp; omega
  have t2 : ((b : Int) - (m : Int) == 1) = true := by simp; omega
  go_wp2
  go_loopg [14, 15] (m - a) (fun kx s14 s15 wr => ∃ (i j : Nat), s14 = .int .i64 i ∧ s15 = .int .i64 j ∧ a ≤ i ∧ i ≤ j ∧ j ≤ m ∧ j - i ≤ kx ∧ Aside (SWK enc k w0 blk off d wr) ∧ Hid (bsr (fun h => !ltOf cf d[m]! d[h]!) kx i j = bsr (fun h => !ltOf cf d[m]! d[h]!) (m - a) a m))
  case atStart => exact ⟨a, m, by first | rfl | (congr 1; omega), by first | rfl | (congr 1; omega), Nat.le_refl _, by omega, Nat.le_refl _, Nat.le_refl _, S0, rfl⟩
  case round =>
    clear S0
    obtain ⟨i, j, rfl, rfl, hli, hij, hjh, hkx, S1, HE⟩ := hrel
    by_cases hlt : i < j
    · as_aux_lemma =>
        have hltz : (i : Int) < (j : Int) := by omega
        cases gk with
        | zero => omega
        | succ kx =>
        go_wp2_with fail
        obtain ⟨h, hh⟩ : ∃ h : Nat, h = (i + j) / 2 := ⟨_, rfl⟩
        have hz : ((i : Int) + (j : Int)) / 2 = (h : Int) := by omega
        rw [hz]
        clear hz
        have hhj : i ≤ h ∧ h < j := by omega
        obtain ⟨hh1, hh2⟩ := hhj
        have HH : Hid (h = (i + j) / 2) := hh
        clear hh
        cases hL : ltOf cf d[m]! d[h]! with
        | true =>
          have ea8 : ((m : Int)).toNat = m := by omega
          have pa8 : (0 : Int) ≤ (m : Int) := by omega
          have ba8 : (m : Int) < (d.size : Int) := by omega
          have ra8 : IntKind.i64.wrap ((m : Int)) = (m : Int) := by rw [IntKind.wrap_i64]; omega
          have ec8 : ((h : Int)).toNat = h := by omega
          have pc8 : (0 : Int) ≤ (h : Int) := by omega
          have bc8 : (h : Int) < (d.size : Int) := by omega
          have rc8 : IntKind.i64.wrap ((h : Int)) = (h : Int) := by rw [IntKind.wrap_i64]; omega
          obtain ⟨x8, hx8⟩ : ∃ x, x = d[m]! := ⟨_, rfl⟩
          obtain ⟨y8, hy8⟩ : ∃ x, x = d[h]! := ⟨_, rfl⟩
          have l8a := S1.out.ld R (by omega) Try.prog (m) (by omega)
          have l8b := S1.out.ld R (by omega) Try.prog (h) (by omega)
          rw [← hx8] at l8a
          rw [← hy8] at l8b
          have hc8 := cmpE S1.out HC.out (by omega) x8 y8
          have hv8 : cf x8 y8 < 0 := by rw [hx8, hy8]; exact of_decide_eq_true hL
          have hd8 : decide (cf x8 y8 < 0) = true := decide_eq_true hv8
          clear hx8 hy8
          go_wp2_with fail
          go_quiet_grown (first | (go_at_fn 25; refine Calls.grown_of (hc8 _ _)))
          have S2 : Aside (SWK enc k w0 blk off d (grow (wr.drewN nq) osq)) := S1.out.grown nq osq
          clear l8a l8b hc8 S1
          generalize grow (wr.drewN nq) osq = w2 at S2 ⊢
          clear nq osq
          have HQ : Hid _ := hL
          clear hL
          go_wp2
          go_roundg kx
          case measure => omega
          case rel =>
            have hE := HE.out
            simp only [bsr] at hE
            rw [if_pos hlt, ← HH.out] at hE
            have hq := HQ.out
            rw [if_neg (show ¬ _ = true from by simpa using hq)] at hE
            exact ⟨i, h, by first | rfl | go_num, by first | rfl | go_num, by omega, by omega, by omega, by omega, S2, hE⟩
        | false =>
          have ea9 : ((m : Int)).toNat = m := by omega
          have pa9 : (0 : Int) ≤ (m : Int) := by omega
          have ba9 : (m : Int) < (d.size : Int) := by omega
          have ra9 : IntKind.i64.wrap ((m : Int)) = (m : Int) := by rw [IntKind.wrap_i64]; omega
          have ec9 : ((h : Int)).toNat = h := by omega
          have pc9 : (0 : Int) ≤ (h : Int) := by omega
          have bc9 : (h : Int) < (d.size : Int) := by omega
          have rc9 : IntKind.i64.wrap ((h : Int)) = (h : Int) := by rw [IntKind.wrap_i64]; omega
          obtain ⟨x9, hx9⟩ : ∃ x, x = d[m]! := ⟨_, rfl⟩
          obtain ⟨y9, hy9⟩ : ∃ x, x = d[h]! := ⟨_, rfl⟩
          have l9a := S1.out.ld R (by omega) Try.prog (m) (by omega)
          have l9b := S1.out.ld R (by omega) Try.prog (h) (by omega)
          rw [← hx9] at l9a
          rw [← hy9] at l9b
          have hc9 := cmpE S1.out HC.out (by omega) x9 y9
          have hv9 : ¬ cf x9 y9 < 0 := by rw [hx9, hy9]; exact of_decide_eq_false hL
          have hd9 : decide (cf x9 y9 < 0) = false := decide_eq_false hv9
          clear hx9 hy9
          go_wp2_with fail
          go_quiet_grown (first | (go_at_fn 25; refine Calls.grown_of (hc9 _ _)))
          have S2 : Aside (SWK enc k w0 blk off d (grow (wr.drewN nq) osq)) := S1.out.grown nq osq
          clear l9a l9b hc9 S1
          generalize grow (wr.drewN nq) osq = w2 at S2 ⊢
          clear nq osq
          have HQ : Hid _ := hL
          clear hL
          go_wp2
          go_roundg kx
          case measure => omega
          case rel =>
            have hE := HE.out
            simp only [bsr] at hE
            rw [if_pos hlt, ← HH.out] at hE
            have hq := HQ.out
            rw [if_pos (show _ = true from by simpa using hq)] at hE
            exact ⟨h + 1, j, by first | rfl | go_num, by first | rfl | go_num, by omega, by omega, by omega, by omega, S2, hE⟩
    · as_aux_lemma =>
        have hltz : ¬ (i : Int) < (j : Int) := by omega
        have HB : Hid (bsr (fun h => !ltOf cf d[m]! d[h]!) (m - a) a m = i) := HE.out.symm.trans (bsr_done _ _ _ _ hlt)
        clear HE
        go_wp2
        go_loopg [17] (m - i) (fun kx s17 wr => ∃ (x : Nat) (dk : Array α), s17 = .int .i64 x ∧ i ≤ x ∧ x ≤ m ∧ x - i ≤ kx ∧ dk.size = d.size ∧ Aside (SWK enc k w0 blk off dk wr) ∧ Hid (down (x - i) x dk = down (m - i) m d))
        case atStart => exact ⟨m, d, by first | rfl | go_num, by omega, by omega, Nat.le_refl _, rfl, S1, rfl⟩
        case round =>
          clear S1
          obtain ⟨x, dk, rfl, hx, hx2, hkx, hdk, S1, HE⟩ := hrel
          by_cases hlt : i < x
          · as_aux_lemma =>
              have hltz : (i : Int) < (x : Int) := by omega
              go_wp2_with fail
              have ea7 : ((x : Int)).toNat = x := by omega
              have pa7 : (0 : Int) ≤ (x : Int) := by omega
              have ba7 : (x : Int) < (d.size : Int) := by omega
              have ra7 : IntKind.i64.wrap ((x : Int)) = (x : Int) := by rw [IntKind.wrap_i64]; omega
              have ec7 : ((x : Int) - 1).toNat = x - 1 := by omega
              have pc7 : (0 : Int) ≤ (x : Int) - 1 := by omega
              have bc7 : (x : Int) - 1 < (d.size : Int) := by omega
              have rc7 : IntKind.i64.wrap ((x : Int) - 1) = (x : Int) - 1 := by rw [IntKind.wrap_i64]; omega
              have S2 : Aside (SWK enc k w0 blk off (swp dk (x) (x - 1)) ((wr.drew.setCells blk (off + (x) * k) (enc dk[x - 1]!)).setCells blk (off + (x - 1) * k) (enc dk[x]!))) := S1.out.swapped R (x) (x - 1) (by omega) (by omega)
              have l7a := S1.out.ld1 R (by omega) Try.prog (x) (by omega)
              have l7b := S1.out.ld1 R (by omega) Try.prog (x - 1) (by omega)
              have s7a := S1.out.st1 R (by omega) Try.prog (x) (by omega) dk[x - 1]!
              have s7b := S1.out.st2 R (by omega) Try.prog (x) (x - 1) (by omega) (by omega) dk[x - 1]! dk[x]!
              have n7a : (enc dk[x]!).length = k := R.hk _
              have n7b : (enc dk[x - 1]!).length = k := R.hk _
              generalize enc dk[x]! = cI7 at S2 l7a s7b n7a
              generalize enc dk[x - 1]! = cJ7 at S2 l7b s7a s7b n7b
              clear S1
              go_wp2_with fail
              go_big_region_o
              clear l7a l7b s7a s7b
              generalize (wr.drew.setCells blk (off + (x) * k) cJ7).setCells blk (off + (x - 1) * k) cI7 = w2 at S2 ⊢
              all_goals go_wp2
              go_roundg (x - 1 - i)
              case measure => omega
              case rel =>
                have hE := HE.out
                rw [show x - i = (x - 1 - i) + 1 by omega] at hE
                exact ⟨x - 1, _, by first | rfl | go_num | (congr 1; omega), by omega, by omega, Nat.le_refl _, by rw [size_swp]; exact hdk, S2, hE⟩
          · as_aux_lemma =>
              have hltz : ¬ (i : Int) < (x : Int) := by omega
              go_wp2
              (try simp only [Exit.inBlock, Exit.then])
              refine bodyPost_ret (results_none rfl _ _ _) rfl ?_
              refine ⟨rfl, ?_⟩
              have hE := HE.out
              rw [show x - i = 0 by omega] at hE
              simp only [symF]
              rw [if_neg e1, if_pos e2, HB.out, ← hE]
              exact S1.out
end Go.Proofs.Ytjhgdlgdejcmjaa.L
