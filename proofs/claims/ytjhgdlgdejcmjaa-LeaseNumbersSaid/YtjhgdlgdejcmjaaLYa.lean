/- slices.SortStableFunc's parts, walked (3): symMerge. By an AI agent of this work (written by its program gen_sort.py). -/
import Derived.Test.YtjhgdlgdejcmjaaLX
import Derived.Deep.Cut
import Derived.Deep.CutRange
import Derived.Deep.CutBlock
import Derived.Deep.DeepCutAuto
namespace Go.Proofs.Ytjhgdlgdejcmjaa.L
open Go.Shelf Go.RowKit Go.Lib Go.Sort
set_option linter.unusedVariables false
set_option linter.unusedSectionVars false
set_option linter.unusedSimpArgs false
variable {α : Type} [Inhabited α]

theorem symF_eq (lt : α → α → Bool) (n a m b : Nat) (d : Array α) (e1 : ¬ m - a = 1) (e2 : ¬ b - m = 1) {mid s0 r0 i fin : Nat} {d1 d2 : Array α} (hm : mid = (a + b) / 2) (hs : s0 = (if mid < m then mid + m - b else a)) (hr : r0 = (if mid < m then mid else m))
    (hi : bsr (fun c => !lt d[mid + m - 1 - c]! d[c]!) (r0 - s0) s0 r0 = i) (hf : fin = mid + m - i) (h1 : d1 = (if i < m ∧ m < fin then rot (fin - i) m (m - i) (fin - m) d else d)) (h2 : d2 = (if a < i ∧ i < mid then symF lt n a i mid d1 else d1)) :
    symF lt (n + 1) a m b d = (if mid < fin ∧ fin < b then symF lt n mid fin b d2 else d2) := by
  subst h2 h1 hf hi hr hs hm
  simp only [symF]
  rw [if_neg e1, if_neg e2]
theorem ite_size {c : Prop} [Decidable c] {x y : Array α} {N : Nat} (hx : x.size = N) (hy : y.size = N) : (if c then x else y).size = N := by split; exact hx; exact hy
theorem symF_size (lt : α → α → Bool) : ∀ (n a m b : Nat) (d : Array α), (symF lt n a m b d).size = d.size
  | 0, _, _, _, _ => rfl
  | n + 1, a, m, b, d => by
    by_cases e1 : m - a = 1
    · simp only [symF]; rw [if_pos e1]; exact up_size _ _ _
    · by_cases e2 : b - m = 1
      · simp only [symF]; rw [if_neg e1, if_pos e2]; exact down_size _ _ _
      · rw [symF_eq lt n a m b d e1 e2 rfl rfl rfl rfl rfl rfl rfl]
        refine ite_size ((symF_size lt n _ _ _ _).trans (ite_size ((symF_size lt n _ _ _ _).trans (ite_size (rot_size _ _ _ _ d) rfl)) (ite_size (rot_size _ _ _ _ d) rfl))) (ite_size ((symF_size lt n _ _ _ _).trans (ite_size (rot_size _ _ _ _ d) rfl)) (ite_size (rot_size _ _ _ _ d) rfl))
theorem bsr_done (f : Nat → Bool) (n i j : Nat) (h : ¬ i < j) : bsr f n i j = i := by
  cases n with
  | zero => rfl
  | succ n => simp only [bsr]; rw [if_neg h]

set_option maxHeartbeats 8000000 in
set_option maxRecDepth 1000000 in
theorem sym_a (k : Nat) (aE : ∀ w, (isAgg 38).run Try.prog w = .ok true w) (zE : ∀ w, (Go.sizeOf 38).run Try.prog w = .ok k w) (enc : α → List Value) (blk off cap : Nat) (cf : α → α → Int) (d0 : Array α) (w0 : World)
    (hcmp : CmpLays Try.prog 25 #[] enc k cf blk off d0.size w0) (R : RowK enc k w0 blk off d0) (hsz : d0.size < 4611686018427387904) (n : Nat) (ih : ∀ (a m b : Nat) (za zm zb : Int) (ea : za = a) (em : zm = m) (eb : zb = b) (d : Array α) (w : World) (hs : d0.size = d.size) (S : SWK enc k w0 blk off d w)
    (h1 : a < m) (h2 : m < b) (h3 : b ≤ d.size) (hn : b - a ≤ n + 1) (N : Nat) (hN : N = d.size), Calls Try.prog 37 #[.slice (some ⟨blk, off, none⟩) N cap, .int .i64 za, .int .i64 zm, .int .i64 zb, .func (.func 25) #[] #[]] w fun e w' => e = .returned (.tuple #[]) ∧ SWK enc k w0 blk off (symF (ltOf cf) n a m b d) w') (a m b : Nat) (za zm zb : Int) (ea : za = a) (em : zm = m) (eb : zb = b) (d : Array α) (w : World) (hs : d0.size = d.size) (S : SWK enc k w0 blk off d w)
    (h1 : a < m) (h2 : m < b) (h3 : b ≤ d.size) (hn : b - a ≤ (n + 1) + 1) (N : Nat) (hN : N = d.size) (e1 : m - a = 1) :
    Calls Try.prog 37 #[.slice (some ⟨blk, off, none⟩) N cap, .int .i64 za, .int .i64 zm, .int .i64 zb, .func (.func 25) #[] #[]] w fun e w' => e = .returned (.tuple #[]) ∧ SWK enc k w0 blk off (symF (ltOf cf) (n + 1) a m b d) w' := by
  subst ea em eb hN
  have IH : Aside _ := ih
  have HC : Aside _ := hcmp
  have S0 : Aside (SWK enc k w0 blk off d w) := S
  clear S hcmp ih
  have hsz : d.size < 4611686018427387904 := by omega
  have hu := Try.underlying34; have mixed := mixed; have t3 := Try.underlying3; have a3 := a3; have z3 := z3; have v3 := v3; have t4 := Try.underlying4; have eg : ∀ args w, (callFunc 25 args).run Try.prog w = .ok (.enter 25 args) w := enters_of Try.func25 (by kernel_rfl) rfl
  go_enter Try.func37, Try.ntmps37
  have t1 : ((m : Int) - (a : Int) == 1) = true := by simp; omega
  go_wp2
  go_loopg [10, 11] (b - m) (fun kx s10 s11 wr => ∃ (i j : Nat), s10 = .int .i64 i ∧ s11 = .int .i64 j ∧ m ≤ i ∧ i ≤ j ∧ j ≤ b ∧ j - i ≤ kx ∧ Aside (SWK enc k w0 blk off d wr) ∧ Hid (bsr (fun h => ltOf cf d[h]! d[a]!) kx i j = bsr (fun h => ltOf cf d[h]! d[a]!) (b - m) m b))
  case atStart => exact ⟨m, b, by first | rfl | (congr 1; omega), by first | rfl | (congr 1; omega), Nat.le_refl _, by omega, Nat.le_refl _, Nat.le_refl _, S0, rfl⟩
  case round =>
    clear S0
    obtain ⟨i, j, rfl, rfl, hli, hij, hjh, hkx, S1, HE⟩ := hrel
    by_cases hlt : i < j
    · as_aux_lemma =>
        have hltz : (i : Int) < (j : Int) := by omega
        cases gk with
        | zero => omega
        | succ kx =>
        go_wp2_with fail
        obtain ⟨h, hh⟩ : ∃ h : Nat, h = (i + j) / 2 := ⟨_, rfl⟩
        have hz : ((i : Int) + (j : Int)) / 2 = (h : Int) := by omega
        rw [hz]
        clear hz
        have hhj : i ≤ h ∧ h < j := by omega
        obtain ⟨hh1, hh2⟩ := hhj
        have HH : Hid (h = (i + j) / 2) := hh
        clear hh
        cases hL : ltOf cf d[h]! d[a]! with
        | true =>
          have ea5 : ((h : Int)).toNat = h := by omega
          have pa5 : (0 : Int) ≤ (h : Int) := by omega
          have ba5 : (h : Int) < (d.size : Int) := by omega
          have ra5 : IntKind.i64.wrap ((h : Int)) = (h : Int) := by rw [IntKind.wrap_i64]; omega
          have ec5 : ((a : Int)).toNat = a := by omega
          have pc5 : (0 : Int) ≤ (a : Int) := by omega
          have bc5 : (a : Int) < (d.size : Int) := by omega
          have rc5 : IntKind.i64.wrap ((a : Int)) = (a : Int) := by rw [IntKind.wrap_i64]; omega
          obtain ⟨x5, hx5⟩ : ∃ x, x = d[h]! := ⟨_, rfl⟩
          obtain ⟨y5, hy5⟩ : ∃ x, x = d[a]! := ⟨_, rfl⟩
          have l5a := S1.out.ld R (by omega) Try.prog (h) (by omega)
          have l5b := S1.out.ld R (by omega) Try.prog (a) (by omega)
          rw [← hx5] at l5a
          rw [← hy5] at l5b
          have hc5 := cmpE S1.out HC.out (by omega) x5 y5
          have hv5 : cf x5 y5 < 0 := by rw [hx5, hy5]; exact of_decide_eq_true hL
          have hd5 : decide (cf x5 y5 < 0) = true := decide_eq_true hv5
          clear hx5 hy5
          go_wp2_with fail
          go_quiet_grown (first | (go_at_fn 25; refine Calls.grown_of (hc5 _ _)))
          have S2 : Aside (SWK enc k w0 blk off d (grow (wr.drewN nq) osq)) := S1.out.grown nq osq
          clear l5a l5b hc5 S1
          generalize grow (wr.drewN nq) osq = w2 at S2 ⊢
          clear nq osq
          have HQ : Hid _ := hL
          clear hL
          go_wp2
          go_roundg kx
          case measure => omega
          case rel =>
            have hE := HE.out
            simp only [bsr] at hE
            rw [if_pos hlt, ← HH.out] at hE
            have hq := HQ.out
            rw [if_pos (show _ = true from by simpa using hq)] at hE
            exact ⟨h + 1, j, by first | rfl | go_num, by first | rfl | go_num, by omega, by omega, by omega, by omega, S2, hE⟩
        | false =>
          have ea6 : ((h : Int)).toNat = h := by omega
          have pa6 : (0 : Int) ≤ (h : Int) := by omega
          have ba6 : (h : Int) < (d.size : Int) := by omega
          have ra6 : IntKind.i64.wrap ((h : Int)) = (h : Int) := by rw [IntKind.wrap_i64]; omega
          have ec6 : ((a : Int)).toNat = a := by omega
          have pc6 : (0 : Int) ≤ (a : Int) := by omega
          have bc6 : (a : Int) < (d.size : Int) := by omega
          have rc6 : IntKind.i64.wrap ((a : Int)) = (a : Int) := by rw [IntKind.wrap_i64]; omega
          obtain ⟨x6, hx6⟩ : ∃ x, x = d[h]! := ⟨_, rfl⟩
          obtain ⟨y6, hy6⟩ : ∃ x, x = d[a]! := ⟨_, rfl⟩
          have l6a := S1.out.ld R (by omega) Try.prog (h) (by omega)
          have l6b := S1.out.ld R (by omega) Try.prog (a) (by omega)
          rw [← hx6] at l6a
          rw [← hy6] at l6b
          have hc6 := cmpE S1.out HC.out (by omega) x6 y6
          have hv6 : ¬ cf x6 y6 < 0 := by rw [hx6, hy6]; exact of_decide_eq_false hL
          have hd6 : decide (cf x6 y6 < 0) = false := decide_eq_false hv6
          clear hx6 hy6
          go_wp2_with fail
          go_quiet_grown (first | (go_at_fn 25; refine Calls.grown_of (hc6 _ _)))
          have S2 : Aside (SWK enc k w0 blk off d (grow (wr.drewN nq) osq)) := S1.out.grown nq osq
          clear l6a l6b hc6 S1
          generalize grow (wr.drewN nq) osq = w2 at S2 ⊢
          clear nq osq
          have HQ : Hid _ := hL
          clear hL
          go_wp2
          go_roundg kx
          case measure => omega
          case rel =>
            have hE := HE.out
            simp only [bsr] at hE
            rw [if_pos hlt, ← HH.out] at hE
            have hq := HQ.out
            rw [if_neg (show ¬ _ = true from by simpa using hq)] at hE
            exact ⟨i, h, by first | rfl | go_num, by first | rfl | go_num, by omega, by omega, by omega, by omega, S2, hE⟩
    · as_aux_lemma =>
        have hltz : ¬ (i : Int) < (j : Int) := by omega
        have HB : Hid (bsr (fun h => ltOf cf d[h]! d[a]!) (b - m) m b = i) := HE.out.symm.trans (bsr_done _ _ _ _ hlt)
        clear HE
        have hi1 : m ≤ i := hli
        go_wp2
        go_loopg [13] (i - 1 - a) (fun kx s13 wr => ∃ (x : Nat) (dk : Array α), s13 = .int .i64 x ∧ a ≤ x ∧ x ≤ i - 1 ∧ i - 1 - x ≤ kx ∧ dk.size = d.size ∧ Aside (SWK enc k w0 blk off dk wr) ∧ Hid (up (i - 1 - x) x dk = up (i - 1 - a) a d))
        case atStart => exact ⟨a, d, by first | rfl | go_num, by omega, by omega, Nat.le_refl _, rfl, S1, rfl⟩
        case round =>
          clear S1
          obtain ⟨x, dk, rfl, hx, hx2, hkx, hdk, S1, HE⟩ := hrel
          by_cases hlt : x < i - 1
          · as_aux_lemma =>
              have hltz : (x : Int) < (i : Int) - 1 := by omega
              go_wp2_with fail
              have ea4 : ((x : Int)).toNat = x := by omega
              have pa4 : (0 : Int) ≤ (x : Int) := by omega
              have ba4 : (x : Int) < (d.size : Int) := by omega
              have ra4 : IntKind.i64.wrap ((x : Int)) = (x : Int) := by rw [IntKind.wrap_i64]; omega
              have ec4 : ((x : Int) + 1).toNat = x + 1 := by omega
              have pc4 : (0 : Int) ≤ (x : Int) + 1 := by omega
              have bc4 : (x : Int) + 1 < (d.size : Int) := by omega
              have rc4 : IntKind.i64.wrap ((x : Int) + 1) = (x : Int) + 1 := by rw [IntKind.wrap_i64]; omega
              have S2 : Aside (SWK enc k w0 blk off (swp dk (x) (x + 1)) ((wr.drew.setCells blk (off + (x) * k) (enc dk[x + 1]!)).setCells blk (off + (x + 1) * k) (enc dk[x]!))) := S1.out.swapped R (x) (x + 1) (by omega) (by omega)
              have l4a := S1.out.ld1 R (by omega) Try.prog (x) (by omega)
              have l4b := S1.out.ld1 R (by omega) Try.prog (x + 1) (by omega)
              have s4a := S1.out.st1 R (by omega) Try.prog (x) (by omega) dk[x + 1]!
              have s4b := S1.out.st2 R (by omega) Try.prog (x) (x + 1) (by omega) (by omega) dk[x + 1]! dk[x]!
              have n4a : (enc dk[x]!).length = k := R.hk _
              have n4b : (enc dk[x + 1]!).length = k := R.hk _
              generalize enc dk[x]! = cI4 at S2 l4a s4b n4a
              generalize enc dk[x + 1]! = cJ4 at S2 l4b s4a s4b n4b
              clear S1
              go_wp2_with fail
              go_big_region_o
              clear l4a l4b s4a s4b
              generalize (wr.drew.setCells blk (off + (x) * k) cJ4).setCells blk (off + (x + 1) * k) cI4 = w2 at S2 ⊢
              all_goals go_wp2
              go_roundg (i - 1 - (x + 1))
              case measure => omega
              case rel =>
                have hE := HE.out
                rw [show i - 1 - x = (i - 1 - (x + 1)) + 1 by omega] at hE
                exact ⟨x + 1, _, by first | rfl | go_num | (congr 1; omega), by omega, by omega, Nat.le_refl _, by rw [size_swp]; exact hdk, S2, hE⟩
          · as_aux_lemma =>
              have hltz : ¬ (x : Int) < (i : Int) - 1 := by omega
              go_wp2
              (try simp only [Exit.inBlock, Exit.then])
              refine bodyPost_ret (results_none rfl _ _ _) rfl ?_
              refine ⟨rfl, ?_⟩
              have hE := HE.out
              rw [show i - 1 - x = 0 by omega] at hE
              simp only [symF]
              rw [if_pos e1, HB.out, ← hE]
              exact S1.out
end Go.Proofs.Ytjhgdlgdejcmjaa.L
