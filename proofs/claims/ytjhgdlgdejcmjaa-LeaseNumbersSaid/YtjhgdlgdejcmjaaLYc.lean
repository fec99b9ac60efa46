/- slices.SortStableFunc's parts, walked (3): symMerge. By an AI agent of this work (written by its program gen_sort.py). -/
import Derived.Test.YtjhgdlgdejcmjaaLYa
import Derived.Deep.Cut
import Derived.Deep.CutRange
import Derived.Deep.CutBlock
import Derived.Deep.DeepCutAuto
namespace Go.Proofs.Ytjhgdlgdejcmjaa.L
open Go.Shelf Go.RowKit Go.Lib Go.Sort
set_option linter.unusedVariables false
set_option linter.unusedSectionVars false
set_option linter.unusedSimpArgs false
variable {α : Type} [Inhabited α]

set_option maxHeartbeats 8000000 in
set_option maxRecDepth 1000000 in
theorem sym_c (k : Nat) (aE : ∀ w, (isAgg 38).run Try.prog w = .ok true w) (zE : ∀ w, (Go.sizeOf 38).run Try.prog w = .ok k w) (enc : α → List Value) (blk off cap : Nat) (cf : α → α → Int) (d0 : Array α) (w0 : World)
    (hcmp : CmpLays Try.prog 25 #[] enc k cf blk off d0.size w0) (R : RowK enc k w0 blk off d0) (hsz : d0.size < 4611686018427387904) (n : Nat) (ih : ∀ (a m b : Nat) (za zm zb : Int) (ea : za = a) (em : zm = m) (eb : zb = b) (d : Array α) (w : World) (hs : d0.size = d.size) (S : SWK enc k w0 blk off d w)
    (h1 : a < m) (h2 : m < b) (h3 : b ≤ d.size) (hn : b - a ≤ n + 1) (N : Nat) (hN : N = d.size), Calls Try.prog 37 #[.slice (some ⟨blk, off, none⟩) N cap, .int .i64 za, .int .i64 zm, .int .i64 zb, .func (.func 25) #[] #[]] w fun e w' => e = .returned (.tuple #[]) ∧ SWK enc k w0 blk off (symF (ltOf cf) n a m b d) w') (a m b : Nat) (za zm zb : Int) (ea : za = a) (em : zm = m) (eb : zb = b) (d : Array α) (w : World) (hs : d0.size = d.size) (S : SWK enc k w0 blk off d w)
    (h1 : a < m) (h2 : m < b) (h3 : b ≤ d.size) (hn : b - a ≤ (n + 1) + 1) (N : Nat) (hN : N = d.size) (e1 : ¬ m - a = 1) (e2 : ¬ b - m = 1) (mid s0 r0 : Nat) (hmid : mid = (a + b) / 2) (hs0 : s0 = (if mid < m then mid + m - b else a)) (hr0 : r0 = (if mid < m then mid else m)) (hsr : s0 ≤ r0 ∧ a ≤ s0 ∧ r0 ≤ m ∧ r0 ≤ mid ∧ mid + m ≤ s0 + b) (c : mid < m) (C1 : Aside (s0 + b = mid + m ∧ r0 = mid)) :
    Calls Try.prog 37 #[.slice (some ⟨blk, off, none⟩) N cap, .int .i64 za, .int .i64 zm, .int .i64 zb, .func (.func 25) #[] #[]] w fun e w' => e = .returned (.tuple #[]) ∧ SWK enc k w0 blk off (symF (ltOf cf) (n + 1) a m b d) w' := by
  subst ea em eb hN
  have IH : Aside _ := ih
  have HC : Aside _ := hcmp
  have S0 : Aside (SWK enc k w0 blk off d w) := S
  clear S hcmp ih
  have hsz : d.size < 4611686018427387904 := by omega
  have hu := Try.underlying34; have mixed := mixed; have t3 := Try.underlying3; have a3 := a3; have z3 := z3; have v3 := v3; have t4 := Try.underlying4; have eg : ∀ args w, (callFunc 25 args).run Try.prog w = .ok (.enter 25 args) w := enters_of Try.func25 (by kernel_rfl) rfl
  go_enter Try.func37, Try.ntmps37
  have t1 : ((m : Int) - (a : Int) == 1) = false := by simp; omega
  have t2 : ((b : Int) - (m : Int) == 1) = false := by simp; omega
  have hz : ((a : Int) + (b : Int)) / 2 = (mid : Int) := by omega
  obtain ⟨q1, q2, q3, q4, q5⟩ := hsr
  have HM : Hid (mid = (a + b) / 2) := hmid
  have HS0 : Hid (s0 = (if mid < m then mid + m - b else a)) := hs0
  have HR0 : Hid (r0 = (if mid < m then mid else m)) := hr0
  have hmm : a < mid ∧ mid < b := by omega
  obtain ⟨hm1, hm2⟩ := hmm
  clear hmid hs0 hr0
  have cz : (mid : Int) < (m : Int) := by omega
  go_wp2
  go_loopg [20, 21] (r0 - s0) (fun kx s20 s21 wr => ∃ (i j : Nat), s20 = .int .i64 i ∧ s21 = .int .i64 j ∧ s0 ≤ i ∧ i ≤ j ∧ j ≤ r0 ∧ j - i ≤ kx ∧ Aside (SWK enc k w0 blk off d wr) ∧ Hid (bsr (fun c => !ltOf cf d[mid + m - 1 - c]! d[c]!) kx i j = bsr (fun c => !ltOf cf d[mid + m - 1 - c]! d[c]!) (r0 - s0) s0 r0))
  case atStart => obtain ⟨c1, c2⟩ := C1.out; exact ⟨s0, r0, by first | rfl | (congr 1; omega), by first | rfl | (congr 1; omega), Nat.le_refl _, by omega, Nat.le_refl _, Nat.le_refl _, S0, rfl⟩
  case round =>
    clear S0
    obtain ⟨i, j, rfl, rfl, hli, hij, hjh, hkx, S1, HE⟩ := hrel
    by_cases hlt : i < j
    · as_aux_lemma =>
        have hltz : (i : Int) < (j : Int) := by omega
        cases gk with
        | zero => omega
        | succ kx =>
        go_wp2_with fail
        obtain ⟨h, hh⟩ : ∃ h : Nat, h = (i + j) / 2 := ⟨_, rfl⟩
        have hz : ((i : Int) + (j : Int)) / 2 = (h : Int) := by omega
        rw [hz]
        clear hz
        have hhj : i ≤ h ∧ h < j := by omega
        obtain ⟨hh1, hh2⟩ := hhj
        have px : (h : Int) ≤ (mid : Int) + (m : Int) - 1 := by omega
        have HH : Hid (h = (i + j) / 2) := hh
        clear hh
        cases hL : ltOf cf d[mid + m - 1 - h]! d[h]! with
        | true =>
          have ea10 : ((mid : Int) + (m : Int) - 1 - (h : Int)).toNat = mid + m - 1 - h := by omega
          have pa10 : (0 : Int) ≤ (mid : Int) + (m : Int) - 1 - (h : Int) := by omega
          have ba10 : (mid : Int) + (m : Int) - 1 - (h : Int) < (d.size : Int) := by omega
          have ra10 : IntKind.i64.wrap ((mid : Int) + (m : Int) - 1 - (h : Int)) = (mid : Int) + (m : Int) - 1 - (h : Int) := by rw [IntKind.wrap_i64]; omega
          have ec10 : ((h : Int)).toNat = h := by omega
          have pc10 : (0 : Int) ≤ (h : Int) := by omega
          have bc10 : (h : Int) < (d.size : Int) := by omega
          have rc10 : IntKind.i64.wrap ((h : Int)) = (h : Int) := by rw [IntKind.wrap_i64]; omega
          obtain ⟨x10, hx10⟩ : ∃ x, x = d[mid + m - 1 - h]! := ⟨_, rfl⟩
          obtain ⟨y10, hy10⟩ : ∃ x, x = d[h]! := ⟨_, rfl⟩
          have l10a := S1.out.ld R (by omega) Try.prog (mid + m - 1 - h) (by omega)
          have l10b := S1.out.ld R (by omega) Try.prog (h) (by omega)
          rw [← hx10] at l10a
          rw [← hy10] at l10b
          have hc10 := cmpE S1.out HC.out (by omega) x10 y10
          have hv10 : cf x10 y10 < 0 := by rw [hx10, hy10]; exact of_decide_eq_true hL
          have hd10 : decide (cf x10 y10 < 0) = true := decide_eq_true hv10
          clear hx10 hy10
          go_wp2_with fail
          go_quiet_grown (first | (go_at_fn 25; refine Calls.grown_of (hc10 _ _)))
          have S2 : Aside (SWK enc k w0 blk off d (grow (wr.drewN nq) osq)) := S1.out.grown nq osq
          clear l10a l10b hc10 S1
          generalize grow (wr.drewN nq) osq = w2 at S2 ⊢
          clear nq osq
          have HQ : Hid _ := hL
          clear hL
          go_wp2
          go_roundg kx
          case measure => omega
          case rel =>
            have hE := HE.out
            simp only [bsr] at hE
            rw [if_pos hlt, ← HH.out] at hE
            have hq := HQ.out
            rw [if_neg (show ¬ _ = true from by simpa using hq)] at hE
            exact ⟨i, h, by first | rfl | go_num, by first | rfl | go_num, by omega, by omega, by omega, by omega, S2, hE⟩
        | false =>
          have ea11 : ((mid : Int) + (m : Int) - 1 - (h : Int)).toNat = mid + m - 1 - h := by omega
          have pa11 : (0 : Int) ≤ (mid : Int) + (m : Int) - 1 - (h : Int) := by omega
          have ba11 : (mid : Int) + (m : Int) - 1 - (h : Int) < (d.size : Int) := by omega
          have ra11 : IntKind.i64.wrap ((mid : Int) + (m : Int) - 1 - (h : Int)) = (mid : Int) + (m : Int) - 1 - (h : Int) := by rw [IntKind.wrap_i64]; omega
          have ec11 : ((h : Int)).toNat = h := by omega
          have pc11 : (0 : Int) ≤ (h : Int) := by omega
          have bc11 : (h : Int) < (d.size : Int) := by omega
          have rc11 : IntKind.i64.wrap ((h : Int)) = (h : Int) := by rw [IntKind.wrap_i64]; omega
          obtain ⟨x11, hx11⟩ : ∃ x, x = d[mid + m - 1 - h]! := ⟨_, rfl⟩
          obtain ⟨y11, hy11⟩ : ∃ x, x = d[h]! := ⟨_, rfl⟩
          have l11a := S1.out.ld R (by omega) Try.prog (mid + m - 1 - h) (by omega)
          have l11b := S1.out.ld R (by omega) Try.prog (h) (by omega)
          rw [← hx11] at l11a
          rw [← hy11] at l11b
          have hc11 := cmpE S1.out HC.out (by omega) x11 y11
          have hv11 : ¬ cf x11 y11 < 0 := by rw [hx11, hy11]; exact of_decide_eq_false hL
          have hd11 : decide (cf x11 y11 < 0) = false := decide_eq_false hv11
          clear hx11 hy11
          go_wp2_with fail
          go_quiet_grown (first | (go_at_fn 25; refine Calls.grown_of (hc11 _ _)))
          have S2 : Aside (SWK enc k w0 blk off d (grow (wr.drewN nq) osq)) := S1.out.grown nq osq
          clear l11a l11b hc11 S1
          generalize grow (wr.drewN nq) osq = w2 at S2 ⊢
          clear nq osq
          have HQ : Hid _ := hL
          clear hL
          go_wp2
          go_roundg kx
          case measure => omega
          case rel =>
            have hE := HE.out
            simp only [bsr] at hE
            rw [if_pos hlt, ← HH.out] at hE
            have hq := HQ.out
            rw [if_pos (show _ = true from by simpa using hq)] at hE
            exact ⟨h + 1, j, by first | rfl | go_num, by first | rfl | go_num, by omega, by omega, by omega, by omega, S2, hE⟩
    · as_aux_lemma =>
        have hltz : ¬ (i : Int) < (j : Int) := by omega
        have HB : Hid (bsr (fun c => !ltOf cf d[mid + m - 1 - c]! d[c]!) (r0 - s0) s0 r0 = i) := HE.out.symm.trans (bsr_done _ _ _ _ hlt)
        clear HE
        obtain ⟨fin, hfin⟩ : ∃ fin : Nat, fin = mid + m - i := ⟨_, rfl⟩
        have hfz : (mid : Int) + (m : Int) - (i : Int) = (fin : Int) := by omega
        have hf1 : m ≤ fin ∧ fin ≤ b ∧ i ≤ mid ∧ i ≤ m ∧ a ≤ i := by omega
        obtain ⟨f1, f2, f3, f4, f5⟩ := hf1
        have HF : Hid (fin = mid + m - i) := hfin
        clear hfin
        obtain ⟨d1, hd1⟩ : ∃ d1, d1 = (if i < m ∧ m < fin then rot (fin - i) m (m - i) (fin - m) d else d) := ⟨_, rfl⟩
        have z1 : d1.size = d.size := by rw [hd1]; split; exact rot_size _ _ _ _ _; rfl
        have HD1 : Hid (d1 = (if i < m ∧ m < fin then rot (fin - i) m (m - i) (fin - m) d else d)) := hd1
        clear hd1
        obtain ⟨d2, hd2⟩ : ∃ d2, d2 = (if a < i ∧ i < mid then symF (ltOf cf) n a i mid d1 else d1) := ⟨_, rfl⟩
        have z2 : d2.size = d.size := by rw [hd2]; split; exact (symF_size _ _ _ _ _ _).trans z1; exact z1
        have HD2 : Hid (d2 = (if a < i ∧ i < mid then symF (ltOf cf) n a i mid d1 else d1)) := hd2
        clear hd2
        have EQ : Hid (symF (ltOf cf) (n + 1) a m b d = (if mid < fin ∧ fin < b then symF (ltOf cf) n mid fin b d2 else d2)) := symF_eq (ltOf cf) n a m b d e1 e2 HM.out HS0.out HR0.out HB.out HF.out HD1.out HD2.out
        have Z1 : Aside (d1.size = d.size) := z1
        have Z2 : Aside (d2.size = d.size) := z2
        clear z1 z2
        have hA : (a < i ∧ i < m) ∨ (¬ a < i ∧ i < m) ∨ (a < i ∧ ¬ i < m) := by omega
        have hB : (m < fin ∧ fin < b) ∨ (¬ m < fin ∧ fin < b) ∨ (m < fin ∧ ¬ fin < b) := by omega
        rcases hA with ⟨al, ah⟩ | ⟨al, ah⟩ | ⟨al, ah⟩ <;> rcases hB with ⟨bl, bh⟩ | ⟨bl, bh⟩ | ⟨bl, bh⟩
        · as_aux_lemma =>
            have hf2 : i + fin = mid + m := by have := HF.out; omega
            have ga : (a : Int) < (i : Int) := by omega
            have gm : (i : Int) < (m : Int) := by omega
            have gf : (m : Int) < (fin : Int) := by omega
            have gb : (fin : Int) < (b : Int) := by omega
            have gi : (i : Int) < (mid : Int) := by omega
            have gd : (mid : Int) < (fin : Int) := by omega
            have tok1 : True := trivial
            go_wp2_with (first | (go_at_call 41; refine Calls.mono (rot_calls k aE zE enc _ blk off cap i m fin (fin - i) _ _ _ rfl rfl rfl d0 d w0 _ R hs S1.out (by omega) (by omega) (by omega) (by omega) (by omega) _ rfl) ?_; rintro e w' ⟨rfl, S'⟩; have S2 : Aside (SWK enc k w0 blk off d1 w') := (by rw [HD1.out, if_pos (by omega)]; exact S'); clear S') | (go_at_call 37; have _t := tok1; clear tok1 _t; refine Calls.mono (IH.out a i mid _ _ _ rfl rfl rfl d1 _ (hs.trans Z1.out.symm) S2.out (by omega) (by omega) (by have := Z1.out; omega) (by omega) _ Z1.out.symm) ?_; rintro e w'' ⟨rfl, S'⟩; have S3 : Aside (SWK enc k w0 blk off d2 w'') := (by rw [HD2.out, if_pos (by omega)]; exact S'); clear S') | (go_at_call 37; refine Calls.mono (IH.out mid fin b _ _ _ rfl rfl rfl d2 _ (hs.trans Z2.out.symm) S3.out (by omega) (by omega) (by have := Z2.out; omega) (by omega) _ Z2.out.symm) ?_; rintro e w4 ⟨rfl, S'⟩))
            all_goals (go_end0; refine ⟨rfl, ?_⟩; rw [EQ.out, if_pos (by omega)]; exact S')
        · as_aux_lemma =>
            have hf2 : i + fin = mid + m := by have := HF.out; omega
            have ga : (a : Int) < (i : Int) := by omega
            have gm : (i : Int) < (m : Int) := by omega
            have gf : ¬ (m : Int) < (fin : Int) := by omega
            have gb : (fin : Int) < (b : Int) := by omega
            have gi : ¬ (i : Int) < (mid : Int) := by omega
            have gd : (mid : Int) < (fin : Int) := by omega
            have S2 : Aside (SWK enc k w0 blk off d1 wr) := (by rw [HD1.out, if_neg (by omega)]; exact S1)
            have S3 : Aside (SWK enc k w0 blk off d2 wr) := (by rw [HD2.out, if_neg (by omega)]; exact S2)
            go_wp2_with (first | (go_at_call 37; refine Calls.mono (IH.out mid fin b _ _ _ rfl rfl rfl d2 _ (hs.trans Z2.out.symm) S3.out (by omega) (by omega) (by have := Z2.out; omega) (by omega) _ Z2.out.symm) ?_; rintro e w4 ⟨rfl, S'⟩))
            all_goals (go_end0; refine ⟨rfl, ?_⟩; rw [EQ.out, if_pos (by omega)]; exact S')
        · as_aux_lemma =>
            have hf2 : i + fin = mid + m := by have := HF.out; omega
            have ga : (a : Int) < (i : Int) := by omega
            have gm : (i : Int) < (m : Int) := by omega
            have gf : (m : Int) < (fin : Int) := by omega
            have gb : ¬ (fin : Int) < (b : Int) := by omega
            have gi : (i : Int) < (mid : Int) := by omega
            have gd : (mid : Int) < (fin : Int) := by omega
            have tok1 : True := trivial
            go_wp2_with (first | (go_at_call 41; refine Calls.mono (rot_calls k aE zE enc _ blk off cap i m fin (fin - i) _ _ _ rfl rfl rfl d0 d w0 _ R hs S1.out (by omega) (by omega) (by omega) (by omega) (by omega) _ rfl) ?_; rintro e w' ⟨rfl, S'⟩; have S2 : Aside (SWK enc k w0 blk off d1 w') := (by rw [HD1.out, if_pos (by omega)]; exact S'); clear S') | (go_at_call 37; have _t := tok1; clear tok1 _t; refine Calls.mono (IH.out a i mid _ _ _ rfl rfl rfl d1 _ (hs.trans Z1.out.symm) S2.out (by omega) (by omega) (by have := Z1.out; omega) (by omega) _ Z1.out.symm) ?_; rintro e w'' ⟨rfl, S'⟩; have S3 : Aside (SWK enc k w0 blk off d2 w'') := (by rw [HD2.out, if_pos (by omega)]; exact S'); clear S'))
            all_goals (go_end0; refine ⟨rfl, ?_⟩; rw [EQ.out, if_neg (by omega)]; exact S3.out)
        · as_aux_lemma =>
            have hf2 : i + fin = mid + m := by have := HF.out; omega
            have ga : ¬ (a : Int) < (i : Int) := by omega
            have gm : (i : Int) < (m : Int) := by omega
            have gf : (m : Int) < (fin : Int) := by omega
            have gb : (fin : Int) < (b : Int) := by omega
            have gi : (i : Int) < (mid : Int) := by omega
            have gd : (mid : Int) < (fin : Int) := by omega
            go_wp2_with (first | (go_at_call 41; refine Calls.mono (rot_calls k aE zE enc _ blk off cap i m fin (fin - i) _ _ _ rfl rfl rfl d0 d w0 _ R hs S1.out (by omega) (by omega) (by omega) (by omega) (by omega) _ rfl) ?_; rintro e w' ⟨rfl, S'⟩; have S2 : Aside (SWK enc k w0 blk off d1 w') := (by rw [HD1.out, if_pos (by omega)]; exact S'); clear S'; have S3 : Aside (SWK enc k w0 blk off d2 w') := (by rw [HD2.out, if_neg (by omega)]; exact S2)) | (go_at_call 37; refine Calls.mono (IH.out mid fin b _ _ _ rfl rfl rfl d2 _ (hs.trans Z2.out.symm) S3.out (by omega) (by omega) (by have := Z2.out; omega) (by omega) _ Z2.out.symm) ?_; rintro e w4 ⟨rfl, S'⟩))
            all_goals (go_end0; refine ⟨rfl, ?_⟩; rw [EQ.out, if_pos (by omega)]; exact S')
        · as_aux_lemma =>
            have hf2 : i + fin = mid + m := by have := HF.out; omega
            have ga : ¬ (a : Int) < (i : Int) := by omega
            have gm : (i : Int) < (m : Int) := by omega
            have gf : ¬ (m : Int) < (fin : Int) := by omega
            have gb : (fin : Int) < (b : Int) := by omega
            have gi : ¬ (i : Int) < (mid : Int) := by omega
            have gd : (mid : Int) < (fin : Int) := by omega
            have S2 : Aside (SWK enc k w0 blk off d1 wr) := (by rw [HD1.out, if_neg (by omega)]; exact S1)
            have S3 : Aside (SWK enc k w0 blk off d2 wr) := (by rw [HD2.out, if_neg (by omega)]; exact S2)
            go_wp2_with (first | (go_at_call 37; refine Calls.mono (IH.out mid fin b _ _ _ rfl rfl rfl d2 _ (hs.trans Z2.out.symm) S3.out (by omega) (by omega) (by have := Z2.out; omega) (by omega) _ Z2.out.symm) ?_; rintro e w4 ⟨rfl, S'⟩))
            all_goals (go_end0; refine ⟨rfl, ?_⟩; rw [EQ.out, if_pos (by omega)]; exact S')
        · as_aux_lemma =>
            have hf2 : i + fin = mid + m := by have := HF.out; omega
            have ga : ¬ (a : Int) < (i : Int) := by omega
            have gm : (i : Int) < (m : Int) := by omega
            have gf : (m : Int) < (fin : Int) := by omega
            have gb : ¬ (fin : Int) < (b : Int) := by omega
            have gi : (i : Int) < (mid : Int) := by omega
            have gd : (mid : Int) < (fin : Int) := by omega
            go_wp2_with (first | (go_at_call 41; refine Calls.mono (rot_calls k aE zE enc _ blk off cap i m fin (fin - i) _ _ _ rfl rfl rfl d0 d w0 _ R hs S1.out (by omega) (by omega) (by omega) (by omega) (by omega) _ rfl) ?_; rintro e w' ⟨rfl, S'⟩; have S2 : Aside (SWK enc k w0 blk off d1 w') := (by rw [HD1.out, if_pos (by omega)]; exact S'); clear S'; have S3 : Aside (SWK enc k w0 blk off d2 w') := (by rw [HD2.out, if_neg (by omega)]; exact S2)))
            all_goals (go_end0; refine ⟨rfl, ?_⟩; rw [EQ.out, if_neg (by omega)]; exact S3.out)
        · as_aux_lemma =>
            have hf2 : i + fin = mid + m := by have := HF.out; omega
            have ga : (a : Int) < (i : Int) := by omega
            have gm : ¬ (i : Int) < (m : Int) := by omega
            have gf : (m : Int) < (fin : Int) := by omega
            have gb : (fin : Int) < (b : Int) := by omega
            have gi : (i : Int) < (mid : Int) := by omega
            have gd : ¬ (mid : Int) < (fin : Int) := by omega
            have S2 : Aside (SWK enc k w0 blk off d1 wr) := (by rw [HD1.out, if_neg (by omega)]; exact S1)
            have tok1 : True := trivial
            go_wp2_with (first | (go_at_call 37; have _t := tok1; clear tok1 _t; refine Calls.mono (IH.out a i mid _ _ _ rfl rfl rfl d1 _ (hs.trans Z1.out.symm) S2.out (by omega) (by omega) (by have := Z1.out; omega) (by omega) _ Z1.out.symm) ?_; rintro e w'' ⟨rfl, S'⟩; have S3 : Aside (SWK enc k w0 blk off d2 w'') := (by rw [HD2.out, if_pos (by omega)]; exact S'); clear S'))
            all_goals (go_end0; refine ⟨rfl, ?_⟩; rw [EQ.out, if_neg (by omega)]; exact S3.out)
        · as_aux_lemma =>
            have hf2 : i + fin = mid + m := by have := HF.out; omega
            have ga : (a : Int) < (i : Int) := by omega
            have gm : ¬ (i : Int) < (m : Int) := by omega
            have gf : ¬ (m : Int) < (fin : Int) := by omega
            have gb : (fin : Int) < (b : Int) := by omega
            have gi : ¬ (i : Int) < (mid : Int) := by omega
            have gd : ¬ (mid : Int) < (fin : Int) := by omega
            have S2 : Aside (SWK enc k w0 blk off d1 wr) := (by rw [HD1.out, if_neg (by omega)]; exact S1)
            have S3 : Aside (SWK enc k w0 blk off d2 wr) := (by rw [HD2.out, if_neg (by omega)]; exact S2)
            go_wp2_with fail
            all_goals (go_end0; refine ⟨rfl, ?_⟩; rw [EQ.out, if_neg (by omega)]; exact S3.out)
        · as_aux_lemma =>
            have hf2 : i + fin = mid + m := by have := HF.out; omega
            have ga : (a : Int) < (i : Int) := by omega
            have gm : ¬ (i : Int) < (m : Int) := by omega
            have gf : (m : Int) < (fin : Int) := by omega
            have gb : ¬ (fin : Int) < (b : Int) := by omega
            have gi : (i : Int) < (mid : Int) := by omega
            have gd : ¬ (mid : Int) < (fin : Int) := by omega
            have S2 : Aside (SWK enc k w0 blk off d1 wr) := (by rw [HD1.out, if_neg (by omega)]; exact S1)
            have tok1 : True := trivial
            go_wp2_with (first | (go_at_call 37; have _t := tok1; clear tok1 _t; refine Calls.mono (IH.out a i mid _ _ _ rfl rfl rfl d1 _ (hs.trans Z1.out.symm) S2.out (by omega) (by omega) (by have := Z1.out; omega) (by omega) _ Z1.out.symm) ?_; rintro e w'' ⟨rfl, S'⟩; have S3 : Aside (SWK enc k w0 blk off d2 w'') := (by rw [HD2.out, if_pos (by omega)]; exact S'); clear S'))
            all_goals (go_end0; refine ⟨rfl, ?_⟩; rw [EQ.out, if_neg (by omega)]; exact S3.out)
end Go.Proofs.Ytjhgdlgdejcmjaa.L
