/- slices.SortStableFunc's parts, walked (2): rotate, insertionSort, symMerge, stable. By an AI agent of this work (written by its program gen_sort.py). -/
import Derived.Test.YtjhgdlgdejcmjaaLW
namespace Go.Proofs.Ytjhgdlgdejcmjaa.L
open Go.Shelf Go.RowKit Go.Lib Go.Sort
set_option linter.unusedVariables false
set_option linter.unusedSectionVars false
set_option linter.unusedSimpArgs false
variable {α : Type} [Inhabited α]
theorem cmpE {enc : α → List Value} {k : Nat} {w0 W : World} {blk off : Nat} {dk : Array α} {g : Nat} {cf : α → α → Int} {size : Nat} (h : SWK enc k w0 blk off dk W) (hC : CmpLays Try.prog g #[] enc k cf blk off size w0) (hs : dk.size = size) (x y : α) (n : Nat) (os : Array Obj) :
    Calls Try.prog g #[.agg (enc x).toArray, .agg (enc y).toArray] (grow (W.drewN n) os) fun e w' => e = .returned (.int .i64 (cf x y)) ∧ ∃ q os', w' = grow ((grow (W.drewN n) os).drewN q) os' := by
  have := h.cmp hC hs x y n os
  rwa [Array.append_empty] at this
/-- swapRange with its numbers as the walk spells them. -/
theorem swr_calls' (k : Nat) (aE : ∀ w, (isAgg 38).run Try.prog w = .ok true w) (zE : ∀ w, (Go.sizeOf 38).run Try.prog w = .ok k w) (enc : α → List Value) (fv : Value) (blk off cap a b n : Nat) (za zb zn : Int) (ea : za = a) (eb : zb = b) (en : zn = n) (d0 d : Array α) (w0 w : World)
    (R : RowK enc k w0 blk off d0) (hs : d0.size = d.size) (S : SWK enc k w0 blk off d w) (ha : a + n ≤ d.size) (hb : b + n ≤ d.size) (hsz : d.size < 4611686018427387904) (N : Nat) (hN : N = d.size) :
    Calls Try.prog 53 #[.slice (some ⟨blk, off, none⟩) N cap, .int .i64 za, .int .i64 zb, .int .i64 zn, fv] w fun e w' => e = .returned (.tuple #[]) ∧ SWK enc k w0 blk off (swr n a b d) w' := by
  subst ea eb en hN
  exact swr_calls k aE zE enc fv blk off cap a b n d0 d w0 w R hs S ha hb hsz

set_option maxHeartbeats 8000000 in
set_option maxRecDepth 1000000 in
theorem rot_calls (k : Nat) (aE : ∀ w, (isAgg 38).run Try.prog w = .ok true w) (zE : ∀ w, (Go.sizeOf 38).run Try.prog w = .ok k w) (enc : α → List Value) (fv : Value) (blk off cap a m b fu : Nat) (za zm zb : Int) (ea : za = a) (em : zm = m) (eb : zb = b) (d0 d : Array α) (w0 w : World)
    (R : RowK enc k w0 blk off d0) (hs : d0.size = d.size) (S : SWK enc k w0 blk off d w) (h1 : a < m) (h2 : m < b) (h3 : b ≤ d.size) (hfu : b - a ≤ fu) (hsz : d.size < 4611686018427387904) (N : Nat) (hN : N = d.size) :
    Calls Try.prog 41 #[.slice (some ⟨blk, off, none⟩) N cap, .int .i64 za, .int .i64 zm, .int .i64 zb, fv] w fun e w' => e = .returned (.tuple #[]) ∧ SWK enc k w0 blk off (rot fu m (m - a) (b - m) d) w' := by
  subst ea em eb hN
  have S0 : Aside (SWK enc k w0 blk off d w) := S
  clear S
  have hu := Try.underlying34; have mixed := mixed; have t3 := Try.underlying3; have a3 := a3; have z3 := z3; have v3 := v3; have t4 := Try.underlying4; have eg : ∀ args w, (callFunc 25 args).run Try.prog w = .ok (.enter 25 args) w := enters_of Try.func25 (by kernel_rfl) rfl
  go_enter Try.func41, Try.ntmps41
  go_wp2
  go_loopg [10, 11] fu (fun kx s10 s11 wr => ∃ (i j : Nat) (zi zj : Int) (dk : Array α), s10 = .int .i64 zi ∧ s11 = .int .i64 zj ∧ zi = i ∧ zj = j ∧ 0 < i ∧ 0 < j ∧ i + j ≤ kx ∧ i ≤ m ∧ m + j ≤ d.size ∧ dk.size = d.size ∧ Aside (SWK enc k w0 blk off dk wr) ∧ Hid (rot kx m i j dk = rot fu m (m - a) (b - m) d))
  case atStart => exact ⟨m - a, b - m, _, _, d, rfl, rfl, by omega, by omega, by omega, by omega, by omega, by omega, by omega, rfl, S0, rfl⟩
  case round =>
    clear S0
    obtain ⟨i, j, zi, zj, dk, rfl, rfl, ei, ej, hi, hj, hkx, him, hmj, hds, S1, HE⟩ := hrel
    obtain rfl := ei
    obtain rfl := ej
    cases gk with
    | zero => omega
    | succ kx =>
    by_cases e : i = j
    · subst e
      have ez : ((i : Int) != (i : Int)) = false := by simp
      go_wp2_with (first | (go_at_call 53; refine Calls.mono (swr_calls' k aE zE enc _ blk off cap (m - i) m i _ _ _ (by omega) rfl rfl d0 dk w0 _ R (by omega) S1.out (by omega) (by omega) (by omega) _ hds.symm) ?_; rintro e w' ⟨rfl, S2⟩))
      go_end0
      refine ⟨rfl, ?_⟩
      have := HE.out
      simp only [rot, if_true] at this
      rw [← this]
      exact S2
    · have ez : ((i : Int) != (j : Int)) = true := by simp; omega
      by_cases l : j < i
      · have lz : (j : Int) < (i : Int) := by omega
        go_wp2_with (first | (go_at_call 53; refine Calls.mono (swr_calls' k aE zE enc _ blk off cap (m - i) m j _ _ _ (by omega) rfl rfl d0 dk w0 _ R (by omega) S1.out (by omega) (by omega) (by omega) _ hds.symm) ?_; rintro e w' ⟨rfl, S2⟩))
        go_roundg kx
        case measure => omega
        case rel =>
          have h := HE.out
          simp only [rot] at h
          rw [if_neg e, if_pos l] at h
          exact ⟨i - j, j, _, _, _, rfl, rfl, by omega, by omega, by omega, hj, by omega, by omega, hmj, by rw [swr_size]; exact hds, S2, h⟩
      · have lz : ¬ (j : Int) < (i : Int) := by omega
        go_wp2_with (first | (go_at_call 53; refine Calls.mono (swr_calls' k aE zE enc _ blk off cap (m - i) (m + j - i) i _ _ _ (by omega) (by omega) rfl d0 dk w0 _ R (by omega) S1.out (by omega) (by omega) (by omega) _ hds.symm) ?_; rintro e w' ⟨rfl, S2⟩))
        go_roundg kx
        case measure => omega
        case rel =>
          have h := HE.out
          simp only [rot] at h
          rw [if_neg e, if_neg l] at h
          exact ⟨i, j - i, _, _, _, rfl, rfl, by omega, by omega, hi, by omega, by omega, him, by omega, by rw [swr_size]; exact hds, S2, h⟩

set_option maxHeartbeats 8000000 in
set_option maxRecDepth 1000000 in
theorem ins_calls (k : Nat) (aE : ∀ w, (isAgg 38).run Try.prog w = .ok true w) (zE : ∀ w, (Go.sizeOf 38).run Try.prog w = .ok k w) (enc : α → List Value) (blk off cap a b : Nat) (za zb : Int) (ea : za = a) (eb : zb = b) (cf : α → α → Int) (d0 d : Array α) (w0 w : World)
    (hcmp : CmpLays Try.prog 25 #[] enc k cf blk off d.size w0) (R : RowK enc k w0 blk off d0) (hs : d0.size = d.size) (S : SWK enc k w0 blk off d w) (hab : a ≤ b) (hb : b ≤ d.size) (hsz : d.size < 4611686018427387904) (N : Nat) (hN : N = d.size) :
    Calls Try.prog 36 #[.slice (some ⟨blk, off, none⟩) N cap, .int .i64 za, .int .i64 zb, .func (.func 25) #[] #[]] w fun e w' => e = .returned (.tuple #[]) ∧ SWK enc k w0 blk off (insertionSort (ltOf cf) d a b) w' := by
  subst ea eb hN
  have HC : Aside _ := hcmp
  have S0 : Aside (SWK enc k w0 blk off d w) := S
  clear S hcmp
  have hu := Try.underlying34; have mixed := mixed; have t3 := Try.underlying3; have a3 := a3; have z3 := z3; have v3 := v3; have t4 := Try.underlying4; have eg : ∀ args w, (callFunc 25 args).run Try.prog w = .ok (.enter 25 args) w := enters_of Try.func25 (by kernel_rfl) rfl
  go_enter Try.func36, Try.ntmps36
  go_wp2
  go_loopg [8] (b - a) (fun kx vi wr => ∃ (i : Nat) (dk : Array α), vi = .int .i64 i ∧ a < i ∧ b - i ≤ kx ∧ dk.size = d.size ∧ Aside (SWK enc k w0 blk off dk wr) ∧ Hid (insOuter (ltOf cf) a b i dk = insOuter (ltOf cf) a b (a + 1) d))
  case atStart => exact ⟨a + 1, d, by go_num, by omega, by omega, rfl, S0, rfl⟩
  case round =>
    clear S0
    obtain ⟨i, dk, rfl, hai, hkx, hds, S1, HO⟩ := hrel
    by_cases hlt : i < b
    · have hltz : (i : Int) < (b : Int) := by omega
      go_wp2
      go_loopg [9] i (fun kx vj wr => ∃ (j : Nat) (dj : Array α), vj = .int .i64 j ∧ a ≤ j ∧ j ≤ i ∧ j ≤ kx ∧ dj.size = d.size ∧ Aside (SWK enc k w0 blk off dj wr) ∧ Hid (insInner (ltOf cf) a j dj = insInner (ltOf cf) a i dk))
      case atStart => exact ⟨i, dk, rfl, by omega, Nat.le_refl _, Nat.le_refl _, hds, S1, rfl⟩
      case round =>
        clear S1
        obtain ⟨j, dj, rfl, haj, hji, hkx2, hdj, S1, HI⟩ := hrel
        have out : (j ≤ a ∨ ltOf cf dj[j]! dj[j - 1]! = false) → Hid (insOuter (ltOf cf) a b (i + 1) dj = insOuter (ltOf cf) a b (a + 1) d) := fun hs => by
          show _ = _
          rw [← HO.out, insOuter_go _ _ _ _ _ hlt, ← HI.out, insInner_stop _ _ _ _ hs]
        have OUT : Aside _ := out
        clear out
        by_cases hja : a < j
        · have hjaz : (a : Int) < (j : Int) := by omega
          obtain ⟨jp, rfl⟩ : ∃ jp, j = jp + 1 := ⟨j - 1, by omega⟩
          have hwp : IntKind.i64.wrap (jp : Int) = (jp : Int) := by rw [IntKind.wrap_i64]; omega
          have hjaz' : (a : Int) < (jp : Int) + 1 := by omega
          cases hL : ltOf cf dj[jp + 1]! dj[jp]! with
          | true =>
            have ea1 : ((jp : Int) + 1).toNat = jp + 1 := by omega
            have pa1 : (0 : Int) ≤ (jp : Int) + 1 := by omega
            have ba1 : (jp : Int) + 1 < (d.size : Int) := by omega
            have ra1 : IntKind.i64.wrap ((jp : Int) + 1) = (jp : Int) + 1 := by rw [IntKind.wrap_i64]; omega
            have ec1 : ((jp : Int)).toNat = jp := by omega
            have pc1 : (0 : Int) ≤ (jp : Int) := by omega
            have bc1 : (jp : Int) < (d.size : Int) := by omega
            have rc1 : IntKind.i64.wrap ((jp : Int)) = (jp : Int) := by rw [IntKind.wrap_i64]; omega
            obtain ⟨x1, hx1⟩ : ∃ x, x = dj[jp + 1]! := ⟨_, rfl⟩
            obtain ⟨y1, hy1⟩ : ∃ x, x = dj[jp]! := ⟨_, rfl⟩
            have l1a := S1.out.ld R (by omega) Try.prog (jp + 1) (by omega)
            have l1b := S1.out.ld R (by omega) Try.prog (jp) (by omega)
            rw [← hx1] at l1a
            rw [← hy1] at l1b
            have hc1 := cmpE S1.out HC.out (by omega) x1 y1
            have hv1 : cf x1 y1 < 0 := by rw [hx1, hy1]; exact of_decide_eq_true hL
            have hd1 : decide (cf x1 y1 < 0) = true := decide_eq_true hv1
            clear hx1 hy1
            go_wp2_with fail
            go_quiet_grown (first | (go_at_fn 25; refine Calls.grown_of (hc1 _ _)))
            have S2 : Aside (SWK enc k w0 blk off dj (grow (wr.drewN nq) osq)) := S1.out.grown nq osq
            clear l1a l1b hc1 S1
            generalize grow (wr.drewN nq) osq = w2 at S2 ⊢
            clear nq osq
            go_wp2_with fail
            have ea2 : ((jp : Int) + 1).toNat = jp + 1 := by omega
            have pa2 : (0 : Int) ≤ (jp : Int) + 1 := by omega
            have ba2 : (jp : Int) + 1 < (d.size : Int) := by omega
            have ra2 : IntKind.i64.wrap ((jp : Int) + 1) = (jp : Int) + 1 := by rw [IntKind.wrap_i64]; omega
            have ec2 : ((jp : Int)).toNat = jp := by omega
            have pc2 : (0 : Int) ≤ (jp : Int) := by omega
            have bc2 : (jp : Int) < (d.size : Int) := by omega
            have rc2 : IntKind.i64.wrap ((jp : Int)) = (jp : Int) := by rw [IntKind.wrap_i64]; omega
            have S3 : Aside (SWK enc k w0 blk off (swp dj (jp + 1) (jp)) ((w2.drew.setCells blk (off + (jp + 1) * k) (enc dj[jp]!)).setCells blk (off + (jp) * k) (enc dj[jp + 1]!))) := S2.out.swapped R (jp + 1) (jp) (by omega) (by omega)
            have l2a := S2.out.ld1 R (by omega) Try.prog (jp + 1) (by omega)
            have l2b := S2.out.ld1 R (by omega) Try.prog (jp) (by omega)
            have s2a := S2.out.st1 R (by omega) Try.prog (jp + 1) (by omega) dj[jp]!
            have s2b := S2.out.st2 R (by omega) Try.prog (jp + 1) (jp) (by omega) (by omega) dj[jp]! dj[jp + 1]!
            have n2a : (enc dj[jp + 1]!).length = k := R.hk _
            have n2b : (enc dj[jp]!).length = k := R.hk _
            generalize enc dj[jp + 1]! = cI2 at S3 l2a s2b n2a
            generalize enc dj[jp]! = cJ2 at S3 l2b s2a s2b n2b
            clear S2
            go_wp2_with fail
            go_big_region_o
            clear l2a l2b s2a s2b
            generalize (w2.drew.setCells blk (off + (jp + 1) * k) cJ2).setCells blk (off + (jp) * k) cI2 = w3 at S3 ⊢
            all_goals go_wp2
            go_roundg jp
            case measure => omega
            case rel =>
              refine ⟨jp, swp dj (jp + 1) jp, by first | rfl | go_num | (congr 1; omega), by omega, by omega, Nat.le_refl _, by rw [size_swp]; exact hdj, S3, (show Hid _ from ?_)⟩
              show _ = _
              have := insInner_go (ltOf cf) a (jp + 1) dj hja (by simpa using hL)
              simp only [Nat.add_sub_cancel] at this
              rw [← HI.out, this]
          | false =>
            have ea3 : ((jp : Int) + 1).toNat = jp + 1 := by omega
            have pa3 : (0 : Int) ≤ (jp : Int) + 1 := by omega
            have ba3 : (jp : Int) + 1 < (d.size : Int) := by omega
            have ra3 : IntKind.i64.wrap ((jp : Int) + 1) = (jp : Int) + 1 := by rw [IntKind.wrap_i64]; omega
            have ec3 : ((jp : Int)).toNat = jp := by omega
            have pc3 : (0 : Int) ≤ (jp : Int) := by omega
            have bc3 : (jp : Int) < (d.size : Int) := by omega
            have rc3 : IntKind.i64.wrap ((jp : Int)) = (jp : Int) := by rw [IntKind.wrap_i64]; omega
            obtain ⟨x3, hx3⟩ : ∃ x, x = dj[jp + 1]! := ⟨_, rfl⟩
            obtain ⟨y3, hy3⟩ : ∃ x, x = dj[jp]! := ⟨_, rfl⟩
            have l3a := S1.out.ld R (by omega) Try.prog (jp + 1) (by omega)
            have l3b := S1.out.ld R (by omega) Try.prog (jp) (by omega)
            rw [← hx3] at l3a
            rw [← hy3] at l3b
            have hc3 := cmpE S1.out HC.out (by omega) x3 y3
            have hv3 : ¬ cf x3 y3 < 0 := by rw [hx3, hy3]; exact of_decide_eq_false hL
            have hd3 : decide (cf x3 y3 < 0) = false := decide_eq_false hv3
            clear hx3 hy3
            go_wp2_with fail
            go_quiet_grown (first | (go_at_fn 25; refine Calls.grown_of (hc3 _ _)))
            have S2 : Aside (SWK enc k w0 blk off dj (grow (wr.drewN nq) osq)) := S1.out.grown nq osq
            clear l3a l3b hc3 S1
            generalize grow (wr.drewN nq) osq = w2 at S2 ⊢
            clear nq osq
            go_wp2
            go_roundg (b - (i + 1))
            case measure => omega
            case rel => exact ⟨i + 1, dj, by go_num, by omega, Nat.le_refl _, hdj, S2, OUT.out (.inr (by simpa using hL))⟩
        · have hjaz : decide ((j : Int) > (a : Int)) = false := decide_eq_false (by omega)
          have hjaz' : ¬ (a : Int) < (j : Int) := by omega
          have S2 : Aside (SWK enc k w0 blk off dj wr.drew) := S1.out.drew
          clear S1
          go_wp2_with fail
          go_big_region_o
          all_goals go_wp2
          go_roundg (b - (i + 1))
          case measure => omega
          case rel => exact ⟨i + 1, dj, by go_num, by omega, Nat.le_refl _, hdj, S2, OUT.out (.inl (by omega))⟩
    · have hltz : ¬ (i : Int) < (b : Int) := by omega
      go_wp2
      go_end0
      refine ⟨rfl, ?_⟩
      have := HO.out
      rw [insOuter_stop _ _ _ _ _ hlt] at this
      unfold Sort.insertionSort
      rw [← this]
      exact S1.out
end Go.Proofs.Ytjhgdlgdejcmjaa.L
