/- remontoirref02.add by hand: an unsigned division, which the print tells by another division than the walk does. By an AI agent of this work. -/
import Derived.Test.YtflnkchpfbcgiaaGreatDoorQx0
namespace Go.Proofs.YtflnkchpfbcgiaaGreatDoor.Q
open Go.RowKit Go.Proofs.YtflnkchpfbcgiaaGreatDoorW.PrintWords Go.Proofs.YtflnkchpfbcgiaaGreatDoorW.PrintLast Go.Proofs.YtflnkchpfbcgiaaGreatDoorW.PrintMore
attribute [local go_sem] max2_int min2_int max_two min_two max_three min_three max_four min_four
set_option linter.unusedVariables false
set_option linter.unusedSimpArgs false
def addR (s n u : Int) : Int := if n > 1125899906842624 / u then 1125899906842625 else (if s + n * u ≤ 1125899906842625 then s + n * u else 1125899906842625)
def remontoirref02_add.f (a0 a1 a2 : Int) : Option Int := if 0 ≤ a0 ∧ a0 ≤ 1125899906842625 ∧ 0 ≤ a1 ∧ a1 < 1000000000000000 ∧ 0 < a2 ∧ a2 ≤ 604800 then some (addR a0 a1 a2) else none
theorem ret_u64 {a b : Int} (h : a = b) : Ending.returned (.int .u64 a) = Ending.returned (.int .u64 b) := by rw [h]
theorem addR_u64_in {x : Int} (h0 : 0 ≤ x) (h1 : x < 18446744073709551616) : IntKind.u64.wrap x = x := by
  simp [IntKind.wrap, IntKind.bits, IntKind.signed]
  omega
set_option maxHeartbeats 8000000 in
set_option maxRecDepth 100000 in
theorem remontoirref02_add.calls (a0 a1 a2 r : Int) (w : World) (h : remontoirref02_add.f a0 a1 a2 = some r) :
    Calls Tryz.prog 55 #[.int .u64 a0, .int .u64 a1, .int .u64 a2] w fun e w' => e = .returned (.int .u64 r) ∧ Below w.heap.size w w' := by
  unfold remontoirref02_add.f at h
  split at h
  · rename_i hc
    obtain ⟨h0, h1, h2, h3, h4, h5⟩ := hc
    have HR := Aside0.mk (Option.some.inj h)
    clear h
    have ht : Int.tdiv 1125899906842624 a2 = 1125899906842624 / a2 := Int.tdiv_eq_ediv_of_nonneg (by decide)
    have hd0 : 0 ≤ 1125899906842624 / a2 := Int.ediv_nonneg (by decide) (by omega)
    have hd1 : 1125899906842624 / a2 ≤ 1125899906842624 := Int.ediv_le_self _ (by decide)
    have hw : IntKind.u64.wrap (Int.tdiv 1125899906842624 a2) = 1125899906842624 / a2 := by rw [ht]; exact addR_u64_in hd0 (by omega)
    have hm : 0 ≤ a1 * a2 := Int.mul_nonneg h2 (by omega)
    have hle : ¬ a1 > 1125899906842624 / a2 → a1 * a2 ≤ 1125899906842624 := by
      intro h
      have k1 : a1 ≤ 1125899906842624 / a2 := by omega
      have k2 := Int.mul_le_mul_of_nonneg_right k1 (show 0 ≤ a2 by omega)
      have k3 := Int.ediv_mul_le 1125899906842624 (show a2 ≠ 0 by omega)
      omega
    have c4b0 : (a2 == 0) = false := beq_eq_false_iff_ne.mpr (by omega)
    by_cases c5 : a1 > 1125899906842624 / a2
    · have c5b0 : decide (1125899906842624 / a2 < a1) = true := decide_eq_true c5
      have HV : Aside0 (addR a0 a1 a2 = 1125899906842625) := ⟨by unfold addR; rw [if_pos c5]⟩
      clear hw ht hd0 hd1 hm hle c5 h0 h1 h2 h3 h5
      go_enter Tryz.func55, Tryz.ntmps55
      go_wp2
      all_goals first
        | (go_ret; exact ⟨ret_u64 (a := 1125899906842625) (by rw [← HR.out, HV.out]), Below.refl _ _⟩)
        | (exfalso; simp only [decide_eq_true_eq] at c5b0; omega)
    · have c5b0 : decide (1125899906842624 / a2 < a1) = false := decide_eq_false c5
      have hp := hle c5
      have hp1 : IntKind.u64.wrap (a1 * a2) = a1 * a2 := addR_u64_in hm (by omega)
      have hp2 : IntKind.u64.wrap (a0 + IntKind.u64.wrap (a1 * a2)) = a0 + a1 * a2 := by rw [hp1]; exact addR_u64_in (by omega) (by omega)
      have HV : Aside0 (addR a0 a1 a2 = if 1125899906842625 < IntKind.u64.wrap (a0 + IntKind.u64.wrap (a1 * a2)) then 1125899906842625 else IntKind.u64.wrap (a0 + IntKind.u64.wrap (a1 * a2))) := ⟨by
        unfold addR
        rw [if_neg c5, hp2]
        split <;> split <;> omega⟩
      clear hw ht hd0 hd1 hm hle c5 hp hp1 hp2 h0 h1 h2 h3 h5
      go_enter Tryz.func55, Tryz.ntmps55
      go_wp2
      all_goals first
        | (go_ret; exact ⟨ret_u64 (a := 1125899906842625) (by rw [← HR.out, HV.out, if_pos (by omega)]), Below.refl _ _⟩)
        | (go_ret; exact ⟨ret_u64 (a := IntKind.u64.wrap (a0 + IntKind.u64.wrap (a1 * a2))) (by rw [← HR.out, HV.out, if_neg (by omega)]), Below.refl _ _⟩)
        | (exfalso; simp only [decide_eq_false_iff_not] at c5b0; omega)
  · exact absurd h (by simp)
end Go.Proofs.YtflnkchpfbcgiaaGreatDoor.Q
