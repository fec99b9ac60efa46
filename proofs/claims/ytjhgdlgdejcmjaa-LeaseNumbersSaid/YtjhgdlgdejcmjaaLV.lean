/- What a lease is; the two closures of Over, cmp.Compare at uint64, walked. By an AI agent of this work. -/
import Derived.Test.YtjhgdlgdejcmjaaLW
namespace Go.Proofs.Ytjhgdlgdejcmjaa.L
open Go.Shelf Go.RowKit Go.Lib Go.Sort
set_option linter.unusedVariables false
set_option linter.unusedSimpArgs false
set_option linter.unusedSectionVars false

structure Gr where (n j u : Int)
deriving DecidableEq
instance : Inhabited Gr := ⟨⟨0, 0, 0⟩⟩
def enc (g : Gr) : List Value := [.int .i64 g.n, .int .i64 g.j, .int .u64 g.u]
def cmpU (a b : Int) : Int := if a < b then -1 else if b < a then 1 else 0
def cfU (x y : Gr) : Int := cmpU x.u y.u

theorem isNaN_calls (x : Int) (w : World) : Calls Try.prog 32 #[.int .u64 x] w fun e w' => e = .returned (.bool false) ∧ w = w' := by
  go_enter Try.func32, Try.ntmps32
  go_wp2
  go_ret
  simp
theorem ret_i {a b : Int} (h : a = b) : Ending.returned (.int .i64 a) = .returned (.int .i64 b) := by rw [h]
set_option maxHeartbeats 1000000 in
theorem compare_calls (x y : Int) (w : World) : Calls Try.prog 26 #[.int .u64 x, .int .u64 y] w fun e w' => e = .returned (.int .i64 (cmpU x y)) ∧ w = w' := by
  have hC : (x < y → cmpU x y = -1) ∧ (y < x → cmpU x y = 1) ∧ (¬ x < y → ¬ y < x → cmpU x y = 0) := by
    unfold cmpU
    exact ⟨fun h => by rw [if_pos h], fun h => by rw [if_neg (by omega), if_pos h], fun h1 h2 => by rw [if_neg h1, if_neg h2]⟩
  have HC : Aside _ := hC
  clear hC
  go_enter Try.func26, Try.ntmps26
  by_cases h1 : x < y
  · have h2 : ¬ y < x := by omega
    go_wp2_with (first | (go_at_call 32; refine (isNaN_calls _ _).mono ?_; rintro e w' ⟨rfl, rfl⟩))
    go_ret
    exact ⟨ret_i (HC.out.1 h1).symm, rfl⟩
  · by_cases h2 : y < x
    · go_wp2_with (first | (go_at_call 32; refine (isNaN_calls _ _).mono ?_; rintro e w' ⟨rfl, rfl⟩))
      go_ret
      exact ⟨ret_i (HC.out.2.1 h2).symm, rfl⟩
    · go_wp2_with (first | (go_at_call 32; refine (isNaN_calls _ _).mono ?_; rintro e w' ⟨rfl, rfl⟩))
      go_ret
      exact ⟨ret_i (HC.out.2.2 (by omega) (by omega)).symm, rfl⟩
set_option maxHeartbeats 1000000 in
theorem over2_calls (x y : Gr) (w : World) : Calls Try.prog 25 #[.agg (enc x).toArray, .agg (enc y).toArray] w fun e w' => e = .returned (.int .i64 (cfU x y)) ∧ w' = (w.alloc (.cells (enc x).toArray 38)).alloc (.cells (enc y).toArray 38) := by
  have hu := Try.underlying38
  go_enter Try.func25, Try.ntmps25
  unfold enc
  go_wp2_with (first | (go_at_call 26; refine (compare_calls _ _ _).mono ?_; rintro e w' ⟨rfl, rfl⟩))
  go_ret
  exact ⟨rfl, rfl⟩
end Go.Proofs.Ytjhgdlgdejcmjaa.L
