/- The law's wakes, walked. By an AI agent of this work. -/
import Derived.Test.YtjhgdlgdejcmjaaLP
namespace Go.Proofs.Ytjhgdlgdejcmjaa.L
open Go.Shelf Go.RowKit Go.Lib Go.Sort Go.Maps Go.Proofs.Ytjhgdlgdejcmjaa.Q Go.Proofs.YtjhgdlgdejcmjaaW.PrintWords Go.Proofs.YtjhgdlgdejcmjaaW.PrintLast Go.Proofs.YtjhgdlgdejcmjaaW.PrintMore
set_option linter.unusedVariables false
set_option linter.unusedSimpArgs false
set_option linter.unusedSectionVars false
theorem srt_one (g : Gr) : srt [g] = [g] := List.perm_singleton.1 (srt_perm [g] (List.pairwise_singleton _ _))
theorem gone1 : goneL [⟨1, 7, 20⟩] 20 = [⟨1, 7, 20⟩] := srt_one _
theorem rest1 : restL [⟨1, 7, 20⟩] 20 = [] := by decide
theorem of0 : (ofL [] 7).2 = false := rfl
theorem of1 : (ofL [⟨1, 7, 20⟩] 7).2 = true := by decide
theorem wf7 : (Lit.int .i64 7).wf = true := rfl
theorem wf20 : (Lit.int .u64 20).wf = true := rfl
theorem wf40 : (Lit.int .u64 40).wf = true := rfl
theorem g1 (w : World) {b ba bo : Nat} (T : TB w b ba bo 0 []) : Calls Try.prog 7 #[.pointer (some ⟨b, 0, none⟩), .int .i64 7, .int .u64 20] w fun e w' => e = .returned (.tuple #[.int .i64 1, .int .i64 0]) ∧ TB w' b ba bo 1 [⟨1, 7, 20⟩] ∧ Fr (fun k => k = b ∨ k = ba ∨ k = bo) w w' := grant_new w T 7 20 wf7 wf20 of0 (by decide)
theorem g2 (w : World) {b ba bo : Nat} (T : TB w b ba bo 1 [⟨1, 7, 20⟩]) (u : Int) : Calls Try.prog 7 #[.pointer (some ⟨b, 0, none⟩), .int .i64 7, .int .u64 u] w fun e w' => e = .returned (.tuple #[.int .i64 0, .int .i64 8]) ∧ w' = w := grant_twice w T 7 u wf7 of1
theorem g3 (w : World) {b ba bo : Nat} (T : TB w b ba bo 1 [⟨1, 7, 20⟩]) : Calls Try.prog 10 #[.pointer (some ⟨b, 0, none⟩), .int .u64 20] w fun e w' => ∃ v, e = .returned v ∧ w'.ownsRow w.heap.size 38 3 v 1 (cellsOf [⟨1, 7, 20⟩]) ∧ TB w' b ba bo 1 [] ∧ Fr (fun k => k = b ∨ k = ba ∨ k = bo) w w' := by
  have := over_calls w T 20
  rw [gone1, rest1] at this
  exact this
theorem g4 (w : World) {b ba bo : Nat} (T : TB w b ba bo 1 []) : Calls Try.prog 7 #[.pointer (some ⟨b, 0, none⟩), .int .i64 7, .int .u64 40] w fun e w' => e = .returned (.tuple #[.int .i64 2, .int .i64 0]) ∧ TB w' b ba bo 2 [⟨2, 7, 40⟩] ∧ Fr (fun k => k = b ∨ k = ba ∨ k = bo) w w' := grant_new w T 7 40 wf7 wf40 of0 (by decide)
set_option maxHeartbeats 1000000 in
set_option maxRecDepth 100000 in
theorem wakes_calls (w : World) : Calls Try.prog 11 #[] w fun e w' => e = .returned (.bool true) ∧ Below w.heap.size w w' := by
  have hu := Try.underlying38
  have hu34 := Try.underlying34
  go_enter Try.func11, Try.ntmps11
  go_wp2_with (first
    | (go_at_call 6; refine Calls.mono (new_calls _) ?_; rintro e w1 ⟨rfl, T1, b1⟩))
  go_at_call 7
  refine Calls.mono (g1 w1 T1) ?_
  rintro e w2 ⟨rfl, T2, f2⟩
  go_wp2_with fail
  go_at_call 7
  refine Calls.mono (g2 w2 T2 30) ?_
  rintro e w3 ⟨rfl, rfl⟩
  go_wp2_with fail
  go_at_call 10
  refine Calls.mono (g3 w3 T2) ?_
  rintro e w4 ⟨v, rfl, ho, T3, f3⟩
  go_wp2_with fail
  go_at_call 7
  refine Calls.mono (g4 w4 T3) ?_
  rintro e w5 ⟨rfl, T4, f4⟩
  have ho4 := own_kept ho f4 (fun k hk hh => by have := b1.size; have := f2.size; have := T1.lt; omega)
  have B : Below w.heap.size w w5 := ((f2.trans f3).trans f4).below b1 (fun i hi => by omega)
  obtain ⟨A, c, rfl⟩ := own_slice ho4
  obtain ⟨g, rfl, hc⟩ := (OR.of_own rfl ho4).cell (k := 0) (by decide)
  obtain ⟨c0, c1, c2⟩ := three (x := ⟨1, 7, 20⟩) hc
  simp only [Nat.zero_mul, Nat.zero_add] at c0 c1 c2
  have HB : Aside (Below w.heap.size w w5) := B
  clear hc ho ho4 f2 f3 f4 B T1 T2 T3 T4 b1
  go_wp2_with fail
  go_ret
  exact ⟨rfl, HB.out⟩
end Go.Proofs.Ytjhgdlgdejcmjaa.L
