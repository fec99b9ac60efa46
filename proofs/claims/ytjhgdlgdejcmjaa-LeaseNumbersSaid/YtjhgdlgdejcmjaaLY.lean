/- slices.SortStableFunc's parts, walked (3): symMerge. By an AI agent of this work (written by its program gen_sort.py). -/
import Derived.Test.YtjhgdlgdejcmjaaLYa
import Derived.Test.YtjhgdlgdejcmjaaLYb
import Derived.Test.YtjhgdlgdejcmjaaLYc
import Derived.Test.YtjhgdlgdejcmjaaLYd
import Derived.Deep.Cut
import Derived.Deep.CutRange
import Derived.Deep.CutBlock
import Derived.Deep.DeepCutAuto
namespace Go.Proofs.Ytjhgdlgdejcmjaa.L
open Go.Shelf Go.RowKit Go.Lib Go.Sort
set_option linter.unusedVariables false
set_option linter.unusedSectionVars false
set_option linter.unusedSimpArgs false
variable {α : Type} [Inhabited α]

theorem sym_calls (k : Nat) (aE : ∀ w, (isAgg 38).run Try.prog w = .ok true w) (zE : ∀ w, (Go.sizeOf 38).run Try.prog w = .ok k w) (enc : α → List Value) (blk off cap : Nat) (cf : α → α → Int) (d0 : Array α) (w0 : World)
    (hcmp : CmpLays Try.prog 25 #[] enc k cf blk off d0.size w0) (R : RowK enc k w0 blk off d0) (hsz : d0.size < 4611686018427387904) : ∀ (n : Nat) (a m b : Nat) (za zm zb : Int) (ea : za = a) (em : zm = m) (eb : zb = b) (d : Array α) (w : World) (hs : d0.size = d.size) (S : SWK enc k w0 blk off d w)
    (h1 : a < m) (h2 : m < b) (h3 : b ≤ d.size) (hn : b - a ≤ n + 1) (N : Nat) (hN : N = d.size),
    Calls Try.prog 37 #[.slice (some ⟨blk, off, none⟩) N cap, .int .i64 za, .int .i64 zm, .int .i64 zb, .func (.func 25) #[] #[]] w fun e w' => e = .returned (.tuple #[]) ∧ SWK enc k w0 blk off (symF (ltOf cf) n a m b d) w' := by
  intro n
  induction n with
  | zero => intros; omega
  | succ n ih =>
  intro a m b za zm zb ea em eb d w hs S h1 h2 h3 hn N hN
  by_cases e1 : m - a = 1
  · exact sym_a k aE zE enc blk off cap cf d0 w0 hcmp R hsz n ih a m b za zm zb ea em eb d w hs S h1 h2 h3 hn N hN e1
  · by_cases e2 : b - m = 1
    · exact sym_b k aE zE enc blk off cap cf d0 w0 hcmp R hsz n ih a m b za zm zb ea em eb d w hs S h1 h2 h3 hn N hN e1 e2
    · obtain ⟨mid, hmid⟩ : ∃ mid : Nat, mid = (a + b) / 2 := ⟨_, rfl⟩
      obtain ⟨s0, hs0⟩ : ∃ s0 : Nat, s0 = (if mid < m then mid + m - b else a) := ⟨_, rfl⟩
      obtain ⟨r0, hr0⟩ : ∃ r0 : Nat, r0 = (if mid < m then mid else m) := ⟨_, rfl⟩
      have hsr : s0 ≤ r0 ∧ a ≤ s0 ∧ r0 ≤ m ∧ r0 ≤ mid ∧ mid + m ≤ s0 + b := by
        by_cases c : mid < m
        · rw [if_pos c] at hs0 hr0; omega
        · rw [if_neg c] at hs0 hr0; omega
      by_cases c : mid < m
      · exact sym_c k aE zE enc blk off cap cf d0 w0 hcmp R hsz n ih a m b za zm zb ea em eb d w hs S h1 h2 h3 hn N hN e1 e2 mid s0 r0 hmid hs0 hr0 hsr c (show Aside _ from by rw [if_pos c] at hs0 hr0; exact And.intro (by omega) hr0)
      · exact sym_d k aE zE enc blk off cap cf d0 w0 hcmp R hsz n ih a m b za zm zb ea em eb d w hs S h1 h2 h3 hn N hN e1 e2 mid s0 r0 hmid hs0 hr0 hsr c (show Aside _ from by rw [if_neg c] at hs0 hr0; exact And.intro hs0 hr0)
end Go.Proofs.Ytjhgdlgdejcmjaa.L
