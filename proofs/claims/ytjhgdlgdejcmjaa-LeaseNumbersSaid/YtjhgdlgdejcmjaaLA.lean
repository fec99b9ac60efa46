/- slices.SortStableFunc's parts as plain functions over an array, and that they sort (no program here). By an AI agent of this work. -/
import Derived.Sort.LotA
namespace Go.Proofs.Ytjhgdlgdejcmjaa.L
open Go.Sort
set_option linter.unusedVariables false
set_option linter.unusedSimpArgs false
set_option linter.unusedSectionVars false
variable {α : Type} [Inhabited α]

/-! ### The parts, after Go's text -/
/-- The lowest i in [i, j) where f is false, by halves. -/
def bsr (f : Nat → Bool) : Nat → Nat → Nat → Nat
  | 0, i, _ => i
  | n + 1, i, j => if i < j then (if f ((i + j) / 2) = true then bsr f n ((i + j) / 2 + 1) j else bsr f n i ((i + j) / 2)) else i
def up : Nat → Nat → Array α → Array α
  | 0, _, d => d
  | n + 1, k, d => up n (k + 1) (swp d k (k + 1))
def down : Nat → Nat → Array α → Array α
  | 0, _, d => d
  | n + 1, k, d => down n (k - 1) (swp d k (k - 1))
def swr : Nat → Nat → Nat → Array α → Array α
  | 0, _, _, d => d
  | n + 1, a, b, d => swr n (a + 1) (b + 1) (swp d a b)
def rot : Nat → Nat → Nat → Nat → Array α → Array α
  | 0, _, _, _, d => d
  | n + 1, m, i, j, d => if i = j then swr i (m - i) m d else if j < i then rot n m (i - j) j (swr j (m - i) m d) else rot n m i (j - i) (swr i (m - i) (m + j - i) d)
/-- symMerge, from the cut on. -/
def symF (lt : α → α → Bool) : Nat → Nat → Nat → Nat → Array α → Array α
  | 0, _, _, _, d => d
  | n + 1, a, m, b, d =>
    if m - a = 1 then up (bsr (fun h => lt d[h]! d[a]!) (b - m) m b - 1 - a) a d
    else if b - m = 1 then down (m - bsr (fun h => !lt d[m]! d[h]!) (m - a) a m) m d
    else
      let mid := (a + b) / 2
      let s0 := if mid < m then mid + m - b else a
      let r0 := if mid < m then mid else m
      let start := bsr (fun c => !lt d[mid + m - 1 - c]! d[c]!) (r0 - s0) s0 r0
      let fin := mid + m - start
      let d1 := if start < m ∧ m < fin then rot (fin - start) m (m - start) (fin - m) d else d
      let d2 := if a < start ∧ start < mid then symF lt n a start mid d1 else d1
      if mid < fin ∧ fin < b then symF lt n mid fin b d2 else d2

/-! ### Halving -/
theorem bsr_spec (f : Nat → Bool) : ∀ (n i j : Nat), i ≤ j → j - i ≤ n → (∀ x y, i ≤ x → x ≤ y → y < j → f y = true → f x = true) →
    i ≤ bsr f n i j ∧ bsr f n i j ≤ j ∧ (∀ x, i ≤ x → x < bsr f n i j → f x = true) ∧ (∀ x, bsr f n i j ≤ x → x < j → f x = false)
  | 0, i, j, hij, hn, hm => by
    simp only [bsr]
    exact ⟨Nat.le_refl _, hij, fun x h1 h2 => by omega, fun x h1 h2 => by omega⟩
  | n + 1, i, j, hij, hn, hm => by
    simp only [bsr]
    by_cases hlt : i < j
    · rw [if_pos hlt]
      by_cases hf : f ((i + j) / 2) = true
      · rw [if_pos hf]
        obtain ⟨h1, h2, h3, h4⟩ := bsr_spec f n ((i + j) / 2 + 1) j (by omega) (by omega) (fun x y a b c d => hm x y (by omega) b c d)
        refine ⟨by omega, h2, fun x a b => ?_, h4⟩
        by_cases hx : (i + j) / 2 + 1 ≤ x
        · exact h3 x hx b
        · exact hm x ((i + j) / 2) a (by omega) (by omega) hf
      · rw [if_neg hf]
        obtain ⟨h1, h2, h3, h4⟩ := bsr_spec f n i ((i + j) / 2) (by omega) (by omega) (fun x y a b c d => hm x y a b (by omega) d)
        refine ⟨h1, by omega, h3, fun x a b => ?_⟩
        by_cases hx : x < (i + j) / 2
        · exact h4 x a hx
        · cases hfx : f x with
          | false => rfl
          | true => exact absurd (hm ((i + j) / 2) x (by omega) (by omega) b hfx) hf
    · rw [if_neg hlt]
      exact ⟨Nat.le_refl _, by omega, fun x h1 h2 => by omega, fun x h1 h2 => by omega⟩

/-! ### What moves where -/
theorem up_get : ∀ (n k : Nat) (d : Array α), k + n < d.size → ∀ x, (up n k d)[x]! = if k ≤ x ∧ x < k + n then d[x + 1]! else if x = k + n then d[k]! else d[x]!
  | 0, k, d, h, x => by
    simp only [up]
    by_cases hx : x = k
    · subst hx; rw [if_neg (by omega), if_pos (by omega)]
    · rw [if_neg (by omega), if_neg (by omega)]
  | n + 1, k, d, h, x => by
    simp only [up]
    rw [up_get n (k + 1) _ (by rw [swp_size]; omega) x]
    have g := swp_get d (show k < d.size by omega) (show k + 1 < d.size by omega)
    by_cases h1 : k + 1 ≤ x ∧ x < k + 1 + n
    · rw [if_pos h1, if_pos (by omega), g, if_neg (by omega), if_neg (by omega)]
    · rw [if_neg h1]
      by_cases h2 : x = k + 1 + n
      · subst h2
        rw [if_pos rfl, if_neg (by omega), if_pos (by omega), g, if_pos rfl]
      · rw [if_neg h2, g]
        by_cases h3 : x = k
        · subst h3
          rw [if_neg (by omega), if_pos rfl, if_pos (by omega)]
        · by_cases h4 : x = k + 1
          · subst h4
            exfalso; omega
          · rw [if_neg h4, if_neg h3, if_neg (by omega), if_neg (by omega)]
theorem down_get : ∀ (n k : Nat) (d : Array α), n ≤ k → k < d.size → ∀ x, (down n k d)[x]! = if k - n < x ∧ x ≤ k then d[x - 1]! else if x = k - n then d[k]! else d[x]!
  | 0, k, d, hn, h, x => by
    simp only [down]
    by_cases hx : x = k
    · subst hx; rw [if_neg (by omega), if_pos (by omega)]
    · rw [if_neg (by omega), if_neg (by omega)]
  | n + 1, k, d, hn, h, x => by
    simp only [down]
    rw [down_get n (k - 1) _ (by omega) (by rw [swp_size]; omega) x]
    have g := swp_get d (show k < d.size by omega) (show k - 1 < d.size by omega)
    by_cases h1 : k - 1 - n < x ∧ x ≤ k - 1
    · rw [if_pos h1, if_pos (by omega), g, if_neg (by omega), if_neg (by omega)]
    · rw [if_neg h1]
      by_cases h2 : x = k - 1 - n
      · subst h2
        rw [if_pos rfl, if_neg (by omega), if_pos (by omega), g, if_pos rfl]
      · rw [if_neg h2, g]
        by_cases h3 : x = k
        · subst h3
          rw [if_neg (by omega), if_pos rfl, if_pos (by omega)]
        · by_cases h4 : x = k - 1
          · exfalso; omega
          · rw [if_neg h4, if_neg h3, if_neg (by omega), if_neg (by omega)]
theorem swr_get : ∀ (n a b : Nat) (d : Array α), a + n ≤ b → b + n ≤ d.size → ∀ x, (swr n a b d)[x]! = if a ≤ x ∧ x < a + n then d[x + (b - a)]! else if b ≤ x ∧ x < b + n then d[x - (b - a)]! else d[x]!
  | 0, a, b, d, h1, h2, x => by
    simp only [swr]
    rw [if_neg (by omega), if_neg (by omega)]
  | n + 1, a, b, d, h1, h2, x => by
    simp only [swr]
    rw [swr_get n (a + 1) (b + 1) _ (by omega) (by rw [swp_size]; omega) x]
    have g := swp_get d (show a < d.size by omega) (show b < d.size by omega)
    rw [show b + 1 - (a + 1) = b - a by omega]
    by_cases c1 : a + 1 ≤ x ∧ x < a + 1 + n
    · rw [if_pos c1, if_pos (by omega), g, if_neg (by omega), if_neg (by omega)]
    · rw [if_neg c1]
      by_cases c2 : b + 1 ≤ x ∧ x < b + 1 + n
      · rw [if_pos c2, if_neg (by omega), if_pos (by omega), g, if_neg (by omega), if_neg (by omega)]
      · rw [if_neg c2, g]
        by_cases c3 : x = b
        · subst c3
          rw [if_pos rfl, if_neg (by omega), if_pos (by omega), show x - (x - a) = a by omega]
        · by_cases c4 : x = a
          · subst c4
            rw [if_neg (by omega), if_pos rfl, if_pos (by omega), show x + (b - x) = b by omega]
          · rw [if_neg c3, if_neg c4, if_neg (by omega), if_neg (by omega)]
theorem up_size : ∀ (n k : Nat) (d : Array α), (up n k d).size = d.size
  | 0, _, _ => rfl
  | n + 1, k, d => by simp only [up]; rw [up_size n, swp_size]
theorem down_size : ∀ (n k : Nat) (d : Array α), (down n k d).size = d.size
  | 0, _, _ => rfl
  | n + 1, k, d => by simp only [down]; rw [down_size n, swp_size]
theorem swr_size : ∀ (n a b : Nat) (d : Array α), (swr n a b d).size = d.size
  | 0, _, _, _ => rfl
  | n + 1, a, b, d => by simp only [swr]; rw [swr_size n, swp_size]
theorem rot_size : ∀ (n m i j : Nat) (d : Array α), (rot n m i j d).size = d.size
  | 0, _, _, _, _ => rfl
  | n + 1, m, i, j, d => by
    simp only [rot]
    split
    · exact swr_size _ _ _ _
    · split
      · rw [rot_size n, swr_size]
      · rw [rot_size n, swr_size]
theorem rot_get : ∀ (n m i j : Nat) (d : Array α), 0 < i → 0 < j → i + j ≤ n → i ≤ m → m + j ≤ d.size → ∀ x, (rot n m i j d)[x]! = if m - i ≤ x ∧ x < m - i + j then d[x + i]! else if m - i + j ≤ x ∧ x < m + j then d[x - j]! else d[x]!
  | 0, m, i, j, d, hi, hj, hn, h1, h2, x => by omega
  | n + 1, m, i, j, d, hi, hj, hn, h1, h2, x => by
    simp only [rot]
    by_cases e : i = j
    · subst e
      rw [if_pos rfl, swr_get _ _ _ _ (by omega) (by omega) x, show m - (m - i) = i by omega]
      by_cases c1 : m - i ≤ x ∧ x < m - i + i
      · rw [if_pos c1, if_pos c1]
      · rw [if_neg c1, if_neg c1]
        by_cases c2 : m ≤ x ∧ x < m + i
        · rw [if_pos c2, if_pos (by omega)]
        · rw [if_neg c2, if_neg (by omega)]
    · rw [if_neg e]
      by_cases l : j < i
      · rw [if_pos l, rot_get n m (i - j) j _ (by omega) hj (by omega) (by omega) (by rw [swr_size]; exact h2) x]
        have g := swr_get j (m - i) m d (by omega) (by omega)
        rw [show m - (m - i) = i by omega] at g
        by_cases c1 : m - i ≤ x ∧ x < m - i + j
        · rw [if_neg (by omega), if_neg (by omega), g, if_pos c1, if_pos c1]
        · rw [if_neg c1]
          by_cases c2 : m - i + j ≤ x ∧ x < m + j
          · rw [if_pos c2]
            by_cases c3 : m - (i - j) ≤ x ∧ x < m - (i - j) + j
            · rw [if_pos c3, g, if_neg (by omega), if_pos (by omega), show x + (i - j) - i = x - j by omega]
            · rw [if_neg c3, if_pos (by omega), g, if_neg (by omega), if_neg (by omega)]
          · rw [if_neg c2, if_neg (by omega), if_neg (by omega), g, if_neg (by omega), if_neg (by omega)]
      · rw [if_neg l, rot_get n m i (j - i) _ hi (by omega) (by omega) h1 (by rw [swr_size]; omega) x]
        have g := swr_get i (m - i) (m + j - i) d (by omega) (by omega)
        rw [show m + j - i - (m - i) = j by omega] at g
        by_cases c1 : m - i ≤ x ∧ x < m - i + j
        · rw [if_pos c1]
          by_cases c3 : m - i ≤ x ∧ x < m - i + (j - i)
          · rw [if_pos c3, g, if_neg (by omega), if_neg (by omega)]
          · rw [if_neg c3, if_pos (by omega), g, if_pos (by omega), show x - (j - i) + j = x + i by omega]
        · rw [if_neg c1, if_neg (by omega), if_neg (by omega), g]
          by_cases c2 : m - i + j ≤ x ∧ x < m + j
          · rw [if_pos c2, if_neg (by omega), if_pos (by omega)]
          · rw [if_neg c2, if_neg (by omega), if_neg (by omega)]

/-! ### Each is a permutation of its part -/
theorem up_perm : ∀ (n k : Nat) (d : Array α) (a b : Nat), a ≤ k → k + n < b → b ≤ d.size → PermIn a b d (up n k d)
  | 0, k, d, a, b, h1, h2, h3 => permIn_refl _ _ _
  | n + 1, k, d, a, b, h1, h2, h3 => by
    simp only [up]
    exact permIn_trans _ _ _ _ _ (swp_permIn d a b k (k + 1) h1 (by omega) (by omega) (by omega) h3) (up_perm n (k + 1) _ a b (by omega) (by omega) (by rw [swp_size]; exact h3))
theorem down_perm : ∀ (n k : Nat) (d : Array α) (a b : Nat), a + n ≤ k → k < b → b ≤ d.size → PermIn a b d (down n k d)
  | 0, k, d, a, b, h1, h2, h3 => permIn_refl _ _ _
  | n + 1, k, d, a, b, h1, h2, h3 => by
    simp only [down]
    exact permIn_trans _ _ _ _ _ (swp_permIn d a b k (k - 1) (by omega) h2 (by omega) (by omega) h3) (down_perm n (k - 1) _ a b (by omega) (by omega) (by rw [swp_size]; exact h3))
theorem swr_perm : ∀ (n p q : Nat) (d : Array α) (a b : Nat), a ≤ p → a ≤ q → p + n ≤ b → q + n ≤ b → b ≤ d.size → PermIn a b d (swr n p q d)
  | 0, p, q, d, a, b, _, _, _, _, _ => permIn_refl _ _ _
  | n + 1, p, q, d, a, b, h1, h2, h3, h4, h5 => by
    simp only [swr]
    exact permIn_trans _ _ _ _ _ (swp_permIn d a b p q h1 (by omega) h2 (by omega) h5) (swr_perm n (p + 1) (q + 1) _ a b (by omega) (by omega) (by omega) (by omega) (by rw [swp_size]; exact h5))
theorem rot_perm : ∀ (n m i j : Nat) (d : Array α) (a b : Nat), a + i ≤ m → m + j ≤ b → b ≤ d.size → PermIn a b d (rot n m i j d)
  | 0, m, i, j, d, a, b, _, _, _ => permIn_refl _ _ _
  | n + 1, m, i, j, d, a, b, h1, h2, h3 => by
    simp only [rot]
    split
    · exact swr_perm _ _ _ _ _ _ (by omega) (by omega) (by omega) (by omega) h3
    · split
      · exact permIn_trans _ _ _ _ _ (swr_perm j (m - i) m d a b (by omega) (by omega) (by omega) (by omega) h3) (rot_perm n m (i - j) j _ a b (by omega) (by omega) (by rw [swr_size]; exact h3))
      · exact permIn_trans _ _ _ _ _ (swr_perm i (m - i) (m + j - i) d a b (by omega) (by omega) (by omega) (by omega) h3) (rot_perm n m i (j - i) _ a b (by omega) (by omega) (by rw [swr_size]; exact h3))

/-! ### symMerge sorts -/
theorem asym {R : α → α → Bool} (S : SWO R) {x y : α} (h : R x y = true) : R y x = false := S.asymmA h
theorem symF_spec {lt R : α → α → Bool} (S : SWO R) : ∀ (n a m b : Nat) (d : Array α), a < m → m < b → b ≤ d.size → b - a ≤ n + 1 → SortedIn R a m d → SortedIn R m b d →
    (∀ p q, a ≤ p → p < m → m ≤ q → q < b → lt d[q]! d[p]! = R d[q]! d[p]!) → PermIn a b d (symF lt n a m b d) ∧ SortedIn R a b (symF lt n a m b d)
  | 0, a, m, b, d, h1, h2, h3, hn, sA, sB, hl => by omega
  | n + 1, a, m, b, d, h1, h2, h3, hn, sA, sB, hl => by
    simp only [symF]
    have le : ∀ {x : Nat}, R d[x]! d[x]! = false := fun {x} => S.irrefl _
    have A : ∀ p q, a ≤ p → p ≤ q → q < m → R d[q]! d[p]! = false := fun p q x y z => by
      rcases Nat.lt_or_eq_of_le y with y | rfl
      · exact sA p q x y z
      · exact le
    have Bq : ∀ p q, m ≤ p → p ≤ q → q < b → R d[q]! d[p]! = false := fun p q x y z => by
      rcases Nat.lt_or_eq_of_le y with y | rfl
      · exact sB p q x y z
      · exact le
    by_cases e1 : m - a = 1
    · rw [if_pos e1]
      obtain ⟨b1, b2, b3, b4⟩ := bsr_spec (fun h => lt d[h]! d[a]!) (b - m) m b (by omega) (Nat.le_refl _) (fun x y k1 k2 k3 k4 => by
        show lt d[x]! d[a]! = true
        have k4' : lt d[y]! d[a]! = true := k4
        rw [hl a x (by omega) (by omega) k1 (by omega)]
        rw [hl a y (by omega) (by omega) (by omega) k3] at k4'
        cases hx : R d[x]! d[a]! with
        | true => rfl
        | false =>
          have := S.ntrans _ _ _ (Bq x y k1 k2 k3) hx
          rw [k4'] at this; cases this)
      generalize bsr (fun h => lt d[h]! d[a]!) (b - m) m b = i at b1 b2 b3 b4
      refine ⟨up_perm _ _ _ _ _ (Nat.le_refl _) (by omega) h3, fun p q k1 k2 k3 => ?_⟩
      have g := up_get (i - 1 - a) a d (by omega)
      rw [show a + (i - 1 - a) = i - 1 by omega] at g
      rw [g, g]
      by_cases cq : a ≤ q ∧ q < i - 1
      · rw [if_pos cq, if_pos (by omega)]
        exact Bq _ _ (by omega) (by omega) (by omega)
      · rw [if_neg cq]
        by_cases cq2 : q = i - 1
        · rw [if_pos cq2, if_pos (by omega)]
          have := b3 (p + 1) (by omega) (by omega)
          have this' : lt d[p + 1]! d[a]! = true := this
          rw [hl a (p + 1) (by omega) (by omega) (by omega) (by omega)] at this'
          exact asym S this'
        · rw [if_neg cq2]
          have r0 : R d[q]! d[a]! = false := by
            have := b4 q (by omega) k3
            have this' : lt d[q]! d[a]! = false := this
            rwa [hl a q (by omega) (by omega) (by omega) k3] at this'
          by_cases cp : a ≤ p ∧ p < i - 1
          · rw [if_pos cp]; exact Bq _ _ (by omega) (by omega) k3
          · rw [if_neg cp]
            by_cases cp2 : p = i - 1
            · rw [if_pos cp2]; exact r0
            · rw [if_neg cp2]; exact Bq _ _ (by omega) (by omega) k3
    · rw [if_neg e1]
      by_cases e2 : b - m = 1
      · rw [if_pos e2]
        obtain ⟨b1, b2, b3, b4⟩ := bsr_spec (fun h => !lt d[m]! d[h]!) (m - a) a m (by omega) (Nat.le_refl _) (fun x y k1 k2 k3 k4 => by
          show (!lt d[m]! d[x]!) = true
          have k4' : (!lt d[m]! d[y]!) = true := k4
          rw [hl x m k1 (by omega) (Nat.le_refl _) h2]
          rw [hl y m (by omega) k3 (Nat.le_refl _) h2] at k4'
          simp only [Bool.not_eq_true'] at k4' ⊢
          exact S.ntrans _ _ _ k4' (A x y k1 k2 k3))
        generalize bsr (fun h => !lt d[m]! d[h]!) (m - a) a m = i at b1 b2 b3 b4
        refine ⟨down_perm _ _ _ _ _ (by omega) h2 h3, fun p q k1 k2 k3 => ?_⟩
        have g := down_get (m - i) m d (by omega) (by omega)
        rw [show m - (m - i) = i by omega] at g
        rw [g, g]
        by_cases cq : i < q ∧ q ≤ m
        · rw [if_pos cq]
          by_cases cp : i < p ∧ p ≤ m
          · rw [if_pos cp]; exact A _ _ (by omega) (by omega) (by omega)
          · rw [if_neg cp]
            by_cases cp2 : p = i
            · rw [if_pos cp2]
              have := b4 (q - 1) (by omega) (by omega)
              have this' : (!lt d[m]! d[q - 1]!) = false := this
              rw [hl (q - 1) m (by omega) (by omega) (Nat.le_refl _) h2] at this'
              simp only [Bool.not_eq_false'] at this'
              exact asym S this'
            · rw [if_neg cp2]; exact A _ _ (by omega) (by omega) (by omega)
        · rw [if_neg cq]
          by_cases cq2 : q = i
          · rw [if_pos cq2, if_neg (by omega), if_neg (by omega)]
            have := b3 p k1 (by omega)
            have this' : (!lt d[m]! d[p]!) = true := this
            rw [hl p m (by omega) (by omega) (Nat.le_refl _) h2] at this'
            simpa using this'
          · rw [if_neg cq2, if_neg (by omega), if_neg (by omega)]
            exact A _ _ (by omega) (by omega) (by omega)
      · rw [if_neg e2]
        -- the cut
        obtain ⟨mid, hmid⟩ : ∃ mid, (a + b) / 2 = mid := ⟨_, rfl⟩
        obtain ⟨s0, hs0⟩ : ∃ s0, (if mid < m then mid + m - b else a) = s0 := ⟨_, rfl⟩
        obtain ⟨r0, hr0⟩ : ∃ r0, (if mid < m then mid else m) = r0 := ⟨_, rfl⟩
        simp only [hmid, hs0, hr0]
        have hsr : s0 ≤ r0 ∧ a ≤ s0 ∧ r0 ≤ m ∧ r0 ≤ mid ∧ mid + m ≤ s0 + b ∧ (s0 = a ∨ s0 + b = mid + m) ∧ (r0 = m ∨ r0 = mid) := by
          by_cases c : mid < m
          · rw [if_pos c] at hs0 hr0; omega
          · rw [if_neg c] at hs0 hr0; omega
        obtain ⟨q1, q2, q3, q4, q5, q6, q7⟩ := hsr
        obtain ⟨b1, b2, b3, b4⟩ := bsr_spec (fun c => !lt d[mid + m - 1 - c]! d[c]!) (r0 - s0) s0 r0 q1 (Nat.le_refl _) (fun x y k1 k2 k3 k4 => by
          show (!lt d[mid + m - 1 - x]! d[x]!) = true
          have k4' : (!lt d[mid + m - 1 - y]! d[y]!) = true := k4
          rw [hl x _ (by omega) (by omega) (by omega) (by omega)]
          rw [hl y _ (by omega) (by omega) (by omega) (by omega)] at k4'
          simp only [Bool.not_eq_true'] at k4' ⊢
          exact S.ntrans _ _ _ (S.ntrans _ _ _ (Bq (mid + m - 1 - y) (mid + m - 1 - x) (by omega) (by omega) (by omega)) k4') (A x y (by omega) k2 (by omega)))
        generalize bsr (fun c => !lt d[mid + m - 1 - c]! d[c]!) (r0 - s0) s0 r0 = start at b1 b2 b3 b4
        obtain ⟨fin, hfin⟩ : ∃ fin, mid + m - start = fin := ⟨_, rfl⟩
        rw [hfin]
        have hf1 : m ≤ fin ∧ fin ≤ b ∧ start + fin = mid + m ∧ start ≤ mid ∧ start ≤ m ∧ a ≤ start := by omega
        obtain ⟨f1, f2, f3, f4, f5, f6⟩ := hf1
        -- behind the turn
        obtain ⟨d1, hd1⟩ : ∃ d1, (if start < m ∧ m < fin then rot (fin - start) m (m - start) (fin - m) d else d) = d1 := ⟨_, rfl⟩
        rw [hd1]
        have g1 : ∀ x, d1[x]! = if start ≤ x ∧ x < mid then d[x + (m - start)]! else if mid ≤ x ∧ x < fin then d[x - (fin - m)]! else d[x]! := fun x => by
          rw [← hd1]
          by_cases c : start < m ∧ m < fin
          · rw [if_pos c, rot_get _ _ _ _ _ (by omega) (by omega) (by omega) (by omega) (by omega) x, show m - (m - start) = start by omega, show start + (fin - m) = mid by omega, show m + (fin - m) = fin by omega]
          · rw [if_neg c]
            by_cases c1 : start ≤ x ∧ x < mid
            · rw [if_pos c1, show x + (m - start) = x by omega]
            · rw [if_neg c1]
              by_cases c2 : mid ≤ x ∧ x < fin
              · rw [if_pos c2, show x - (fin - m) = x by omega]
              · rw [if_neg c2]
        have p1 : PermIn a b d d1 := by
          rw [← hd1]
          split
          · exact rot_perm _ _ _ _ _ _ _ (by omega) (by omega) h3
          · exact permIn_refl _ _ _
        -- lower half: [a, start) of the left, [m, fin) of the right; upper half: [start, m), [fin, b)
        have src : ∀ x, a ≤ x → x < mid → ∃ y, d1[x]! = d[y]! ∧ ((a ≤ y ∧ y < start ∧ y = x) ∨ (m ≤ y ∧ y < fin ∧ y = x + (m - start) ∧ start ≤ x)) := fun x k1 k2 => by
          rw [g1]
          by_cases c : start ≤ x ∧ x < mid
          · rw [if_pos c]; exact ⟨_, rfl, .inr (by omega)⟩
          · rw [if_neg c, if_neg (by omega)]; exact ⟨_, rfl, .inl (by omega)⟩
        have srcU : ∀ x, mid ≤ x → x < b → ∃ y, d1[x]! = d[y]! ∧ ((start ≤ y ∧ y < m ∧ y = x - (fin - m) ∧ x < fin) ∨ (fin ≤ y ∧ y < b ∧ y = x)) := fun x k1 k2 => by
          rw [g1, if_neg (by omega)]
          by_cases c : mid ≤ x ∧ x < fin
          · rw [if_pos c]; exact ⟨_, rfl, .inl (by omega)⟩
          · rw [if_neg c]; exact ⟨_, rfl, .inr (by omega)⟩
        have crossHi : ∀ x y, a ≤ x → x < start → fin ≤ y → y < b → R d[y]! d[x]! = false := fun x y k1 k2 k3 k4 => by
          by_cases c : s0 < start
          · have := b3 (start - 1) (by omega) (by omega)
            have this' : (!lt d[mid + m - 1 - (start - 1)]! d[start - 1]!) = true := this
            rw [show mid + m - 1 - (start - 1) = fin by omega, hl _ _ (by omega) (by omega) (by omega) (by omega)] at this'
            simp only [Bool.not_eq_true'] at this'
            exact S.ntrans _ _ _ (S.ntrans _ _ _ (Bq fin y (by omega) k3 k4) this') (A x (start - 1) k1 (by omega) (by omega))
          · omega
        have crossLo : ∀ x y, m ≤ x → x < fin → start ≤ y → y < m → R d[y]! d[x]! = false := fun x y k1 k2 k3 k4 => by
          by_cases c : start < r0
          · have := b4 start (Nat.le_refl _) c
            have this' : (!lt d[mid + m - 1 - start]! d[start]!) = false := this
            rw [show mid + m - 1 - start = fin - 1 by omega, hl _ _ (by omega) (by omega) (by omega) (by omega)] at this'
            simp only [Bool.not_eq_false'] at this'
            exact S.ntrans _ _ _ (S.ntrans _ _ _ (A start y (by omega) k3 k4) (asym S this')) (Bq x (fin - 1) k1 (by omega) (by omega))
          · omega
        have cross : ∀ x y, a ≤ x → x < mid → mid ≤ y → y < b → R d1[y]! d1[x]! = false := fun x y k1 k2 k3 k4 => by
          obtain ⟨x', ex, hx⟩ := src x k1 k2
          obtain ⟨y', ey, hy⟩ := srcU y k3 k4
          rw [ex, ey]
          rcases hx with hx | hx
          · rcases hy with hy | hy
            · exact A _ _ (by omega) (by omega) (by omega)
            · exact crossHi _ _ (by omega) (by omega) (by omega) (by omega)
          · rcases hy with hy | hy
            · exact crossLo _ _ (by omega) (by omega) (by omega) (by omega)
            · exact Bq _ _ (by omega) (by omega) (by omega)
        have z1 : d1.size = d.size := p1.1
        -- the lower half
        obtain ⟨d2, hd2⟩ : ∃ d2, (if a < start ∧ start < mid then symF lt n a start mid d1 else d1) = d2 := ⟨_, rfl⟩
        rw [hd2]
        have low : PermIn a mid d1 d2 ∧ SortedIn R a mid d2 := by
          rw [← hd2]
          by_cases c : a < start ∧ start < mid
          · rw [if_pos c]
            refine symF_spec S n a start mid d1 c.1 c.2 (by omega) (by omega) (fun p q k1 k2 k3 => ?_) (fun p q k1 k2 k3 => ?_) (fun p q k1 k2 k3 k4 => ?_)
            · obtain ⟨p', ep, hp⟩ := src p k1 (by omega)
              obtain ⟨q', eq, hq⟩ := src q (by omega) (by omega)
              rw [ep, eq]; exact A _ _ (by omega) (by omega) (by omega)
            · obtain ⟨p', ep, hp⟩ := src p (by omega) (by omega)
              obtain ⟨q', eq, hq⟩ := src q (by omega) (by omega)
              rw [ep, eq]; exact Bq _ _ (by omega) (by omega) (by omega)
            · obtain ⟨p', ep, hp⟩ := src p (by omega) (by omega)
              obtain ⟨q', eq, hq⟩ := src q (by omega) (by omega)
              rw [ep, eq]; exact hl _ _ (by omega) (by omega) (by omega) (by omega)
          · rw [if_neg c]
            refine ⟨permIn_refl _ _ _, fun p q k1 k2 k3 => ?_⟩
            obtain ⟨p', ep, hp⟩ := src p k1 (by omega)
            obtain ⟨q', eq, hq⟩ := src q (by omega) (by omega)
            rw [ep, eq]
            rcases hp with hp | hp
            · rcases hq with hq | hq
              · exact A _ _ (by omega) (by omega) (by omega)
              · omega
            · rcases hq with hq | hq
              · omega
              · exact Bq _ _ (by omega) (by omega) (by omega)
        obtain ⟨p2, sL⟩ := low
        have z2 : d2.size = d1.size := p2.1
        have same2 : ∀ x, mid ≤ x → d2[x]! = d1[x]! := fun x k => p2.2.1 x (.inr k)
        have cross2 : ∀ x y, a ≤ x → x < mid → mid ≤ y → y < b → R d2[y]! d2[x]! = false := fun x y k1 k2 k3 k4 => by
          rw [same2 y k3]
          exact permIn_all d1 d2 a mid (fun v => R d1[y]! v = false) (by omega) p2 (fun i j1 j2 => cross i y j1 j2 k3 k4) x k1 k2
        -- the upper half
        obtain ⟨d3, hd3⟩ : ∃ d3, (if mid < fin ∧ fin < b then symF lt n mid fin b d2 else d2) = d3 := ⟨_, rfl⟩
        rw [hd3]
        have upr : PermIn mid b d2 d3 ∧ SortedIn R mid b d3 := by
          rw [← hd3]
          by_cases c : mid < fin ∧ fin < b
          · rw [if_pos c]
            refine symF_spec S n mid fin b d2 c.1 c.2 (by omega) (by omega) (fun p q k1 k2 k3 => ?_) (fun p q k1 k2 k3 => ?_) (fun p q k1 k2 k3 k4 => ?_)
            · obtain ⟨p', ep, hp⟩ := srcU p k1 (by omega)
              obtain ⟨q', eq, hq⟩ := srcU q (by omega) (by omega)
              rw [same2 p k1, same2 q (by omega), ep, eq]; exact A _ _ (by omega) (by omega) (by omega)
            · obtain ⟨p', ep, hp⟩ := srcU p (by omega) (by omega)
              obtain ⟨q', eq, hq⟩ := srcU q (by omega) (by omega)
              rw [same2 p (by omega), same2 q (by omega), ep, eq]; exact Bq _ _ (by omega) (by omega) (by omega)
            · obtain ⟨p', ep, hp⟩ := srcU p (by omega) (by omega)
              obtain ⟨q', eq, hq⟩ := srcU q (by omega) (by omega)
              rw [same2 p (by omega), same2 q (by omega), ep, eq]; exact hl _ _ (by omega) (by omega) (by omega) (by omega)
          · rw [if_neg c]
            refine ⟨permIn_refl _ _ _, fun p q k1 k2 k3 => ?_⟩
            obtain ⟨p', ep, hp⟩ := srcU p k1 (by omega)
            obtain ⟨q', eq, hq⟩ := srcU q (by omega) (by omega)
            rw [same2 p k1, same2 q (by omega), ep, eq]
            rcases hp with hp | hp
            · rcases hq with hq | hq
              · exact A _ _ (by omega) (by omega) (by omega)
              · omega
            · rcases hq with hq | hq
              · omega
              · exact Bq _ _ (by omega) (by omega) (by omega)
        obtain ⟨p3, sU⟩ := upr
        refine ⟨permIn_trans _ _ _ _ _ p1 (permIn_trans _ _ _ _ _ (permIn_mono _ _ a mid a b (Nat.le_refl _) (by omega) (by omega) p2) (permIn_mono _ _ mid b a b (by omega) (Nat.le_refl _) (by omega) p3)), fun p q k1 k2 k3 => ?_⟩
        by_cases cq : q < mid
        · rw [p3.2.1 p (.inl (by omega)), p3.2.1 q (.inl cq)]; exact sL p q k1 k2 cq
        · by_cases cp : p < mid
          · rw [p3.2.1 p (.inl cp)]
            exact permIn_all d2 d3 mid b (fun v => R v d2[p]! = false) (by omega) p3 (fun i j1 j2 => cross2 p i k1 cp j1 j2) q (by omega) k3
          · exact sU p q (by omega) k2 k3
end Go.Proofs.Ytjhgdlgdejcmjaa.L
