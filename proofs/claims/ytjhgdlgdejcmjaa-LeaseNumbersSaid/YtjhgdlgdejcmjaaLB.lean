/- slices.SortStableFunc as a plain function: over a row whose elements' numbers rise it gives the row sorted by the key, then by the number (no program here). By an AI agent of this work. -/
import Derived.Test.YtjhgdlgdejcmjaaLA
import Derived.Sort.WalkA
namespace Go.Proofs.Ytjhgdlgdejcmjaa.L
open Go.Sort
set_option linter.unusedVariables false
set_option linter.unusedSimpArgs false
set_option linter.unusedSectionVars false
variable {α : Type} [Inhabited α]

/-! ### The function -/
def stB (lt : α → α → Bool) (n : Nat) : Nat → Nat → Array α → Array α
  | 0, a, d => insertionSort lt d a n
  | f + 1, a, d => if a + 20 ≤ n then stB lt n f (a + 20) (insertionSort lt d a (a + 20)) else insertionSort lt d a n
def stM (lt : α → α → Bool) (n bs : Nat) : Nat → Nat → Array α → Array α
  | 0, _, d => d
  | f + 1, a, d => if a + 2 * bs ≤ n then stM lt n bs f (a + 2 * bs) (symF lt (2 * bs) a (a + bs) (a + 2 * bs) d) else if a + bs < n then symF lt (n - a) a (a + bs) n d else d
def stO (lt : α → α → Bool) (n : Nat) : Nat → Nat → Array α → Array α
  | 0, _, d => d
  | f + 1, bs, d => if bs < n then stO lt n f (2 * bs) (stM lt n bs (n + 1) 0 d) else d
def stable (lt : α → α → Bool) (n : Nat) (d : Array α) : Array α := stO lt n (n + 1) 20 (stB lt n (n + 1) 0 d)

/-! ### The orders: by the key; by the key, then the number -/
variable (key num : α → Int)
def ltK (y x : α) : Bool := decide (key y < key x)
def ltR (y x : α) : Bool := decide (key y < key x ∨ key y = key x ∧ num y < num x)
theorem swoR : SWO (ltR key num) := ⟨fun x => by simp [ltR], fun x y z h1 h2 => by simp only [ltR, decide_eq_true_eq] at *; omega, fun x y z h1 h2 => by simp only [ltR, decide_eq_false_iff_not] at *; omega⟩
theorem swoK : SWO (ltK key) := ⟨fun x => by simp [ltK], fun x y z h1 h2 => by simp only [ltK, decide_eq_true_eq] at *; omega, fun x y z h1 h2 => by simp only [ltK, decide_eq_false_iff_not] at *; omega⟩
theorem agree {x y : α} (h : num x < num y) : ltK key y x = ltR key num y x := by
  unfold ltK ltR
  by_cases c : key y < key x
  · rw [decide_eq_true c, decide_eq_true (.inl c)]
  · rw [decide_eq_false c, decide_eq_false (by omega)]

/-! ### insertionSort -/
theorem insInner_perm {lt : α → α → Bool} (a : Nat) : ∀ (j : Nat) (d : Array α) (b : Nat), a ≤ j → j < b → b ≤ d.size → PermIn a b d (insInner lt a j d)
  | 0, d, b, _, _, _ => by unfold insInner; exact permIn_refl _ _ _
  | j + 1, d, b, h1, h2, h3 => by
    unfold insInner
    split
    · rename_i c
      simp only [Bool.and_eq_true, decide_eq_true_eq] at c
      exact permIn_trans _ _ _ _ _ (swp_permIn d a b (j + 1) j h1 h2 (by omega) (by omega) h3) (insInner_perm a j _ b (by omega) (by omega) (by rw [swp_size]; exact h3))
    · exact permIn_refl _ _ _
theorem insInner_agree (a : Nat) : ∀ (j : Nat) (d : Array α), j < d.size → (∀ p, a ≤ p → p < j → num d[p]! < num d[j]!) → insInner (ltK key) a j d = insInner (ltR key num) a j d
  | 0, d, _, _ => by unfold insInner; rfl
  | j + 1, d, h1, h2 => by
    unfold insInner
    by_cases c : j + 1 > a
    · rw [agree key num (h2 j (by omega) (by omega))]
      split
      · refine insInner_agree a j _ (by rw [swp_size]; omega) (fun p k1 k2 => ?_)
        have g := swp_get d h1 (show j < d.size by omega)
        rw [g, g, if_neg (by omega), if_neg (by omega), if_pos rfl]
        exact h2 p k1 (by omega)
      · rfl
    · simp [c]
theorem insOuter_agree (a b : Nat) : ∀ (n i : Nat) (d : Array α), b - i = n → a < i → i ≤ b → b ≤ d.size → (∀ p q, a ≤ p → p < q → i ≤ q → q < b → num d[p]! < num d[q]!) →
    insOuter (ltK key) a b i d = insOuter (ltR key num) a b i d
  | 0, i, d, hn, h1, h2, h3, h4 => by rw [insOuter, if_neg (by omega), insOuter_stop (ltR key num) _ _ _ _ (by omega)]
  | n + 1, i, d, hn, h1, h2, h3, h4 => by
    rw [insOuter, if_pos (by omega), insOuter_go (ltR key num) _ _ _ _ (by omega)]
    rw [insInner_agree key num a i d (by omega) (fun p k1 k2 => h4 p i k1 k2 (Nat.le_refl _) (by omega))]
    have P := insInner_perm (lt := ltR key num) a i d (i + 1) (by omega) (by omega) (by omega)
    refine insOuter_agree a b n (i + 1) _ (by omega) (by omega) (by omega) (by rw [P.1]; exact h3) (fun p q k1 k2 k3 k4 => ?_)
    rw [P.2.1 q (.inr k3)]
    by_cases c : p < i + 1
    · exact permIn_all d _ a (i + 1) (fun v => num v < num d[q]!) (by omega) P (fun x j1 j2 => h4 x q j1 (by omega) (by omega) k4) p k1 c
    · rw [P.2.1 p (.inr (by omega))]; exact h4 p q k1 k2 (by omega) k4
theorem ins_spec (a b : Nat) (d : Array α) (hab : a ≤ b) (hb : b ≤ d.size) (h : ∀ p q, a ≤ p → p < q → q < b → num d[p]! < num d[q]!) :
    PermIn a b d (insertionSort (ltK key) d a b) ∧ SortedIn (ltR key num) a b (insertionSort (ltK key) d a b) := by
  have e : insertionSort (ltK key) d a b = insertionSort (ltR key num) d a b := by
    unfold insertionSort
    by_cases c : a < b
    · exact insOuter_agree key num a b _ (a + 1) d rfl (by omega) (by omega) hb (fun p q k1 k2 k3 k4 => h p q k1 k2 k4)
    · rw [insOuter, if_neg (by omega), insOuter_stop (ltR key num) _ _ _ _ (by omega)]
  rw [e]
  exact insertionSort_holds (swoR key num) d a b hab hb

/-! ### Blocks, from a on: each sorted; the numbers of an earlier one below those of a later one -/
def Bl (bs a n : Nat) (d : Array α) : Prop :=
  (∀ s t, s < t → a + t < n → s / bs = t / bs → ltR key num d[a + t]! d[a + s]! = false) ∧ (∀ s t, s < t → a + t < n → s / bs < t / bs → num d[a + s]! < num d[a + t]!)
theorem div_add (c t : Nat) (h : 0 < c) : (c + t) / c = 1 + t / c := by
  have := Nat.mul_add_div h 1 t
  rwa [Nat.mul_one] at this
/-- A first block of c, and what holds behind it. -/
theorem Bl.join {c a n : Nat} {d d' : Array α} (hc : 0 < c) (hn : a + c ≤ n) (hs : SortedIn (ltR key num) a (a + c) d) (hp : PermIn (a + c) n d d') (hd : n ≤ d.size) (h : Bl key num c (a + c) n d')
    (hx : ∀ p q, a ≤ p → p < a + c → a + c ≤ q → q < n → num d[p]! < num d[q]!) : Bl key num c a n d' := by
  have low : ∀ s, s < c → d'[a + s]! = d[a + s]! := fun s k => hp.2.1 _ (.inl (by omega))
  have sh : ∀ s, c ≤ s → s / c = 1 + (s - c) / c ∧ a + s = a + c + (s - c) := fun s k => ⟨by have := div_add c (s - c) hc; rwa [show c + (s - c) = s by omega] at this, by omega⟩
  constructor
  · intro s t k1 k2 k3
    by_cases ct : t < c
    · rw [low t ct, low s (by omega)]; exact hs _ _ (by omega) (by omega) (by omega)
    · by_cases cs : s < c
      · have e1 := Nat.div_eq_of_lt cs
        have e2 := (sh t (by omega)).1
        generalize s / c = u at *
        generalize t / c = v at *
        generalize (t - c) / c = z at *
        omega
      · rw [(sh t (by omega)).2, (sh s (by omega)).2]
        exact h.1 _ _ (by omega) (by omega) (by have h1 := (sh t (by omega)).1; have h2 := (sh s (by omega)).1; omega)
  · intro s t k1 k2 k3
    by_cases ct : t < c
    · have e1 := Nat.div_eq_of_lt ct
      generalize s / c = u at *
      generalize t / c = v at *
      omega
    · by_cases cs : s < c
      · rw [low s cs]
        exact permIn_all d d' (a + c) n (fun v => num d[a + s]! < num v) hd hp (fun q j1 j2 => hx (a + s) q (by omega) (by omega) j1 j2) (a + t) (by omega) k2
      · rw [(sh t (by omega)).2, (sh s (by omega)).2]
        exact h.2 _ _ (by omega) (by omega) (by have h1 := (sh t (by omega)).1; have h2 := (sh s (by omega)).1; omega)
/-- One block alone. -/
theorem Bl.one {c a n : Nat} {d : Array α} (hn : n ≤ a + c) (hs : SortedIn (ltR key num) a n d) : Bl key num c a n d := by
  constructor
  · intro s t k1 k2 _; exact hs _ _ (by omega) (by omega) k2
  · intro s t k1 k2 k3
    have e1 := Nat.div_eq_of_lt (show t < c by omega)
    generalize s / c = u at *
    generalize t / c = v at *
    omega

theorem stB_spec (n : Nat) : ∀ (f a : Nat) (d : Array α), a ≤ n → n - a ≤ f → n ≤ d.size → (∀ p q, a ≤ p → p < q → q < n → num d[p]! < num d[q]!) →
    PermIn a n d (stB (ltK key) n f a d) ∧ Bl key num 20 a n (stB (ltK key) n f a d)
  | 0, a, d, h0, h1, h2, h3 => by
    obtain rfl : a = n := by omega
    have I := ins_spec key num a a d (Nat.le_refl _) h2 h3
    exact ⟨I.1, Bl.one key num (by omega) I.2⟩
  | f + 1, a, d, h0, h1, h2, h3 => by
    simp only [stB]
    by_cases c : a + 20 ≤ n
    · rw [if_pos c]
      have I := ins_spec key num a (a + 20) d (by omega) (by omega) (fun p q k1 k2 k3 => h3 p q k1 k2 (by omega))
      obtain ⟨p1, b1⟩ := stB_spec n f (a + 20) (insertionSort (ltK key) d a (a + 20)) c (by omega) (by rw [I.1.1]; exact h2) (fun p q k1 k2 k3 => by
        rw [I.1.2.1 p (.inr k1), I.1.2.1 q (.inr (by omega))]; exact h3 p q (by omega) k2 k3)
      refine ⟨permIn_trans _ _ _ _ _ (permIn_mono _ _ a (a + 20) a n (Nat.le_refl _) c h2 I.1) (permIn_mono _ _ (a + 20) n a n (by omega) (Nat.le_refl _) (by rw [I.1.1]; exact h2) p1), Bl.join key num (by omega) c I.2 p1 (by rw [I.1.1]; exact h2) b1 (fun p q k1 k2 k3 k4 => ?_)⟩
      rw [I.1.2.1 q (.inr k3)]
      exact permIn_all d _ a (a + 20) (fun v => num v < num d[q]!) (by omega) I.1 (fun x j1 j2 => h3 x q j1 (by omega) k4) p k1 k2
    · rw [if_neg c]
      have I := ins_spec key num a n d h0 h2 h3
      exact ⟨I.1, Bl.one key num (by omega) I.2⟩

theorem Bl.tail {bs a n : Nat} {d d' : Array α} (hb : 0 < bs) (h : Bl key num bs a n d) (he : ∀ x, a + 2 * bs ≤ x → d'[x]! = d[x]!) : Bl key num bs (a + 2 * bs) n d' := by
  have sh : ∀ s, (2 * bs + s) / bs = 2 + s / bs := fun s => by have := Nat.mul_add_div hb 2 s; rwa [Nat.mul_comm] at this
  constructor
  · intro s t k1 k2 k3
    rw [he _ (by omega), he _ (by omega), show a + 2 * bs + t = a + (2 * bs + t) by omega, show a + 2 * bs + s = a + (2 * bs + s) by omega]
    exact h.1 _ _ (by omega) (by omega) (by rw [sh, sh, k3])
  · intro s t k1 k2 k3
    rw [he _ (by omega), he _ (by omega), show a + 2 * bs + t = a + (2 * bs + t) by omega, show a + 2 * bs + s = a + (2 * bs + s) by omega]
    exact h.2 _ _ (by omega) (by omega) (by rw [sh, sh]; omega)

theorem stM_spec (n bs : Nat) (hb : 0 < bs) : ∀ (f a : Nat) (d : Array α), a ≤ n → n - a < f → n ≤ d.size → Bl key num bs a n d →
    PermIn a n d (stM (ltK key) n bs f a d) ∧ Bl key num (2 * bs) a n (stM (ltK key) n bs f a d)
  | 0, a, d, h0, h1, h2, h3 => by omega
  | f + 1, a, d, h0, h1, h2, h3 => by
    simp only [stM]
    have dv0 : ∀ s, s < bs → s / bs = 0 := fun s k => Nat.div_eq_of_lt k
    have dv1 : ∀ s, bs ≤ s → s < 2 * bs → s / bs = 1 := fun s k1 k2 => by
      have := div_add bs (s - bs) hb; rw [show bs + (s - bs) = s by omega, Nat.div_eq_of_lt (show s - bs < bs by omega)] at this; exact this
    have sym : ∀ b, a + bs < b → b ≤ n → b ≤ a + 2 * bs → ∀ fu, b - a ≤ fu + 1 → PermIn a b d (symF (ltK key) fu a (a + bs) b d) ∧ SortedIn (ltR key num) a b (symF (ltK key) fu a (a + bs) b d) := fun b k1 k2 k3 fu k4 =>
      symF_spec (swoR key num) fu a (a + bs) b d (by omega) k1 (by omega) k4
        (fun p q j1 j2 j3 => by
          have := h3.1 (p - a) (q - a) (by omega) (by omega) (by rw [dv0 _ (by omega), dv0 _ (by omega)])
          rwa [show a + (q - a) = q by omega, show a + (p - a) = p by omega] at this)
        (fun p q j1 j2 j3 => by
          have := h3.1 (p - a) (q - a) (by omega) (by omega) (by rw [dv1 _ (by omega) (by omega), dv1 _ (by omega) (by omega)])
          rwa [show a + (q - a) = q by omega, show a + (p - a) = p by omega] at this)
        (fun p q j1 j2 j3 j4 => by
          have := h3.2 (p - a) (q - a) (by omega) (by omega) (by rw [dv0 _ (by omega), dv1 _ (by omega) (by omega)]; omega)
          rw [show a + (q - a) = q by omega, show a + (p - a) = p by omega] at this
          exact agree key num this)
    by_cases c : a + 2 * bs ≤ n
    · rw [if_pos c]
      obtain ⟨p1, s1⟩ := sym (a + 2 * bs) (by omega) c (Nat.le_refl _) (2 * bs) (by omega)
      generalize symF (ltK key) (2 * bs) a (a + bs) (a + 2 * bs) d = d1 at p1 s1
      obtain ⟨p2, b2⟩ := stM_spec n bs hb f (a + 2 * bs) d1 c (by omega) (by rw [p1.1]; exact h2) (Bl.tail key num hb h3 (fun x k => p1.2.1 x (.inr k)))
      refine ⟨permIn_trans _ _ _ _ _ (permIn_mono _ _ a (a + 2 * bs) a n (Nat.le_refl _) c h2 p1) (permIn_mono _ _ (a + 2 * bs) n a n (by omega) (Nat.le_refl _) (by rw [p1.1]; exact h2) p2), Bl.join key num (by omega) c s1 p2 (by rw [p1.1]; exact h2) b2 (fun p q k1 k2 k3 k4 => ?_)⟩
      rw [p1.2.1 q (.inr k3)]
      refine permIn_all d d1 a (a + 2 * bs) (fun v => num v < num d[q]!) (by omega) p1 (fun x j1 j2 => ?_) p k1 k2
      have := h3.2 (x - a) (q - a) (by omega) (by omega) (by
        have e := Nat.mul_add_div hb 2 (q - a - 2 * bs)
        rw [show bs * 2 + (q - a - 2 * bs) = q - a by omega] at e
        have e2 : (x - a) / bs < 2 := (Nat.div_lt_iff_lt_mul hb).2 (by omega)
        rw [e]
        exact Nat.lt_of_lt_of_le e2 (Nat.le_add_right _ _))
      rwa [show a + (q - a) = q by omega, show a + (x - a) = x by omega] at this
    · rw [if_neg c]
      by_cases c2 : a + bs < n
      · rw [if_pos c2]
        obtain ⟨p1, s1⟩ := sym n c2 (Nat.le_refl _) (by omega) (n - a) (by omega)
        exact ⟨p1, Bl.one key num (by omega) s1⟩
      · rw [if_neg c2]
        refine ⟨permIn_refl _ _ _, Bl.one key num (by omega) (fun p q k1 k2 k3 => ?_)⟩
        have := h3.1 (p - a) (q - a) (by omega) (by omega) (by rw [dv0 _ (by omega), dv0 _ (by omega)])
        rwa [show a + (q - a) = q by omega, show a + (p - a) = p by omega] at this

theorem stO_spec (n : Nat) : ∀ (f bs : Nat) (d : Array α), 0 < bs → n ≤ bs + f → n ≤ d.size → Bl key num bs 0 n d → PermIn 0 n d (stO (ltK key) n f bs d) ∧ SortedIn (ltR key num) 0 n (stO (ltK key) n f bs d)
  | 0, bs, d, h0, h1, h2, h3 => by
    simp only [stO]
    refine ⟨permIn_refl _ _ _, fun p q k1 k2 k3 => ?_⟩
    have := h3.1 p q k2 (by omega) (by rw [Nat.div_eq_of_lt (by omega), Nat.div_eq_of_lt (by omega)])
    simpa using this
  | f + 1, bs, d, h0, h1, h2, h3 => by
    simp only [stO]
    by_cases c : bs < n
    · rw [if_pos c]
      obtain ⟨p1, b1⟩ := stM_spec key num n bs h0 (n + 1) 0 d (by omega) (by omega) h2 h3
      obtain ⟨p2, s2⟩ := stO_spec n f (2 * bs) _ (by omega) (by omega) (by rw [p1.1]; exact h2) b1
      exact ⟨permIn_trans _ _ _ _ _ p1 p2, s2⟩
    · rw [if_neg c]
      refine ⟨permIn_refl _ _ _, fun p q k1 k2 k3 => ?_⟩
      have := h3.1 p q k2 (by omega) (by rw [Nat.div_eq_of_lt (by omega), Nat.div_eq_of_lt (by omega)])
      simpa using this
theorem stable_spec (d : Array α) (h : ∀ p q, p < q → q < d.size → num d[p]! < num d[q]!) :
    PermIn 0 d.size d (stable (ltK key) d.size d) ∧ SortedIn (ltR key num) 0 d.size (stable (ltK key) d.size d) := by
  unfold stable
  obtain ⟨p1, b1⟩ := stB_spec key num d.size (d.size + 1) 0 d (by omega) (by omega) (Nat.le_refl _) (fun p q _ k2 k3 => h p q k2 k3)
  obtain ⟨p2, s2⟩ := stO_spec key num d.size (d.size + 1) 20 _ (by omega) (by omega) (by rw [p1.1]; exact Nat.le_refl _) b1
  exact ⟨permIn_trans _ _ _ _ _ p1 p2, s2⟩
end Go.Proofs.Ytjhgdlgdejcmjaa.L
