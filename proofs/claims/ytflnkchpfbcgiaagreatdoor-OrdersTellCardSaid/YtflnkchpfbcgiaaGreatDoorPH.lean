/- Plain laws, part H: the document's reading of a duration comes to its value over lists. By an AI agent of this work. -/
import Derived.Test.YtflnkchpfbcgiaaGreatDoorPG
namespace Go.Proofs.YtflnkchpfbcgiaaGreatDoor.Q
open Go.RowKit Go.Proofs.YtflnkchpfbcgiaaGreatDoorW.PrintWords Go.Proofs.YtflnkchpfbcgiaaGreatDoorW.PrintLast Go.Proofs.YtflnkchpfbcgiaaGreatDoorW.PrintMore
set_option linter.unusedVariables false
set_option linter.unusedSimpArgs false
theorem u64_in {x : Int} (h0 : 0 ≤ x) (h1 : x < 18446744073709551616) : IntKind.u64.wrap x = x := by
  exact addR_u64_in h0 h1
theorem dval_snoc (l : List UInt8) (b : UInt8) (acc : Nat) : dval acc (l ++ [b]) = dval acc l * 10 + (b.toNat - 48) := by simp [dval]
theorem drop_get (l : List UInt8) (a j : Nat) : (l.drop a)[j]? = l[a + j]? := List.getElem?_drop
theorem bt_drop {l : List UInt8} {a j : Nat} {b : UInt8} (h : (l.drop a)[j]? = some b) : bt (ofL l) ((a + j : Nat) : Int) = (b.toNat : Int) := bt_ofL l _ b (by rw [← drop_get]; exact h)
/-- The document's number from a place on. -/
def numR (l : List UInt8) (a : Nat) : Int × Int × Bool :=
  match nx (l.drop a) with
  | some (n, _) => ((n : Int), ((a + dcl (l.drop a) : Nat) : Int), true)
  | none => (0, (a : Int), false)
theorem num_l1 (l : List UInt8) (a : Nat) (hl : l.length < 1000000) (h15 : dcl (l.drop a) ≤ 15) : ∀ n j : Nat, dcl (l.drop a) - j = n → j ≤ dcl (l.drop a) →
    Ev (fun k => remontoirref02_number.l1 k (ofL l) ((a + dcl (l.drop a) : Nat) : Int) (dval 0 ((l.drop a).take j) : Nat) ((a + j : Nat) : Int)) ((dval 0 ((l.drop a).take (dcl (l.drop a))) : Nat), ((a + dcl (l.drop a) : Nat) : Int), true) := by
  intro n
  have hle := dcl_le (l.drop a)
  rw [List.length_drop] at hle
  induction n with
  | zero =>
    intro j h1 h2
    obtain rfl : j = dcl (l.drop a) := by omega
    exact Ev.step (fun k => remontoirref02_number.l1.eq_2 _ _ _ _ _) (Ev.neg (by omega) (Ev.const rfl))
  | succ n ih =>
    intro j h1 h2
    obtain ⟨b, hb, hd⟩ := dcl_dig (l.drop a) j (by omega)
    have hbt := bt_drop hb
    unfold isDg at hd
    have hj : j < (l.drop a).length := by rw [List.length_drop]; omega
    have hgb : (l.drop a)[j] = b := by
      rw [List.getElem?_eq_getElem hj] at hb
      exact Option.some.inj hb
    have hnext := ih (j + 1) (by omega) (by omega)
    rw [List.take_succ_eq_append_getElem hj, hgb, dval_snoc] at hnext
    have g1 : ((a + j : Nat) : Int) < ((a + dcl (l.drop a) : Nat) : Int) := by omega
    have g2 : (0 : Int) ≤ ((a + j : Nat) : Int) := by omega
    have g3 : ((a + j : Nat) : Int) < ((ofL l).size : Int) := by rw [ofL_size]; omega
    have HW : Aside0 (wrap64 (((a + j : Nat) : Int) + 1) = ((a + (j + 1) : Nat) : Int)) := ⟨by rw [wrap_in (by omega) (by omega)]; omega⟩
    replace hbt := Aside0.mk hbt
    have hlt : dval 0 ((l.drop a).take j) < 10 ^ 15 := by
      have h3 := dval_lt ((l.drop a).take j) 0 (fun c hc => by
        obtain ⟨q, hq, rfl⟩ := List.getElem_of_mem hc
        rw [List.length_take] at hq
        obtain ⟨e, he, hde⟩ := dcl_dig (l.drop a) q (by omega)
        rw [List.getElem_take]
        rw [List.getElem?_eq_getElem (by omega)] at he
        rw [Option.some.inj he]
        exact hde)
      rw [List.length_take] at h3
      have h4 : 10 ^ (min j (l.drop a).length) ≤ 10 ^ 15 := Nat.pow_le_pow_right (by decide) (by omega)
      omega
    have hv : IntKind.u64.wrap (IntKind.u64.wrap (((dval 0 ((l.drop a).take j) : Nat) : Int) * 10) + ((b.toNat : Int) - 48) % 256) = ((dval 0 ((l.drop a).take j) * 10 + (b.toNat - 48) : Nat) : Int) := by
      rw [u64_in (x := ((dval 0 ((l.drop a).take j) : Nat) : Int) * 10) (by omega) (by omega), u64_in (by omega) (by omega)]
      omega
    refine Ev.step (fun k => ?_) hnext
    rw [remontoirref02_number.l1.eq_2, if_pos g1, if_pos g2, if_pos g3, hbt.out, HW.out, hv]
theorem num_j2t (s : ByteArray) (a x : Int) (b : Bool) (hb : b = true) : Ev (fun k => remontoirref02_number.j2 k s a x b) (0, a, false) := Ev.step (fun k => remontoirref02_number.j2.eq_2 _ _ _ _ _) (Ev.pos hb (Ev.const rfl))
theorem num_j2f (l : List UInt8) (a : Nat) (hl : l.length < 1000000) (h15 : dcl (l.drop a) ≤ 15) (b : Bool) (hb : b = false) : Ev (fun k => remontoirref02_number.j2 k (ofL l) (a : Int) ((a + dcl (l.drop a) : Nat) : Int) b) ((dval 0 ((l.drop a).take (dcl (l.drop a))) : Nat), ((a + dcl (l.drop a) : Nat) : Int), true) :=
by
  have h := num_l1 l a hl h15 _ 0 rfl (Nat.zero_le _)
  have e1 : ((dval 0 ((l.drop a).take 0) : Nat) : Int) = 0 := rfl
  have e2 : ((a + 0 : Nat) : Int) = (a : Int) := by rw [Nat.add_zero]
  rw [e1, e2] at h
  exact Ev.step (fun k => remontoirref02_number.j2.eq_2 _ _ _ _ _) (Ev.neg (by rw [hb]; decide) h)
theorem num_l0 (l : List UInt8) (a : Nat) (ha : a ≤ l.length) (hl : l.length < 1000000) : ∀ n j : Nat, dcl (l.drop a) - j = n → j ≤ dcl (l.drop a) → Ev (fun k => remontoirref02_number.l0 k (ofL l) (a : Int) ((a + j : Nat) : Int)) (numR l a) := by
  intro n
  have hle := dcl_le (l.drop a)
  rw [List.length_drop] at hle
  induction n with
  | zero =>
    intro j h1 h2
    obtain rfl : j = dcl (l.drop a) := by omega
    have tail : Ev (fun k => remontoirref02_number.j1 k (ofL l) (a : Int) ((a + dcl (l.drop a) : Nat) : Int) false) (numR l a) := by
      have hw : wrap64 (((a + dcl (l.drop a) : Nat) : Int) - (a : Int)) = (dcl (l.drop a) : Int) := by rw [wrap_in (by omega) (by omega)]; omega
      refine Ev.step (fun k => remontoirref02_number.j1.eq_2 _ _ _ _ _) (Ev.neg (by decide) ?_)
      rw [hw]
      unfold numR nx
      refine Ev.ite (fun h => ?_) (fun h1 => ?_)
      · rw [if_pos (by omega)]; exact num_j2t _ _ _ _ rfl
      refine Ev.ite (fun h => ?_) (fun h2 => ?_)
      · rw [if_pos (by omega)]; exact num_j2t _ _ _ _ rfl
      obtain ⟨b, hb, hd⟩ := dcl_dig (l.drop a) 0 (by omega)
      have hbt := bt_drop hb
      rw [Nat.add_zero] at hbt
      have hh : (l.drop a).head? = some b := by rw [← hb]; cases l.drop a <;> rfl
      have h48 : bt (ofL l) (a : Int) = 48 ↔ (l.drop a).head? = some 48 := by
        rw [hbt, hh]
        simp only [Option.some.injEq]
        constructor
        · intro h3; exact UInt8.toNat_inj.1 (by have : b.toNat = 48 := (by omega); exact this)
        · rintro rfl; rfl
      refine Ev.pos (by omega) (Ev.pos (by rw [ofL_size]; omega) (Ev.ite (fun h => ?_) (fun h => ?_)))
      · by_cases h5 : 1 < dcl (l.drop a)
        · rw [if_pos (.inr (.inr ⟨h48.1 h, h5⟩))]; exact num_j2t _ _ _ _ (by rw [decide_eq_true_iff]; omega)
        · rw [if_neg (by omega)]; exact num_j2f l a hl (by omega) _ (by rw [decide_eq_false_iff_not]; omega)
      · rw [if_neg (by rw [← h48]; omega)]; exact num_j2f l a hl (by omega) _ rfl
    refine Ev.step (fun k => remontoirref02_number.l0.eq_2 _ _ _ _) (Ev.ite (fun h => Ev.pos (by omega) (Ev.ite (fun h2 => ?_) (fun _ => tail))) (fun _ => tail))
    rw [ofL_size] at h
    have hj : dcl (l.drop a) < (l.drop a).length := by rw [List.length_drop]; omega
    have hb := List.getElem?_eq_getElem hj
    have hbt := bt_drop hb
    have hnd := dcl_end (l.drop a) _ hb
    unfold isDg at hnd
    have : (decide (bt (ofL l) ((a + dcl (l.drop a) : Nat) : Int) ≤ 57)) = false := by
      rw [decide_eq_false_iff_not]; omega
    rw [this]
    exact tail
  | succ n ih =>
    intro j h1 h2
    obtain ⟨b, hb, hd⟩ := dcl_dig (l.drop a) j (by omega)
    have hbt := bt_drop hb
    unfold isDg at hd
    have hdec : (decide (bt (ofL l) ((a + j : Nat) : Int) ≤ 57)) = true := by rw [decide_eq_true_iff]; omega
    have hw : wrap64 (((a + j : Nat) : Int) + 1) = ((a + (j + 1) : Nat) : Int) := by rw [wrap_in (by omega) (by omega)]; omega
    refine Ev.step (fun k => remontoirref02_number.l0.eq_2 _ _ _ _) (Ev.pos (by rw [ofL_size]; omega) (Ev.pos (by omega) (Ev.pos (by omega) ?_)))
    rw [hdec]
    refine Ev.step (fun k => remontoirref02_number.j1.eq_2 _ _ _ _ _) (Ev.pos rfl ?_)
    rw [hw]
    exact ih (j + 1) (by omega) (by omega)
theorem num_ev (l : List UInt8) (a : Nat) (ha : a ≤ l.length) (hl : l.length < 1000000) : Ev (fun k => remontoirref02_number.f k (ofL l) (a : Int)) (numR l a) :=
by
  have h := num_l0 l a ha hl _ 0 rfl (Nat.zero_le _)
  have e2 : ((a + 0 : Nat) : Int) = (a : Int) := by rw [Nat.add_zero]
  rw [e2] at h
  exact Ev.congr (fun k => by unfold remontoirref02_number.f; rfl) h
theorem nx_range {r r' : List UInt8} {n : Nat} (h : nx r = some (n, r')) : n < 1000000000000000 ∧ r' = r.drop (dcl r) := by
  unfold nx at h
  split at h
  · cases h
  · rename_i hc
    cases h
    refine ⟨?_, rfl⟩
    have h3 := dval_lt (r.take (dcl r)) 0 (fun c hc => by
      obtain ⟨q, hq, rfl⟩ := List.getElem_of_mem hc
      rw [List.length_take] at hq
      obtain ⟨e, he, hde⟩ := dcl_dig r q (by omega)
      rw [List.getElem_take]
      rw [List.getElem?_eq_getElem (by omega)] at he
      rw [Option.some.inj he]
      exact hde)
    rw [List.length_take] at h3
    have h4 : 10 ^ (min (dcl r) r.length) ≤ 10 ^ 15 := Nat.pow_le_pow_right (by decide) (by omega)
    omega
theorem add_f (s n u : Int) (hs : 0 ≤ s) (hs2 : s ≤ 1125899906842625) (hn : 0 ≤ n) (hn2 : n < 1000000000000000) (hu : 0 < u) (hu2 : u ≤ 604800) : remontoirref02_add.f s n u = some (addR s n u) ∧ 0 ≤ addR s n u ∧ addR s n u ≤ 1125899906842625 := by
  have hd0 : 0 ≤ 1125899906842624 / u := Int.ediv_nonneg (by decide) (by omega)
  have hd1 : 1125899906842624 / u ≤ 1125899906842624 := Int.ediv_le_self _ (by decide)
  have hm : 0 ≤ n * u := Int.mul_nonneg hn (by omega)
  have hle : ¬ n > 1125899906842624 / u → n * u ≤ 1125899906842624 := by
    intro h
    have h1 : n ≤ 1125899906842624 / u := by omega
    have h2 := Int.mul_le_mul_of_nonneg_right h1 (show 0 ≤ u by omega)
    have h3 := Int.ediv_mul_le 1125899906842624 (show u ≠ 0 by omega)
    omega
  unfold remontoirref02_add.f
  rw [if_pos ⟨hs, hs2, hn, hn2, hu, hu2⟩]
  refine ⟨rfl, ?_⟩
  unfold addR
  by_cases h : n > 1125899906842624 / u
  · rw [if_pos h]; exact ⟨by decide, by decide⟩
  · rw [if_neg h]
    have := hle h
    generalize n * u = p at hm this ⊢
    refine ⟨?_, ?_⟩
    · split <;> omega
    · split <;> omega
theorem par_j6 (s : Int) : Ev (fun k => remontoirref02_Parse.j6 k s) (fin6 s) := by
  refine Ev.step (fun k => remontoirref02_Parse.j6.eq_2 _ _) ?_
  unfold fin6
  refine Ev.ite (fun h => ?_) (fun h => ?_)
  · rw [if_pos h]; exact Ev.const rfl
  · rw [if_neg h]; exact Ev.const rfl
theorem drop_nil {l : List UInt8} {a : Nat} (ha : a ≤ l.length) : l.drop a = [] ↔ a = l.length := by rw [List.drop_eq_nil_iff]; omega
theorem hms_at (m : Nat) (hm : m < 3) : bt (⟨#[72, 77, 83]⟩ : ByteArray) (2 - (m : Int)) = ((sgn m).toNat : Int) ∧ rd [3600, 60, 1] (2 - (m : Int)) = unt m := by
  have hm' : m = 0 ∨ m = 1 ∨ m = 2 := by omega
  rcases hm' with rfl | rfl | rfl <;> decide
theorem par_l0 (l : List UInt8) (hl : l.length < 1000000) : ∀ (m a : Nat) (s : Int) (b : Bool), m ≤ 3 → a ≤ l.length → 0 ≤ s → s ≤ 1125899906842625 → Ev (fun k => remontoirref02_Parse.l0 k (ofL l) (a : Int) s b [3600, 60, 1] (3 - (m : Int))) (loopM m (l.drop a) s b) := by
  intro m
  induction m with
  | zero =>
    intro a s b _ ha h0 h1
    refine Ev.step (fun k => remontoirref02_Parse.l0.eq_2 _ _ _ _ _ _ _) (Ev.neg (by omega) ?_)
    unfold loopM
    refine Ev.ite (fun h => Ev.ite (fun h2 => ?_) (fun h2 => ?_)) (fun h => ?_)
    · rw [ofL_size] at h2
      rw [if_pos ⟨h, (drop_nil ha).2 (by omega)⟩]
      exact par_j6 s
    · rw [ofL_size] at h2
      rw [if_neg (by intro e; have := (drop_nil ha).1 e.2; omega)]
      exact Ev.const rfl
    · rw [if_neg (by intro e; exact h e.1)]; exact Ev.const rfl
  | succ m ih =>
    intro a s b hm ha h0 h1
    obtain ⟨hh, hu⟩ := hms_at m (by omega)
    have hur := unt_range m
    have hi : (3 - ((m + 1 : Nat) : Int)) = 2 - (m : Int) := by omega
    have HW : Aside0 (wrap64 (2 - (m : Int) + 1) = 3 - (m : Int)) := ⟨by rw [wrap_in (by omega) (by omega)]; omega⟩
    replace hh := Aside0.mk hh
    replace hu := Aside0.mk hu
    rw [hi]
    have skip : ∀ n x b2, b2 = false → Ev (fun k => remontoirref02_Parse.j5 k (ofL l) (a : Int) s b [3600, 60, 1] (2 - (m : Int)) n x b2) (loopM m (l.drop a) s b) := by
      intro n x b2 hb2
      refine Ev.step (fun k => remontoirref02_Parse.j5.eq_2 _ _ _ _ _ _ _ _ _ _) (Ev.neg (by rw [hb2]; decide) ?_)
      rw [HW.out]
      exact ih a s b (by omega) ha h0 h1
    refine Ev.step (fun k => remontoirref02_Parse.l0.eq_2 _ _ _ _ _ _ _) (Ev.pos (by omega) (Ev.bind (num_ev l a ha hl) ?_))
    unfold loopM
    cases hx : nx (l.drop a) with
    | none =>
      have hnum : numR l a = (0, (a : Int), false) := by unfold numR; rw [hx]
      rw [hnum]
      exact Ev.neg (show ¬ (false = true) by decide) (skip _ _ _ rfl)
    | some p =>
      obtain ⟨n, r⟩ := p
      have hnum : numR l a = ((n : Int), ((a + dcl (l.drop a) : Nat) : Int), true) := by unfold numR; rw [hx]
      obtain ⟨hn, hr⟩ := nx_range hx
      have hdl := dcl_le (l.drop a)
      rw [List.length_drop] at hdl
      rw [List.drop_drop] at hr
      rw [hnum]
      refine Ev.pos rfl ?_
      cases r with
      | nil =>
        have := (drop_nil (l := l) (a := a + dcl (l.drop a)) (by omega)).1 hr.symm
        exact Ev.neg (by rw [ofL_size]; show ¬ (((a + dcl (l.drop a) : Nat) : Int) < _); omega) (skip _ _ _ rfl)
      | cons c r' =>
        have hlt : a + dcl (l.drop a) < l.length := by
          rcases Nat.lt_or_ge (a + dcl (l.drop a)) l.length with h | h
          · exact h
          · rw [List.drop_of_length_le h] at hr; cases hr
        have hc : l[a + dcl (l.drop a)]? = some c := by
          have : (l.drop (a + dcl (l.drop a)))[0]? = some c := by rw [← hr]; rfl
          rw [List.getElem?_drop] at this
          exact this
        have hbt := bt_ofL l _ c hc
        have hr' : r' = l.drop (a + dcl (l.drop a) + 1) := by rw [← List.drop_drop, ← hr]; rfl
        refine Ev.pos (by rw [ofL_size]; show (((a + dcl (l.drop a) : Nat) : Int) < _); omega) (Ev.pos (by show (0 : Int) ≤ ((a + dcl (l.drop a) : Nat) : Int); omega) (Ev.pos (by omega) ?_))
        show Ev (fun k => remontoirref02_Parse.j5 k (ofL l) (a : Int) s b [3600, 60, 1] (2 - (m : Int)) (n : Int) ((a + dcl (l.drop a) : Nat) : Int) (bt (ofL l) ((a + dcl (l.drop a) : Nat) : Int) == bt (⟨#[72, 77, 83]⟩ : ByteArray) (2 - (m : Int)))) (if c = sgn m then loopM m r' (addR s (n : Int) (unt m)) true else loopM m (l.drop a) s b)
        have HW2 : Aside0 (wrap64 (((a + dcl (l.drop a) : Nat) : Int) + 1) = ((a + dcl (l.drop a) + 1 : Nat) : Int)) := ⟨by rw [wrap_in (by omega) (by omega)]; omega⟩
        replace hbt := Aside0.mk hbt
        have g1 : (0 : Int) ≤ 2 - (m : Int) := by omega
        have g2 : 2 - (m : Int) < (([3600, 60, 1] : List Int).length : Int) := by show 2 - (m : Int) < 3; omega
        have g3 : m ≤ 3 := by omega
        have g4 : a + dcl (l.drop a) + 1 ≤ l.length := by omega
        have g5 : (0 : Int) ≤ (n : Int) := by omega
        have g6 : (n : Int) < 1000000000000000 := by omega
        rw [hbt.out, hh.out]
        by_cases hcs : c = sgn m
        · rw [if_pos hcs]
          obtain ⟨ha1, ha2, ha3⟩ := add_f s n (unt m) h0 h1 g5 g6 hur.1 hur.2
          have hnext := ih (a + dcl (l.drop a) + 1) _ true g3 g4 ha2 ha3
          rw [← hr'] at hnext
          refine Ev.step (fun k => ?_) hnext
          rw [remontoirref02_Parse.j5.eq_2, if_pos (by rw [hcs, beq_iff_eq]), if_pos g1, if_pos g2, hu.out, ha1, Option.bind_some, HW.out, HW2.out]
        · rw [if_neg hcs]
          exact skip _ _ _ (by rw [beq_eq_false_iff_ne]; intro e; exact hcs (toNat_eq.1 e))
theorem par_j3 (l : List UInt8) (hl : l.length < 1000000) (a : Nat) (s : Int) (ha : a ≤ l.length) (h0 : 0 ≤ s) (h1 : s ≤ 1125899906842625) : Ev (fun k => remontoirref02_Parse.j3 k (ofL l) (a : Int) s) (tailR (l.drop a) s) := by
  refine Ev.step (fun k => remontoirref02_Parse.j3.eq_2 _ _ _ _) ?_
  unfold tailR
  refine Ev.ite (fun h => Ev.pos (by omega) ?_) (fun h => ?_)
  · rw [ofL_size] at h
    have hne : l.drop a ≠ [] := by intro e; have := (drop_nil ha).1 e; omega
    rw [if_neg hne]
    obtain ⟨c, r, hcr⟩ : ∃ c r, l.drop a = c :: r := by
      cases hd : l.drop a with
      | nil => exact absurd hd hne
      | cons c r => exact ⟨c, r, rfl⟩
    have hbt := bt_drop (l := l) (a := a) (j := 0) (b := c) (by rw [hcr]; rfl)
    rw [Nat.add_zero] at hbt
    have hw : wrap64 ((a : Int) + 1) = ((a + 1 : Nat) : Int) := by rw [wrap_in (by omega) (by omega)]; omega
    have hd1 : l.drop (a + 1) = r := by rw [← List.drop_drop, hcr]; rfl
    rw [hbt, hw, hcr]
    refine Ev.ite (fun h2 => ?_) (fun h2 => ?_)
    · rw [if_pos (by rw [List.head?_cons, toNat_eq (d := 84) |>.1 h2])]
      have := par_l0 l hl 3 (a + 1) s false (by omega) (by omega) h0 h1
      rw [hd1] at this
      exact this
    · rw [if_neg (by intro e; rw [List.head?_cons] at e; cases e; exact h2 rfl)]
      exact Ev.const rfl
  · rw [ofL_size] at h
    rw [if_pos ((drop_nil ha).2 (by omega))]
    exact par_j6 s
theorem par_ev (l : List UInt8) (hl : l.length < 1000000) : Ev (fun k => remontoirref02_Parse.f k (ofL l)) (spanR l) := by
  refine Ev.congr (fun k => by unfold remontoirref02_Parse.f; rfl) ?_
  unfold spanR
  refine Ev.ite (fun h => ?_) (fun h => Ev.pos (by omega) ?_)
  · rw [ofL_size] at h
    rw [if_pos (by omega)]
    exact Ev.step (fun k => remontoirref02_Parse.j0.eq_2 _ _ _) (Ev.pos rfl (Ev.const rfl))
  · rw [ofL_size] at h
    obtain ⟨p, r, rfl⟩ : ∃ p r, l = p :: r := by
      cases l with
      | nil => simp at h
      | cons p r => exact ⟨p, r, rfl⟩
    have hb0 := bt_ofL (p :: r) 0 p rfl
    rw [show ((0 : Nat) : Int) = 0 from rfl] at hb0
    have h80 : bt (ofL (p :: r)) 0 = 80 ↔ p = 80 := by rw [hb0]; exact toNat_eq (d := 80)
    rw [List.head?_cons, List.tail_cons]
    refine Ev.step (fun k => remontoirref02_Parse.j0.eq_2 _ _ _) (Ev.ite (fun h2 => ?_) (fun h2 => ?_))
    · rw [bne_iff_ne, Ne, h80] at h2
      rw [if_pos (.inr (by intro e; cases e; exact h2 rfl))]
      exact Ev.const rfl
    · have hp : p = 80 := by
        rw [bne_iff_ne, Ne, h80] at h2
        exact Classical.byContradiction h2
      subst hp
      rw [if_neg (by rintro (e | e); omega; exact e rfl)]
      have hd1 : (80 :: r).drop 1 = r := rfl
      have hnum := num_ev (80 :: r) 1 (by omega) hl
      have hj3 := par_j3 (80 :: r) hl 1 0 (by omega) (by decide) (by decide)
      rw [hd1] at hj3
      have jf : ∀ n x b, b = false → Ev (fun k => remontoirref02_Parse.j1 k (ofL (80 :: r)) 1 0 n x b) (tailR r 0) := by
        intro n x b hb
        exact Ev.step (fun k => remontoirref02_Parse.j1.eq_2 _ _ _ _ _ _ _) (Ev.neg (by rw [hb]; decide) hj3)
      refine Ev.bind hnum ?_
      cases hx : nx r with
      | none =>
        have hn : numR (80 :: r) 1 = (0, 1, false) := by unfold numR; rw [hd1, hx]; rfl
        rw [hn]
        exact Ev.neg (show ¬ (false = true) by decide) (jf _ _ _ rfl)
      | some q =>
        obtain ⟨n, r1⟩ := q
        have hn : numR (80 :: r) 1 = ((n : Int), ((1 + dcl r : Nat) : Int), true) := by unfold numR; rw [hd1, hx]
        obtain ⟨hnr, hr⟩ := nx_range hx
        have hdl := dcl_le r
        rw [hn]
        refine Ev.pos rfl ?_
        show Ev (fun k => remontoirref02_Parse.j1 k (ofL (80 :: r)) 1 0 (n : Int) ((1 + dcl r : Nat) : Int) (decide (((1 + dcl r : Nat) : Int) < ((ofL (80 :: r)).size : Int)))) _
        rw [ofL_size, List.length_cons]
        cases r1 with
        | nil =>
          have := (drop_nil hdl).1 hr.symm
          exact jf _ _ _ (by rw [decide_eq_false_iff_not]; omega)
        | cons c r' =>
          have hlt : dcl r < r.length := by
            rcases Nat.lt_or_ge (dcl r) r.length with h | h
            · exact h
            · rw [List.drop_of_length_le h] at hr; cases hr
          have hc : (80 :: r)[1 + dcl r]? = some c := by
            have : (r.drop (dcl r))[0]? = some c := by rw [← hr]; rfl
            rw [List.getElem?_drop] at this
            rw [Nat.add_comm 1, List.getElem?_cons_succ]
            exact this
          have hbt := bt_ofL (80 :: r) _ c hc
          have hd2 : (80 :: r).drop (1 + dcl r + 1) = r' := by
            have : r.drop (dcl r + 1) = r' := by rw [← List.drop_drop, ← hr]; rfl
            rw [Nat.add_comm 1, List.drop_succ_cons]
            exact this
          have hw : wrap64 (((1 + dcl r : Nat) : Int) + 1) = ((1 + dcl r + 1 : Nat) : Int) := by rw [wrap_in (by simp at hl; omega) (by simp at hl; omega)]; omega
          have c1 : (c.toNat : Int) = 89 ↔ c = 89 := toNat_eq (d := 89)
          have c2 : (c.toNat : Int) = 77 ↔ c = 77 := toNat_eq (d := 77)
          have c3 : (c.toNat : Int) = 87 ↔ c = 87 := toNat_eq (d := 87)
          have c4 : (c.toNat : Int) = 68 ↔ c = 68 := toNat_eq (d := 68)
          have j2 : ∀ b, b = decide (c = 89 ∨ c = 77) → Ev (fun k => remontoirref02_Parse.j2 k (ofL (80 :: r)) (n : Int) ((1 + dcl r : Nat) : Int) (c.toNat : Int) b) (if c = 89 ∨ c = 77 then (0, 4) else if c = 87 then (if r' = [] then tailR r' (addR 0 n 604800) else (0, 2)) else if c = 68 then tailR r' (addR 0 n 86400) else (0, 2)) := by
            intro b hb
            obtain ⟨a1, a2, a3⟩ := add_f 0 n 604800 (by decide) (by decide) (by omega) (by omega) (by decide) (by decide)
            obtain ⟨b1, b2, b3⟩ := add_f 0 n 86400 (by decide) (by decide) (by omega) (by omega) (by decide) (by decide)
            refine Ev.step (fun k => remontoirref02_Parse.j2.eq_2 _ _ _ _ _ _) (Ev.ite (fun k1 => ?_) (fun k1 => ?_))
            · rw [hb, decide_eq_true_iff] at k1
              rw [if_pos k1]; exact Ev.const rfl
            rw [hb, decide_eq_true_iff] at k1
            rw [if_neg k1]
            refine Ev.ite (fun k2 => ?_) (fun k2 => ?_)
            · rw [c3] at k2
              rw [if_pos k2]
              refine Ev.bind' a1 ?_
              rw [hw, ofL_size]
              refine Ev.ite (fun k3 => ?_) (fun k3 => ?_)
              · have hr0 : r' = [] := by rw [← hd2]; exact (drop_nil (by simp; omega)).2 (by omega)
                rw [if_pos hr0]
                have := par_j3 (80 :: r) hl (1 + dcl r + 1) _ (by simp; omega) a2 a3
                rw [hd2] at this
                exact this
              · have hr0 : r' ≠ [] := by rw [← hd2]; intro e; have := (drop_nil (by simp; omega)).1 e; omega
                rw [if_neg hr0]; exact Ev.const rfl
            rw [c3] at k2
            rw [if_neg k2]
            refine Ev.ite (fun k3 => ?_) (fun k3 => ?_)
            · rw [c4] at k3
              rw [if_pos k3]
              refine Ev.bind' b1 ?_
              rw [hw]
              have := par_j3 (80 :: r) hl (1 + dcl r + 1) _ (by simp; omega) b2 b3
              rw [hd2] at this
              exact this
            · rw [c4] at k3
              rw [if_neg k3]; exact Ev.const rfl
          refine Ev.step (fun k => remontoirref02_Parse.j1.eq_2 _ _ _ _ _ _ _) (Ev.pos (by rw [decide_eq_true_iff]; omega) (Ev.pos (by omega) (Ev.pos (by rw [ofL_size, List.length_cons]; omega) ?_)))
          rw [hbt]
          refine Ev.ite (fun k1 => ?_) (fun k1 => ?_)
          · rw [c1] at k1
            exact j2 _ (by subst k1; decide)
          · rw [c1] at k1
            refine j2 _ ?_
            rw [Bool.eq_iff_iff, beq_iff_eq, decide_eq_true_iff, c2]
            exact ⟨fun e => .inr e, fun e => e.elim (fun e => absurd e k1) id⟩
end Go.Proofs.YtflnkchpfbcgiaaGreatDoor.Q
