/- Plain laws, part A: 'from some number of rounds on', and what a number at the head of a text comes to. By an AI agent of this work. -/
import Derived.Test.YtflnkchpfbcgiaaGreatDoorQx0
import Derived.Test.YtflnkchpfbcgiaaGreatDoorQx2
import Derived.Test.YtflnkchpfbcgiaaGreatDoorHLib
namespace Go.Proofs.YtflnkchpfbcgiaaGreatDoor.Q
open Go.RowKit Go.Proofs.YtflnkchpfbcgiaaGreatDoorW.PrintWords Go.Proofs.YtflnkchpfbcgiaaGreatDoorW.PrintLast Go.Proofs.YtflnkchpfbcgiaaGreatDoorW.PrintMore
set_option linter.unusedVariables false
set_option linter.unusedSimpArgs false

/-- From some number of rounds on the answer is v. -/
def Ev {α : Type} (f : Nat → Option α) (v : α) : Prop := ∃ K, ∀ k, K ≤ k → f k = some v
theorem Ev.const {α : Type} {o : Option α} {v : α} (h : o = some v) : Ev (fun _ => o) v := ⟨0, fun _ _ => h⟩
theorem Ev.step {α : Type} {f g : Nat → Option α} {v : α} (h : ∀ k, f (k + 1) = g k) (hg : Ev g v) : Ev f v := by
  obtain ⟨K, hK⟩ := hg
  refine ⟨K + 1, fun k hk => ?_⟩
  obtain ⟨j, rfl⟩ : ∃ j, k = j + 1 := ⟨k - 1, by omega⟩
  rw [h]
  exact hK j (by omega)
theorem Ev.congr {α : Type} {f g : Nat → Option α} {v : α} (h : ∀ k, f k = g k) (hg : Ev g v) : Ev f v := by
  obtain ⟨K, hK⟩ := hg
  exact ⟨K, fun k hk => (h k).trans (hK k hk)⟩
theorem Ev.up {α : Type} {f : Nat → Option α} {v : α} (h : Ev f v) : Ev (fun k => f (k + 1)) v := by
  obtain ⟨K, hK⟩ := h
  exact ⟨K, fun k hk => hK (k + 1) (by omega)⟩
theorem Ev.bind {α β : Type} {f : Nat → Option α} {g : Nat → α → Option β} {v : α} {u : β} (h : Ev f v) (hg : Ev (fun k => g k v) u) : Ev (fun k => (f k).bind (g k)) u := by
  obtain ⟨K, hK⟩ := h
  obtain ⟨L, hL⟩ := hg
  refine ⟨K + L, fun k hk => ?_⟩
  show (f k).bind (g k) = some u
  rw [hK k (by omega)]
  exact hL k (by omega)
theorem Ev.bind' {α β : Type} {o : Option α} {g : Nat → α → Option β} {v : α} {u : β} (h : o = some v) (hg : Ev (fun k => g k v) u) : Ev (fun k => o.bind (g k)) u := Ev.bind (Ev.const h) hg
theorem Ev.pos {α : Type} {c : Prop} [Decidable c] {f g : Nat → Option α} {v : α} (hc : c) (h : Ev f v) : Ev (fun k => if c then f k else g k) v := by
  simpa only [if_pos hc] using h
theorem Ev.neg {α : Type} {c : Prop} [Decidable c] {f g : Nat → Option α} {v : α} (hc : ¬ c) (h : Ev g v) : Ev (fun k => if c then f k else g k) v := by
  simpa only [if_neg hc] using h
theorem Ev.ite {α : Type} {c : Prop} [Decidable c] {f g : Nat → Option α} {v : α} (h1 : c → Ev f v) (h2 : ¬ c → Ev g v) : Ev (fun k => if c then f k else g k) v := by
  by_cases hc : c
  · exact Ev.pos hc (h1 hc)
  · exact Ev.neg hc (h2 hc)
theorem Ev.get {α : Type} {f : Nat → Option α} {v : α} (h : Ev f v) : ∃ k, f k = some v := by
  obtain ⟨K, hK⟩ := h
  exact ⟨K, hK K (Nat.le_refl _)⟩

/-! ### Bytes -/
theorem wrap_in {x : Int} (h0 : -9223372036854775808 ≤ x) (h1 : x < 9223372036854775808) : wrap64 x = x := by unfold wrap64; omega
def isDg (b : UInt8) : Prop := 48 ≤ b.toNat ∧ b.toNat ≤ 57
instance (b : UInt8) : Decidable (isDg b) := inferInstanceAs (Decidable (_ ∧ _))
/-- How many digits stand at the head. -/
def dcl : List UInt8 → Nat
  | [] => 0
  | b :: r => if isDg b then dcl r + 1 else 0
theorem dcl_le : ∀ l : List UInt8, dcl l ≤ l.length
  | [] => Nat.le_refl _
  | b :: r => by
    unfold dcl
    split
    · have := dcl_le r; simp only [List.length_cons]; omega
    · exact Nat.zero_le _
theorem dcl_dig : ∀ (l : List UInt8) (j : Nat), j < dcl l → ∃ b, l[j]? = some b ∧ isDg b
  | [], j, h => absurd h (by simp [dcl])
  | b :: r, j, h => by
    unfold dcl at h
    split at h
    · rename_i hb
      cases j with
      | zero => exact ⟨b, rfl, hb⟩
      | succ j =>
        obtain ⟨c, hc, hd⟩ := dcl_dig r j (by omega)
        exact ⟨c, by simpa using hc, hd⟩
    · omega
theorem dcl_end : ∀ (l : List UInt8) (b : UInt8), l[dcl l]? = some b → ¬ isDg b
  | [], b, h => by simp [dcl] at h
  | c :: r, b, h => by
    unfold dcl at h
    split at h
    · exact dcl_end r b (by simpa using h)
    · simp only [List.getElem?_cons_zero, Option.some.injEq] at h
      subst h; assumption
theorem dcl_ge : ∀ (l : List UInt8) (n : Nat), n ≤ l.length → (∀ j, j < n → ∃ b, l[j]? = some b ∧ isDg b) → n ≤ dcl l
  | [], n, h, _ => by have h2 : n ≤ 0 := h; have : n = 0 := (by omega); subst this; exact Nat.zero_le _
  | b :: r, n, h, hd => by
    cases n with
    | zero => exact Nat.zero_le _
    | succ n =>
      obtain ⟨c, hc, hb⟩ := hd 0 (by omega)
      simp only [List.getElem?_cons_zero, Option.some.injEq] at hc
      subst hc
      unfold dcl
      rw [if_pos hb]
      have := dcl_ge r n (by simpa using h) (fun j hj => by
        obtain ⟨c, hc, hb⟩ := hd (j + 1) (by omega)
        exact ⟨c, by simpa using hc, hb⟩)
      omega
/-- The number that they spell. -/
def dval (acc : Nat) (l : List UInt8) : Nat := l.foldl (fun a b => a * 10 + (b.toNat - 48)) acc
theorem dval_lt : ∀ (l : List UInt8) (acc : Nat), (∀ b ∈ l, isDg b) → dval acc l < (acc + 1) * 10 ^ l.length
  | [], acc, _ => by simp [dval]
  | b :: r, acc, h => by
    have hb := h b List.mem_cons_self
    have ih := dval_lt r (acc * 10 + (b.toNat - 48)) (fun c hc => h c (List.mem_cons_of_mem _ hc))
    have e : dval acc (b :: r) = dval (acc * 10 + (b.toNat - 48)) r := rfl
    rw [e, List.length_cons, Nat.pow_succ]
    have h2 : (acc * 10 + (b.toNat - 48) + 1) ≤ (acc + 1) * 10 := by have := hb.1; have := hb.2; omega
    calc _ < (acc * 10 + (b.toNat - 48) + 1) * 10 ^ r.length := ih
      _ ≤ ((acc + 1) * 10) * 10 ^ r.length := Nat.mul_le_mul_right _ h2
      _ = _ := by rw [Nat.mul_assoc, Nat.mul_comm 10]
theorem decFrom_dval : ∀ (l : List UInt8) (acc : Nat), (∀ b ∈ l, isDg b) → Lib.decFrom acc l = some (dval acc l)
  | [], acc, _ => rfl
  | b :: r, acc, h => by
    have hb := h b List.mem_cons_self
    have ih := decFrom_dval r (acc * 10 + (b.toNat - 48)) (fun c hc => h c (List.mem_cons_of_mem _ hc))
    have e : Lib.digitVal b = some (b.toNat - 48) := if_pos hb
    simp only [Lib.decFrom, e]
    exact ih
theorem dval_ge : ∀ (l : List UInt8) (acc : Nat), acc ≤ dval acc l
  | [], acc => Nat.le_refl _
  | b :: r, acc => by
    have ih := dval_ge r (acc * 10 + (b.toNat - 48))
    have e : dval acc (b :: r) = dval (acc * 10 + (b.toNat - 48)) r := rfl
    rw [e]; omega
theorem parseM_dval : ∀ (l : List UInt8) (acc : Nat), (∀ b ∈ l, isDg b) → dval acc l < 1000000000000000000 → Lib.parseUintM (2 ^ 64 - 1) acc l = .ok (dval acc l)
  | [], acc, _, _ => rfl
  | b :: r, acc, h, hlt => by
    have hb := h b List.mem_cons_self
    have e : dval acc (b :: r) = dval (acc * 10 + (b.toNat - 48)) r := rfl
    rw [e] at hlt ⊢
    have hg := dval_ge r (acc * 10 + (b.toNat - 48))
    unfold Lib.parseUintM
    rw [if_pos (show 48 ≤ b.toNat ∧ b.toNat ≤ 57 from hb), if_neg (by omega), if_neg (by omega)]
    exact parseM_dval r _ (fun c hc => h c (List.mem_cons_of_mem _ hc)) hlt
theorem bt_some {s : ByteArray} {j : Nat} {b : UInt8} (h : s.data.toList[j]? = some b) : bt s (j : Int) = (b.toNat : Int) := by
  have hj : j < s.data.toList.length := by
    rcases Nat.lt_or_ge j s.data.toList.length with h2 | h2
    · exact h2
    · rw [List.getElem?_eq_none h2] at h; cases h
  have hs : j < s.size := by simpa using hj
  unfold bt
  rw [Int.toNat_natCast, dif_pos hs]
  rw [List.getElem?_eq_getElem hj] at h
  have h2 := Option.some.inj h
  rw [← h2]
  rfl
theorem bt_at_some {s : ByteArray} {j : Nat} (h : j < s.size) : ∃ b, s.data.toList[j]? = some b ∧ bt s (j : Int) = (b.toNat : Int) := by
  have hj : j < s.data.toList.length := by simpa using h
  exact ⟨_, List.getElem?_eq_getElem hj, bt_some (List.getElem?_eq_getElem hj)⟩
theorem size_list (s : ByteArray) : s.data.toList.length = s.size := by simp
theorem ext_list (s : ByteArray) (i j : Nat) : (s.extract i j).data.toList = (s.data.toList.take j).drop i := by
  simp [ByteArray.extract, ByteArray.copySlice, List.extract]
  try rw [List.drop_take]

/-! ### span.next -/
def dc (s : ByteArray) : Nat := dcl s.data.toList
theorem dc_le (s : ByteArray) : dc s ≤ s.size := by have := dcl_le s.data.toList; rw [size_list] at this; exact this
abbrev nothing : ByteArray := ⟨#[]⟩
def nextV (s : ByteArray) : Int × Int × ByteArray :=
  if dc s < 1 ∨ 15 < dc s ∨ dc s = s.size ∨ (bt s 0 = 48 ∧ 1 < dc s) then (0, 0, nothing)
  else ((dval 0 (s.data.toList.take (dc s)) : Nat), bt s (dc s), s.extract (dc s + 1) s.size)
theorem next_j2 (s : ByteArray) (x : Int) (b : Bool) (hb : b = true) : Ev (fun k => span_next.j2 k s x b) (0, 0, nothing) :=
  Ev.step (fun k => span_next.j2.eq_2 _ _ _ _) (Ev.pos hb (Ev.const rfl))
theorem dig_take {s : ByteArray} : ∀ b ∈ s.data.toList.take (dc s), isDg b := by
  intro b hb
  obtain ⟨j, hj, rfl⟩ := List.getElem_of_mem hb
  rw [List.length_take] at hj
  obtain ⟨c, hc, hd⟩ := dcl_dig s.data.toList j (by unfold dc at hj; omega)
  rw [List.getElem_take]
  rw [List.getElem?_eq_getElem (by omega)] at hc
  rw [Option.some.inj hc]
  exact hd
theorem next_j2_ok (s : ByteArray) (hs : s.size < 1000000) (h1 : 1 ≤ dc s) (h2 : dc s ≤ 15) (h3 : dc s < s.size) (b : Bool) (hb : b = false) :
    Ev (fun k => span_next.j2 k s (dc s : Int) b) ((dval 0 (s.data.toList.take (dc s)) : Nat), bt s (dc s), s.extract (dc s + 1) s.size) := by
  have hw : wrap64 ((dc s : Int) + 1) = (dc s : Int) + 1 := wrap_in (by omega) (by omega)
  refine Ev.step (fun k => span_next.j2.eq_2 _ _ _ _) (Ev.neg (by rw [hb]; decide) (Ev.pos (by omega) (Ev.pos (by omega) (Ev.bind' (v := (((dval 0 (s.data.toList.take (dc s)) : Nat) : Int), none)) ?_ (Ev.pos (by omega) (Ev.pos (by omega) (Ev.pos (by omega) (Ev.const ?_))))))))
  · unfold strconv_ParseUint.f
    have hd := @dig_take s
    have hl : (s.data.toList.take (dc s)).length = dc s := by rw [List.length_take, size_list]; omega
    have hlt := dval_lt _ 0 hd
    rw [hl] at hlt
    have hp : 10 ^ dc s ≤ 10 ^ 15 := Nat.pow_le_pow_right (by decide) h2
    have e : (s.extract 0 (dc s : Int).toNat).data.toList = s.data.toList.take (dc s) := by rw [ext_list]; simp
    have hok : Lib.parseUintB 64 (s.extract 0 (dc s : Int).toNat).data.toList = .ok (dval 0 (s.data.toList.take (dc s))) := by
      rw [e]
      unfold Lib.parseUintB
      rw [if_neg (by intro h0; rw [h0] at hl; simp at hl; omega)]
      exact parseM_dval _ 0 hd (by omega)
    rw [if_pos ⟨rfl, rfl, by rw [ByteArray.size_extract]; omega⟩, hok]
  · rw [hw]
    congr 4
theorem next_l0 (s : ByteArray) (hs : s.size < 1000000) : ∀ n j : Nat, dc s - j = n → j ≤ dc s → Ev (fun k => span_next.l0 k s (j : Int)) (nextV s) := by
  intro n
  induction n with
  | zero =>
    intro j hn hj
    obtain rfl : j = dc s := by omega
    have hle := dc_le s
    have tail : Ev (fun k => span_next.j1 k s (dc s : Int) false) (nextV s) := by
      refine Ev.step (fun k => span_next.j1.eq_2 _ _ _ _) (Ev.neg (by decide) ?_)
      unfold nextV
      refine Ev.ite (fun h => ?_) (fun h1 => ?_)
      · rw [if_pos (by omega)]; exact next_j2 _ _ _ rfl
      refine Ev.ite (fun h => ?_) (fun h2 => ?_)
      · rw [if_pos (by omega)]; exact next_j2 _ _ _ rfl
      refine Ev.ite (fun h => ?_) (fun h3 => ?_)
      · rw [if_pos (by omega)]; exact next_j2 _ _ _ rfl
      refine Ev.pos (by omega) (Ev.ite (fun h => ?_) (fun h => ?_))
      · by_cases h5 : 1 < dc s
        · rw [if_pos (.inr (.inr (.inr ⟨h, h5⟩)))]; exact next_j2 _ _ _ (by rw [decide_eq_true_iff]; omega)
        · rw [if_neg (by omega)]; exact next_j2_ok s hs (by omega) (by omega) (by omega) _ (by simp; omega)
      · rw [if_neg (by omega)]; exact next_j2_ok s hs (by omega) (by omega) (by omega) _ rfl
    refine Ev.step (fun k => span_next.l0.eq_2 _ _ _) (Ev.ite (fun h => Ev.pos (by omega) (Ev.ite (fun h2 => ?_) (fun _ => tail))) (fun _ => tail))
    obtain ⟨b, hb, hbt⟩ := bt_at_some (s := s) (j := dc s) (by omega)
    have hnd := dcl_end s.data.toList b hb
    unfold isDg at hnd
    have : (decide (bt s (dc s : Int) ≤ 57)) = false := by
      rw [decide_eq_false_iff_not]
      omega
    rw [this]
    exact tail
  | succ n ih =>
    intro j hn hj
    have hle := dc_le s
    obtain ⟨b, hb, hd⟩ := dcl_dig s.data.toList j (by unfold dc at hn; omega)
    have hbt := bt_some hb
    unfold isDg at hd
    have hdec : (decide (bt s (j : Int) ≤ 57)) = true := by
      rw [decide_eq_true_iff]; omega
    have hw : wrap64 ((j : Int) + 1) = ((j + 1 : Nat) : Int) := by rw [wrap_in (by omega) (by omega)]; omega
    refine Ev.step (fun k => span_next.l0.eq_2 _ _ _) (Ev.pos (by omega) (Ev.pos (by omega) (Ev.pos (by omega) ?_)))
    rw [hdec]
    refine Ev.step (fun k => span_next.j1.eq_2 _ _ _ _) (Ev.pos rfl ?_)
    rw [hw]
    exact ih (j + 1) (by omega) (by omega)
theorem next_ev (s : ByteArray) (hs : s.size < 1000000) : Ev (fun k => span_next.f k s) (nextV s) :=
  Ev.congr (fun k => by unfold span_next.f; rfl) (next_l0 s hs (dc s) 0 (by omega) (by omega))
theorem nextV_range (s : ByteArray) : (0 ≤ (nextV s).1 ∧ (nextV s).1 < 1000000000000000) ∧ (0 ≤ (nextV s).2.1 ∧ (nextV s).2.1 < 256) ∧ (nextV s).2.2.size ≤ s.size := by
  unfold nextV
  split
  · refine ⟨by decide, by decide, ?_⟩
    show (nothing).size ≤ s.size
    have : (nothing).size = 0 := rfl
    omega
  · rename_i h
    have hd := @dig_take s
    have hl : (s.data.toList.take (dc s)).length = dc s := by rw [List.length_take, size_list]; have := dc_le s; omega
    have hlt := dval_lt _ 0 hd
    rw [hl] at hlt
    have hp : 10 ^ dc s ≤ 10 ^ 15 := Nat.pow_le_pow_right (by decide) (by omega)
    have hr := bt_range s (dc s : Int)
    refine ⟨⟨?_, ?_⟩, ⟨hr.1, ?_⟩, ?_⟩
    · show (0 : Int) ≤ ((dval 0 (s.data.toList.take (dc s)) : Nat) : Int)
      omega
    · show ((dval 0 (s.data.toList.take (dc s)) : Nat) : Int) < _
      omega
    · show bt s (dc s : Int) < 256
      omega
    · show (s.extract (dc s + 1) s.size).size ≤ s.size
      rw [ByteArray.size_extract]; omega
end Go.Proofs.YtflnkchpfbcgiaaGreatDoor.Q
