/- Plain laws, part B: span.Parse, cycle.Parse and a node's time come to values. By an AI agent of this work. -/
import Derived.Test.YtflnkchpfbcgiaaGreatDoorPA
import Derived.Test.YtflnkchpfbcgiaaGreatDoorHSpan
import Derived.Test.YtflnkchpfbcgiaaGreatDoorQx5
import Derived.Test.YtflnkchpfbcgiaaGreatDoorQx4
import Derived.Test.YtflnkchpfbcgiaaGreatDoorQx3
namespace Go.Proofs.YtflnkchpfbcgiaaGreatDoor.Q
open Go.RowKit Go.Proofs.YtflnkchpfbcgiaaGreatDoorW.PrintWords Go.Proofs.YtflnkchpfbcgiaaGreatDoorW.PrintLast Go.Proofs.YtflnkchpfbcgiaaGreatDoorW.PrintMore
set_option linter.unusedVariables false
set_option linter.unusedSimpArgs false

/-! ### Prefixes -/
def hpV (s p : ByteArray) : Bool := decide (p.size ≤ s.size) && ((s.extract 0 p.size).toList == p.toList)
def cutV (s p : ByteArray) : ByteArray × Bool := if hpV s p = true then (s.extract p.size s.size, true) else (s, false)
theorem hp_f (s p : ByteArray) : stringslite_HasPrefix.f s p = some (hpV s p) := by
  unfold stringslite_HasPrefix.f hpV
  by_cases h : p.size ≤ s.size
  · rw [if_pos (by omega), if_pos (by omega), if_pos (by omega)]
    simp only [h, Int.toNat_natCast, decide_true, Bool.true_and]
  · rw [if_neg (by omega)]
    simp only [h, decide_false, Bool.false_and]
theorem hasPrefix_f (s p : ByteArray) : strings_HasPrefix.f s p = some (hpV s p) := by
  unfold strings_HasPrefix.f
  rw [hp_f]; rfl
theorem hpV_size {s p : ByteArray} (h : hpV s p = true) : p.size ≤ s.size := by
  unfold hpV at h
  rw [Bool.and_eq_true, decide_eq_true_iff] at h
  exact h.1
theorem cutPrefix_f (s p : ByteArray) : strings_CutPrefix.f s p = some (cutV s p) := by
  have h2 : stringslite_CutPrefix.f s p = some (cutV s p) := by
    unfold stringslite_CutPrefix.f cutV
    rw [hp_f]
    show (if hpV s p = true then _ else _) = _
    split
    · rename_i h
      have := hpV_size h
      rw [if_pos (by omega), if_pos (by omega)]
      simp only [Int.toNat_natCast]
    · rfl
  unfold strings_CutPrefix.f
  rw [h2]; rfl
theorem cutV_size (s p : ByteArray) : (cutV s p).1.size ≤ s.size := by
  unfold cutV
  split
  · show (s.extract p.size s.size).size ≤ s.size
    rw [ByteArray.size_extract]; omega
  · exact Nat.le_refl _

/-! ### Sums -/
theorem held_f (a b : Int) (h0 : 0 ≤ a) (h1 : a < 18446744073709551616) (h2 : 0 ≤ b) (h3 : b < 18446744073709551616) : tick_Held.f a b = some (if a + b < 18446744073709551616 then a + b else 18446744073709551615) := by
  unfold tick_Held.f tick_Sum.f
  rw [if_pos ⟨h0, h1, h2, h3⟩]
  split
  · rfl
  · rfl
def timesV (n u : Int) : Int := if n * u < 18446744073709551616 then n * u else 1125899906842625
def moreV (t n u : Int) : Int := if t + timesV n u < 18446744073709551616 then t + timesV n u else 18446744073709551615
theorem timesV_range {n u : Int} (h0 : 0 ≤ n) (h2 : 0 ≤ u) : 0 ≤ timesV n u ∧ timesV n u < 18446744073709551616 := by
  unfold timesV
  have := Int.mul_nonneg h0 h2
  split <;> omega
theorem moreV_range {t n u : Int} (ht : 0 ≤ t) (h0 : 0 ≤ n) (h2 : 0 ≤ u) : 0 ≤ moreV t n u ∧ moreV t n u < 18446744073709551616 := by
  have := timesV_range h0 h2
  unfold moreV
  split <;> omega
theorem times_f (a b : Int) (h0 : 0 ≤ a) (h1 : a < 18446744073709551616) (h2 : 0 ≤ b) (h3 : b < 18446744073709551616) : tick_Times.f a b = some (if a * b < 18446744073709551616 then (a * b, true) else (0, false)) := by
  unfold tick_Times.f bits_Mul64.f
  rw [if_pos ⟨h0, h1, h2, h3⟩]
  have hm := Int.mul_nonneg h0 h2
  show (if a * b / 18446744073709551616 = 0 then _ else _) = _
  by_cases h : a * b < 18446744073709551616
  · rw [if_pos (Int.ediv_eq_zero_of_lt hm h), if_pos h, Int.emod_eq_of_lt hm h]
  · rw [if_neg (by intro e; have := Int.lt_mul_of_ediv_lt (a := a * b) (b := 1) (c := 18446744073709551616) (by omega) (by omega); omega), if_neg h]
theorem more_f (t n u : Int) (ht : 0 ≤ t) (ht1 : t < 18446744073709551616) (h0 : 0 ≤ n) (h1 : n < 18446744073709551616) (h2 : 0 ≤ u) (h3 : u < 18446744073709551616) : span_more.f t n u = some (moreV t n u) := by
  unfold span_more.f
  rw [times_f n u h0 h1 h2 h3]
  have hm := Int.mul_nonneg h0 h2
  by_cases h : n * u < 18446744073709551616
  · rw [if_pos h]
    simp only [Option.bind_some, if_true, held_f t (n * u) ht ht1 hm h]
    unfold moreV timesV
    rw [if_pos h]
  · rw [if_neg h]
    have e1 : tick_Held.f 1125899906842624 1 = some 1125899906842625 := by rw [held_f _ _ (by decide) (by decide) (by decide) (by decide), if_pos (by decide)]; rfl
    have e2 := held_f t 1125899906842625 ht ht1 (by decide) (by decide)
    simp only [Option.bind_some, Bool.false_eq_true, if_false, e1, e2]
    unfold moreV timesV
    rw [if_neg h]

/-! ### span.Parse -/
def placeV (b : Int) : Int := Lib.indexByte [72, 77, 83] b.toNat.toUInt8
theorem place_f (b : Int) : strings_IndexByte.f (⟨#[72, 77, 83]⟩ : ByteArray) b = some (placeV b) := rfl
theorem placeV_range (b : Int) : -1 ≤ placeV b ∧ placeV b < 3 := by
  unfold placeV
  simp only [Lib.indexByte]
  repeat' split
  all_goals first | decide | omega | (simp_all; done)
def partV : Nat → ByteArray → Int → Int → Int × Int
  | 0, _, _, _ => (0, 2)
  | m + 1, rest, total, last =>
    if placeV (nextV rest).2.1 ≤ last then (0, 2)
    else if (nextV rest).2.2.toList = [] then span_Parse.fin (moreV total (nextV rest).1 (span_Parse.unit (placeV (nextV rest).2.1))) (nextV rest).2.2
    else partV m (nextV rest).2.2 (moreV total (nextV rest).1 (span_Parse.unit (placeV (nextV rest).2.1))) (placeV (nextV rest).2.1)
theorem unit_range (p : Int) : 0 ≤ span_Parse.unit p ∧ span_Parse.unit p < 18446744073709551616 := by
  unfold span_Parse.unit
  repeat' split
  all_goals decide
theorem part_ev : ∀ (m : Nat) (rest : ByteArray) (total last : Int), rest.size < 1000000 → 0 ≤ total → total < 18446744073709551616 → -1 ≤ last → 2 - last < m → Ev (fun k => span_Parse.part k rest total last) (partV m rest total last)
  | 0, rest, total, last, _, _, _, h1, h2 => by
    have hr := placeV_range (nextV rest).2.1
    refine Ev.step (fun k => span_Parse.part.eq_2 _ _ _ _) (Ev.bind (Ev.up (next_ev rest (by assumption))) (Ev.bind' (place_f _) ?_))
    unfold partV
    exact Ev.pos (by omega) (Ev.const rfl)
  | m + 1, rest, total, last, hs, h0, h1, h2, h3 => by
    have hr := placeV_range (nextV rest).2.1
    obtain ⟨⟨n0, n1⟩, _, hsz⟩ := nextV_range rest
    have hu := unit_range (placeV (nextV rest).2.1)
    have hmr := moreV_range h0 n0 hu.1
    refine Ev.step (fun k => span_Parse.part.eq_2 _ _ _ _) (Ev.bind (Ev.up (next_ev rest (by assumption))) (Ev.bind' (place_f _) ?_))
    unfold partV
    refine Ev.ite (fun h => ?_) (fun h => ?_)
    · rw [if_pos h]; exact Ev.const rfl
    · rw [if_neg h]
      refine Ev.pos (by omega) (Ev.pos (by omega) (Ev.bind' (more_f _ _ _ h0 h1 n0 (by omega) hu.1 hu.2) (Ev.ite (fun h4 => ?_) (fun h4 => ?_))))
      · rw [if_pos h4]; exact Ev.const rfl
      · rw [if_neg h4]
        exact part_ev m _ _ _ (by omega) hmr.1 hmr.2 (by omega) (by omega)
def timeV (rest : ByteArray) (total : Int) : Int × Int := if (cutV rest (⟨#[84]⟩ : ByteArray)).2 = true then partV 4 (cutV rest (⟨#[84]⟩ : ByteArray)).1 total (-1) else (0, 2)
theorem time_ev (rest : ByteArray) (total : Int) (hs : rest.size < 1000000) (h0 : 0 ≤ total) (h1 : total < 18446744073709551616) : Ev (fun k => span_Parse.time k rest total) (timeV rest total) := by
  refine Ev.congr (fun k => by unfold span_Parse.time; rfl) (Ev.bind' (cutPrefix_f _ _) ?_)
  unfold timeV
  have := cutV_size rest (⟨#[84]⟩ : ByteArray)
  refine Ev.ite (fun h => ?_) (fun h => ?_)
  · rw [if_pos h]; exact part_ev 4 _ _ _ (by omega) h0 h1 (by omega) (by omega)
  · rw [if_neg h]; exact Ev.const rfl
def spanV (s : ByteArray) : Int × Int :=
  if (cutV s (⟨#[80]⟩ : ByteArray)).2 = true then
    (if hpV (cutV s (⟨#[80]⟩ : ByteArray)).1 (⟨#[84]⟩ : ByteArray) = true then timeV (cutV s (⟨#[80]⟩ : ByteArray)).1 0
     else if (nextV (cutV s (⟨#[80]⟩ : ByteArray)).1).2.1 = 89 ∨ (nextV (cutV s (⟨#[80]⟩ : ByteArray)).1).2.1 = 77 then (0, 4)
     else if (nextV (cutV s (⟨#[80]⟩ : ByteArray)).1).2.1 = 87 then span_Parse.fin (moreV 0 (nextV (cutV s (⟨#[80]⟩ : ByteArray)).1).1 604800) (nextV (cutV s (⟨#[80]⟩ : ByteArray)).1).2.2
     else if (nextV (cutV s (⟨#[80]⟩ : ByteArray)).1).2.1 = 68 then
       (if (nextV (cutV s (⟨#[80]⟩ : ByteArray)).1).2.2.toList = [] then span_Parse.fin (moreV 0 (nextV (cutV s (⟨#[80]⟩ : ByteArray)).1).1 86400) (nextV (cutV s (⟨#[80]⟩ : ByteArray)).1).2.2
        else timeV (nextV (cutV s (⟨#[80]⟩ : ByteArray)).1).2.2 (moreV 0 (nextV (cutV s (⟨#[80]⟩ : ByteArray)).1).1 86400))
     else (0, 2))
  else (0, 2)
theorem span_ev (s : ByteArray) (hs : s.size < 1000000) : Ev (fun k => span_Parse.f k s) (spanV s) := by
  refine Ev.congr (fun k => by unfold span_Parse.f; rfl) (Ev.bind' (cutPrefix_f _ _) ?_)
  unfold spanV
  have hc := cutV_size s (⟨#[80]⟩ : ByteArray)
  obtain ⟨⟨n0, n1⟩, _, hsz⟩ := nextV_range (cutV s (⟨#[80]⟩ : ByteArray)).1
  refine Ev.ite (fun h => ?_) (fun h => ?_)
  · rw [if_pos h]
    refine Ev.bind' (hasPrefix_f _ _) (Ev.ite (fun h2 => ?_) (fun h2 => ?_))
    · rw [if_pos h2]; exact time_ev _ _ (by omega) (by decide) (by decide)
    · rw [if_neg h2]
      refine Ev.bind (next_ev _ (by omega)) (Ev.ite (fun h3 => ?_) (fun h3 => ?_))
      · rw [if_pos h3]; exact Ev.const rfl
      rw [if_neg h3]
      refine Ev.ite (fun h4 => ?_) (fun h4 => ?_)
      · rw [if_pos h4]; exact Ev.bind' (more_f _ _ _ (by decide) (by decide) n0 (by omega) (by decide) (by decide)) (Ev.const rfl)
      rw [if_neg h4]
      refine Ev.ite (fun h5 => ?_) (fun h5 => ?_)
      · rw [if_pos h5]
        have hmr := moreV_range (t := 0) (u := 86400) (by decide) n0 (by decide)
        refine Ev.bind' (more_f _ _ _ (by decide) (by decide) n0 (by omega) (by decide) (by decide)) (Ev.ite (fun h6 => ?_) (fun h6 => ?_))
        · rw [if_pos h6]; exact Ev.const rfl
        · rw [if_neg h6]; exact time_ev _ _ (by omega) hmr.1 hmr.2
      · rw [if_neg h5]; exact Ev.const rfl
  · rw [if_neg h]; exact Ev.const rfl

/-! ### cycle.Parse -/
theorem indexByte_range : ∀ (l : List UInt8) (c : UInt8), -1 ≤ Lib.indexByte l c ∧ Lib.indexByte l c < l.length
  | [], c => by simp [Lib.indexByte]
  | b :: r, c => by
    have ih := indexByte_range r c
    unfold Lib.indexByte
    simp only [List.length_cons]
    split
    · omega
    · split <;> omega
def ixV (s : ByteArray) (c : UInt8) : Int := Lib.indexByte s.data.toList c
def splitV (s : ByteArray) (c : UInt8) : ByteArray × ByteArray × Bool :=
  if 0 ≤ ixV s c then (s.extract 0 (ixV s c).toNat, s.extract ((ixV s c).toNat + 1) s.size, true) else (s, nothing, false)
theorem split_f (s : ByteArray) (c : UInt8) (hs : s.size < 1000000) : strings_Cut.f s (⟨#[c]⟩ : ByteArray) = some (splitV s c) := by
  have hr := indexByte_range s.data.toList c
  rw [size_list] at hr
  have h2 : stringslite_Cut.f s (⟨#[c]⟩ : ByteArray) = some (splitV s c) := by
    unfold stringslite_Cut.f splitV
    have e : stringslite_Index.f s (⟨#[c]⟩ : ByteArray) = some (ixV s c) := rfl
    have e1 : ((⟨#[c]⟩ : ByteArray).size : Int) = 1 := rfl
    have hi : ixV s c = Lib.indexByte s.data.toList c := rfl
    have hw : wrap64 (ixV s c + 1) = ixV s c + 1 := wrap_in (by omega) (by omega)
    rw [e]
    simp only [Option.bind_some, e1, hw]
    by_cases h : 0 ≤ ixV s c
    · have ht : (ixV s c + 1).toNat = (ixV s c).toNat + 1 := by omega
      rw [if_pos h, if_pos h, if_pos (by omega), if_pos (by omega), if_pos (by omega), if_pos h, ht]
    · rw [if_neg h, if_neg h]
  unfold strings_Cut.f
  rw [h2]; rfl
theorem splitV_size (s : ByteArray) (c : UInt8) : (splitV s c).1.size ≤ s.size ∧ (splitV s c).2.1.size ≤ s.size := by
  unfold splitV
  split
  · constructor
    · show (s.extract 0 _).size ≤ _
      rw [ByteArray.size_extract]; omega
    · show (s.extract _ _).size ≤ _
      rw [ByteArray.size_extract]; omega
  · exact ⟨Nat.le_refl _, Nat.zero_le _⟩
def allDg (s : ByteArray) : Prop := dc s = s.size
instance (s : ByteArray) : Decidable (allDg s) := inferInstanceAs (Decidable (_ = _))
/-- Behind the digits. -/
def roundsV (rest number : ByteArray) : Int × Int × Int :=
  if 1000000 < dval 0 number.data.toList then (0, 0, 3)
  else if (spanV rest).2 = 0 then (if (spanV rest).1 = 0 then (0, 0, 6) else ((dval 0 number.data.toList : Nat), (spanV rest).1, 0)) else (0, 0, (spanV rest).2)
def digitsV (rest number : ByteArray) (slash : Bool) : Int × Int × Int :=
  if allDg number then (if slash = true ∧ number.size ≤ 7 ∧ bt number 0 ≠ 48 then roundsV rest number else (0, 0, 2)) else (0, 0, 2)
theorem dval_any : ∀ (l : List UInt8) (acc : Nat), (∀ b ∈ l, isDg b) → dval acc l < (acc + 1) * 10 ^ l.length := dval_lt
theorem cyc_j2t (rest number : ByteArray) (b : Bool) (hb : b = true) : Ev (fun k => cycle_Parse.j2 k rest number b) (0, 0, 2) :=
  Ev.step (fun k => cycle_Parse.j2.eq_2 _ _ _ _) (Ev.pos hb (Ev.const rfl))
theorem all_dig {s : ByteArray} (h : allDg s) : ∀ b ∈ s.data.toList, isDg b := by
  have := @dig_take s
  rw [show dc s = s.data.toList.length by rw [size_list]; exact h, List.take_length] at this
  exact this
theorem cyc_j2f (rest number : ByteArray) (b : Bool) (hb : b = false) (hr : rest.size < 1000000) (hd : allDg number) (h0 : 0 < number.size) (h7 : number.size ≤ 7) : Ev (fun k => cycle_Parse.j2 k rest number b) (roundsV rest number) := by
  have hat : strconv_Atoi.f number = some (((dval 0 number.data.toList : Nat) : Int), none) := by
    have hda := all_dig hd
    unfold strconv_Atoi.f
    rw [if_pos (by omega)]
    have : Lib.atoi number.data.toList = some ((dval 0 number.data.toList : Nat) : Int) := by
      have hdf := decFrom_dval number.data.toList 0 hda
      cases hl : number.data.toList with
      | nil =>
        have := size_list number
        rw [hl] at this
        simp at this; omega
      | cons c r =>
        rw [hl] at hda hdf
        have hc := hda c List.mem_cons_self
        unfold isDg at hc
        have n1 : (c == 45) = false := by rw [beq_eq_false_iff_ne]; intro e; subst e; simp at hc
        have n2 : (c == 43) = false := by rw [beq_eq_false_iff_ne]; intro e; subst e; simp at hc
        unfold Lib.atoi Lib.decNat
        simp only [n1, n2, hdf]
        rfl
    rw [this]
  refine Ev.step (fun k => cycle_Parse.j2.eq_2 _ _ _ _) (Ev.neg (by rw [hb]; decide) (Ev.bind' hat ?_))
  unfold roundsV
  refine Ev.ite (fun h => ?_) (fun h => ?_)
  · rw [if_pos (by have : ((dval 0 number.data.toList : Nat) : Int) > 1000000 := h; omega)]; exact Ev.const rfl
  · rw [if_neg (by have : ¬ ((dval 0 number.data.toList : Nat) : Int) > 1000000 := h; omega)]
    refine Ev.bind (span_ev rest hr) (Ev.ite (fun h => ?_) (fun h => ?_))
    · rw [if_pos h]
      refine Ev.ite (fun h => ?_) (fun h => ?_)
      · rw [if_pos h]; exact Ev.const rfl
      · rw [if_neg h]; exact Ev.const rfl
    · rw [if_neg h]; exact Ev.const rfl
theorem cyc_l0 (rest number : ByteArray) (slash : Bool) (hr : rest.size < 1000000) (hn : number.size < 1000000) (hsl : slash = true → 0 < number.size) : ∀ n j : Nat, number.size - j = n → j ≤ dc number → Ev (fun k => cycle_Parse.l0 k rest number slash (number.size : Int) (j : Int)) (digitsV rest number slash) := by
  intro n
  induction n with
  | zero =>
    intro j h1 h2
    have hle := dc_le number
    have hd : allDg number := by unfold allDg; omega
    refine Ev.step (fun k => cycle_Parse.l0.eq_2 _ _ _ _ _ _) (Ev.neg (by omega) ?_)
    unfold digitsV
    rw [if_pos hd]
    refine Ev.ite (fun h => ?_) (fun h => ?_)
    · have h0 := hsl h
      refine Ev.ite (fun h7 => ?_) (fun h7 => ?_)
      · rw [if_neg (by omega)]; exact cyc_j2t _ _ _ rfl
      · refine Ev.pos (by omega) ?_
        by_cases h8 : bt number 0 = 48
        · rw [if_neg (by omega)]; exact cyc_j2t _ _ _ (by rw [beq_iff_eq]; exact h8)
        · rw [if_pos ⟨h, by omega, h8⟩]; exact cyc_j2f _ _ _ (by rw [beq_eq_false_iff_ne]; exact h8) hr hd h0 (by omega)
    · rw [if_neg (by intro e; exact h e.1)]; exact cyc_j2t _ _ _ rfl
  | succ n ih =>
    intro j h1 h2
    refine Ev.step (fun k => cycle_Parse.l0.eq_2 _ _ _ _ _ _) (Ev.pos (by omega) (Ev.pos (by omega) (Ev.pos (by omega) ?_)))
    obtain ⟨b, hb, hbt⟩ := bt_at_some (s := number) (j := j) (by omega)
    by_cases hj : j < dc number
    · obtain ⟨c, hc, hd⟩ := dcl_dig number.data.toList j hj
      rw [hb] at hc
      cases hc
      unfold isDg at hd
      have hw : wrap64 ((j : Int) + 1) = ((j + 1 : Nat) : Int) := by rw [wrap_in (by omega) (by omega)]; omega
      refine Ev.neg (by omega) (Ev.neg (by omega) ?_)
      rw [hw]
      exact ih (j + 1) (by omega) (by omega)
    · have hje : j = dc number := by omega
      have hnd := dcl_end number.data.toList b (by have : dcl number.data.toList = j := hje.symm; rw [this]; exact hb)
      unfold isDg at hnd
      have hna : ¬ allDg number := by unfold allDg; omega
      unfold digitsV
      rw [if_neg hna]
      refine Ev.ite (fun _ => Ev.const rfl) (fun h => Ev.pos (by omega) (Ev.const rfl))
def cycV (s : ByteArray) : Int × Int × Int :=
  if (cutV s (⟨#[82]⟩ : ByteArray)).2 = true then
    (if (splitV (cutV s (⟨#[82]⟩ : ByteArray)).1 47).2.2 = true ∧ (splitV (cutV s (⟨#[82]⟩ : ByteArray)).1 47).1.size = 0 then (0, 0, 5)
     else digitsV (splitV (cutV s (⟨#[82]⟩ : ByteArray)).1 47).2.1 (splitV (cutV s (⟨#[82]⟩ : ByteArray)).1 47).1 (splitV (cutV s (⟨#[82]⟩ : ByteArray)).1 47).2.2)
  else (0, 0, 2)
theorem toList_len (s : ByteArray) : s.toList.length = s.size := by
  rw [ByteArray.toList_eq]; simp
theorem toList_nil (s : ByteArray) : (s.toList == ([] : List UInt8)) = decide (s.size = 0) := by
  have h : s.toList.length = s.size := toList_len s
  cases hl : s.toList with
  | nil => rw [hl] at h; have : s.size = 0 := by simpa using h.symm
           simp [this]
  | cons a r => rw [hl] at h; have : s.size ≠ 0 := by simp at h; omega
                simp [this]
theorem cyc_ev (s : ByteArray) (hs : s.size < 1000000) : Ev (fun k => cycle_Parse.f k s) (cycV s) := by
  refine Ev.congr (fun k => by unfold cycle_Parse.f; rfl) (Ev.bind' (cutPrefix_f _ _) ?_)
  have hc := cutV_size s (⟨#[82]⟩ : ByteArray)
  unfold cycV
  refine Ev.ite (fun h => ?_) (fun h => ?_)
  · rw [if_pos h]
    obtain ⟨z1, z2⟩ := splitV_size (cutV s (⟨#[82]⟩ : ByteArray)).1 47
    refine Ev.bind' (split_f _ _ (by omega)) (Ev.ite (fun h2 => ?_) (fun h2 => ?_))
    · refine Ev.step (fun k => cycle_Parse.j0.eq_2 _ _ _ _ _) (Ev.ite (fun h3 => ?_) (fun h3 => ?_))
      · rw [toList_nil, decide_eq_true_iff] at h3
        rw [if_pos ⟨h2, h3⟩]; exact Ev.const rfl
      · rw [toList_nil, decide_eq_true_iff] at h3
        rw [if_neg (by intro e; exact h3 e.2)]
        exact cyc_l0 _ _ _ (by omega) (by omega) (fun _ => by omega) _ 0 rfl (Nat.zero_le _)
    · refine Ev.step (fun k => cycle_Parse.j0.eq_2 _ _ _ _ _) (Ev.neg (by decide) ?_)
      rw [if_neg (by intro e; exact h2 e.1)]
      exact cyc_l0 _ _ _ (by omega) (by omega) (fun e => absurd e h2) _ 0 rfl (Nat.zero_le _)
  · rw [if_neg h]; exact Ev.const rfl

/-! ### A node's time -/
def waitsV (kind : Int) (s : ByteArray) : Int × Int × Bool :=
  if kind = 4 ∨ kind = 8 ∨ kind = 9 then
    (if (spanV s).2 = 0 then (1, (spanV s).1, decide ((spanV s).1 > 0))
     else if kind = 9 ∧ (cycV s).2.2 = 0 ∧ ¬ (cycV s).1 > 9 then ((cycV s).1, (cycV s).2.1, true) else (0, 0, false))
  else (0, 0, false)
theorem waits_j1 (b : Bool) (x y : Int) : Ev (fun k => graph_waits.j1 k b x y) (if b = true then (0, 0, false) else (x, y, true)) := by
  refine Ev.step (fun k => graph_waits.j1.eq_2 _ _ _ _) (Ev.ite (fun h => ?_) (fun h => ?_))
  · rw [if_pos h]; exact Ev.const rfl
  · rw [if_neg h]; exact Ev.const rfl
theorem waits_j0 (b : Bool) (kind x1 x2 x3 : Int) (s : ByteArray) (hs : s.size < 1000000) (hb : b = decide (kind = 4 ∨ kind = 8 ∨ kind = 9)) : Ev (fun k => graph_waits.j0 k b kind x1 x2 x3 s) (waitsV kind s) := by
  refine Ev.step (fun k => graph_waits.j0.eq_2 _ _ _ _ _ _ _) (Ev.ite (fun h => ?_) (fun h => ?_))
  · rw [hb, decide_eq_true_iff] at h
    unfold waitsV
    rw [if_pos h]
    refine Ev.bind (span_ev s hs) (Ev.ite (fun h2 => ?_) (fun h2 => ?_))
    · rw [if_pos h2]; exact Ev.const rfl
    · rw [if_neg h2]
      refine Ev.bind (cyc_ev s hs) (Ev.ite (fun h3 => Ev.ite (fun h4 => ?_) (fun h4 => ?_)) (fun h3 => ?_))
      · have := waits_j1 (decide ((cycV s).1 > 9)) (cycV s).1 (cycV s).2.1
        by_cases h5 : (cycV s).1 > 9
        · rw [if_neg (by intro e; exact e.2.2 h5)]; rw [if_pos (by rw [decide_eq_true_iff]; exact h5)] at this; exact this
        · rw [if_pos ⟨h3, h4, h5⟩]; rw [if_neg (by rw [decide_eq_true_iff]; exact h5)] at this; exact this
      · rw [if_neg (by intro e; exact h4 e.2.1)]; exact waits_j1 true _ _
      · rw [if_neg (by intro e; exact h3 e.1)]; exact waits_j1 true _ _
  · rw [hb, decide_eq_true_iff] at h
    unfold waitsV
    rw [if_neg h]; exact Ev.const rfl
theorem waits_ev (kind x1 x2 x3 : Int) (s : ByteArray) (hs : s.size < 1000000) : Ev (fun k => graph_waits.f k kind x1 x2 x3 s) (waitsV kind s) := by
  refine Ev.congr (fun k => by unfold graph_waits.f; rfl) (Ev.ite (fun h => ?_) (fun h => Ev.ite (fun h2 => ?_) (fun h2 => ?_)))
  · exact waits_j0 _ _ _ _ _ _ hs (by subst h; decide)
  · exact waits_j0 _ _ _ _ _ _ hs (by subst h2; decide)
  · exact waits_j0 _ _ _ _ _ _ hs (by by_cases h3 : kind = 9 <;> simp [h, h2, h3])
def isV (ns : List S41) (n : Int) : Prop := 1 ≤ n ∧ n ≤ (ns.length : Int)
instance (ns : List S41) (n : Int) : Decidable (isV ns n) := inferInstanceAs (Decidable (_ ∧ _))
def nodeV (ns : List S41) (n : Int) : S41 := ns.getD (n - 1).toNat z41
def ticksV (ns : List S41) (n : Int) : Int × Int × Bool :=
  if isV ns n ∧ (waitsV (nodeV ns n).f0 (nodeV ns n).f4).2.2 = true then ((waitsV (nodeV ns n).f0 (nodeV ns n).f4).1, (waitsV (nodeV ns n).f0 (nodeV ns n).f4).2.1, true) else (0, 0, false)
theorem in_f (a b c : Int) : graph_in.f a b c = some (decide (b ≤ a ∧ a ≤ c)) := by
  unfold graph_in.f
  by_cases h : a ≥ b
  · rw [if_pos h]
    congr 1
    rw [decide_eq_decide]
    exact ⟨fun h2 => ⟨h, h2⟩, fun h2 => h2.2⟩
  · rw [if_neg h]
    congr 1
    rw [eq_comm, decide_eq_false_iff_not]
    exact fun e => h e.1
theorem time_of_ev (s0 : ByteArray) (ns : List S41) (es : List S43) (n : Int) (hl : ns.length < 1000000) (hs : ∀ x ∈ ns, x.f4.size < 1000000) : Ev (fun k => graph_Time.f k s0 ns es n) (ticksV ns n) := by
  unfold ticksV
  by_cases hi : isV ns n
  · have hw : wrap64 (n - 1) = n - 1 := wrap_in (by have := hi.1; omega) (by have := hi.2; omega)
    have hat : graph_at.f s0 ns es n = some ((nodeV ns n).f0, (nodeV ns n).f1, (nodeV ns n).f2, (nodeV ns n).f3, (nodeV ns n).f4, true) := by
      unfold graph_at.f
      rw [in_f]
      show (if decide (1 ≤ n ∧ n ≤ (ns.length : Int)) = true then _ else _) = _
      rw [if_pos (by rw [decide_eq_true_iff]; exact hi), hw, if_pos (by have := hi.1; omega), if_pos (by have := hi.2; omega)]
      rfl
    have hz : (nodeV ns n).f4.size < 1000000 := by
      unfold nodeV
      have hlt : (n - 1).toNat < ns.length := by have := hi.2; have := hi.1; omega
      rw [List.getD_eq_getElem?_getD, List.getElem?_eq_getElem hlt]
      exact hs _ (List.getElem_mem hlt)
    refine Ev.congr (fun k => by unfold graph_Time.f; rfl) (Ev.bind' hat (Ev.bind (waits_ev _ _ _ _ _ hz) (Ev.ite (fun h => ?_) (fun h => ?_))))
    · rw [if_pos ⟨hi, h⟩]; exact Ev.const rfl
    · rw [if_neg (by intro e; exact h e.2)]; exact Ev.const rfl
  · have hat : graph_at.f s0 ns es n = some (0, 0, 0, 0, (⟨#[]⟩ : ByteArray), false) := by
      unfold graph_at.f
      rw [in_f]
      show (if decide (1 ≤ n ∧ n ≤ (ns.length : Int)) = true then _ else _) = _
      rw [if_neg (by rw [decide_eq_true_iff]; exact hi)]
    rw [if_neg (by intro e; exact hi e.1)]
    refine Ev.congr (fun k => by unfold graph_Time.f; rfl) (Ev.bind' hat (Ev.bind (waits_ev _ _ _ _ (⟨#[]⟩ : ByteArray) (by decide)) (Ev.neg ?_ (Ev.const rfl))))
    decide
def classV (ns : List S41) (n : Int) : Int := if isV ns n then (nodeV ns n).f2 else 0
theorem class_f (s0 : ByteArray) (ns : List S41) (es : List S43) (n : Int) (hl : ns.length < 1000000) : orders_class.f s0 ns es n = some (classV ns n) := by
  unfold orders_class.f classV
  by_cases h1 : n < 1
  · rw [if_pos h1, if_neg (by intro e; have := e.1; omega)]
  · rw [if_neg h1]
    by_cases h2 : n > (ns.length : Int)
    · rw [if_pos h2, if_neg (by intro e; have := e.2; omega)]
    · have hw : wrap64 (n - 1) = n - 1 := wrap_in (by omega) (by omega)
      rw [if_neg h2, hw, if_pos (by omega), if_pos (by omega), if_pos ⟨by omega, by omega⟩]
      rfl
end Go.Proofs.YtflnkchpfbcgiaaGreatDoor.Q
