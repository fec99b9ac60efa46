/- Plain laws, part G: the document's reading of a duration and of a cycle come to values, and say the same as the program's wherever either is accepted. By an AI agent of this work. -/
import Derived.Test.YtflnkchpfbcgiaaGreatDoorPB
import Derived.Test.YtflnkchpfbcgiaaGreatDoorHAdd
import Derived.Test.YtflnkchpfbcgiaaGreatDoorQx10
import Derived.Test.YtflnkchpfbcgiaaGreatDoorQx8
import Derived.Test.YtflnkchpfbcgiaaGreatDoorQx7
namespace Go.Proofs.YtflnkchpfbcgiaaGreatDoor.Q
open Go.RowKit Go.Proofs.YtflnkchpfbcgiaaGreatDoorW.PrintWords Go.Proofs.YtflnkchpfbcgiaaGreatDoorW.PrintLast Go.Proofs.YtflnkchpfbcgiaaGreatDoorW.PrintMore
set_option linter.unusedVariables false
set_option linter.unusedSimpArgs false

/-! ### Texts as lists -/
abbrev ofL (l : List UInt8) : ByteArray := ⟨l.toArray⟩
theorem ofL_list (l : List UInt8) : (ofL l).data.toList = l := by simp [ofL]
theorem ofL_of (s : ByteArray) : ofL s.data.toList = s := by simp [ofL]
theorem bytes_eq {a b : ByteArray} (h : a.data.toList = b.data.toList) : a = b := by rw [← ofL_of a, ← ofL_of b, h]
theorem ofL_size (l : List UInt8) : (ofL l).size = l.length := by rw [← size_list, ofL_list]
theorem ext_ofL (l : List UInt8) (i j : Nat) : (ofL l).extract i j = ofL ((l.take j).drop i) := bytes_eq (by rw [ext_list, ofL_list, ofL_list])
theorem ext_drop (l : List UInt8) (i : Nat) : (ofL l).extract i (ofL l).size = ofL (l.drop i) := by rw [ext_ofL, ofL_size, List.take_length]
theorem bt_ofL (l : List UInt8) (j : Nat) (b : UInt8) (h : l[j]? = some b) : bt (ofL l) (j : Int) = (b.toNat : Int) := bt_some (by rw [ofL_list]; exact h)
theorem toList_ofL (l : List UInt8) : (ofL l).toList = l := by rw [ByteArray.toList_eq, ofL_list]
theorem dc_ofL (l : List UInt8) : dc (ofL l) = dcl l := by unfold dc; rw [ofL_list]

/-! ### A number at the head -/
/-- The number at the head, and what stands behind it. -/
def nx (l : List UInt8) : Option (Nat × List UInt8) :=
  if dcl l < 1 ∨ 15 < dcl l ∨ (l.head? = some 48 ∧ 1 < dcl l) then none else some (dval 0 (l.take (dcl l)), l.drop (dcl l))
def nextL (l : List UInt8) : Int × Int × List UInt8 :=
  match nx l with
  | some (n, c :: r) => ((n : Int), (c.toNat : Int), r)
  | _ => (0, 0, [])
theorem head_bt {l : List UInt8} (h : 0 < l.length) : bt (ofL l) 0 = 48 ↔ l.head? = some 48 := by
  cases l with
  | nil => simp at h
  | cons b r =>
    have := bt_ofL (b :: r) 0 b rfl
    rw [show ((0 : Nat) : Int) = 0 from rfl] at this
    rw [this]
    simp only [List.head?_cons, Option.some.injEq]
    constructor
    · intro h2
      have h3 : b.toNat = 48 := by omega
      exact UInt8.toNat_inj.1 h3
    · rintro rfl; rfl
theorem nextV_ofL (l : List UInt8) : nextV (ofL l) = ((nextL l).1, (nextL l).2.1, ofL (nextL l).2.2) := by
  have hle := dcl_le l
  unfold nextV nextL nx
  rw [dc_ofL, ofL_size, ofL_list]
  by_cases h1 : dcl l < 1
  · rw [if_pos (.inl h1), if_pos (.inl h1)]
  by_cases h2 : 15 < dcl l
  · rw [if_pos (.inr (.inl h2)), if_pos (.inr (.inl h2))]
  have hb := head_bt (l := l) (by omega)
  by_cases h4 : l.head? = some 48 ∧ 1 < dcl l
  · rw [if_pos (.inr (.inr (.inr ⟨hb.2 h4.1, h4.2⟩))), if_pos (.inr (.inr h4))]
  by_cases h3 : dcl l = l.length
  · rw [if_pos (.inr (.inr (.inl h3))), if_neg (by rintro (e | e | e); exact h1 e; exact h2 e; exact h4 e)]
    rw [show l.drop (dcl l) = [] from List.drop_of_length_le (by omega)]
  · rw [if_neg (by rintro (e | e | e | e); exact h1 e; exact h2 e; exact h3 e; exact h4 ⟨hb.1 e.1, e.2⟩), if_neg (by rintro (e | e | e); exact h1 e; exact h2 e; exact h4 e)]
    obtain ⟨c, r, hcr⟩ : ∃ c r, l.drop (dcl l) = c :: r := by
      cases hd : l.drop (dcl l) with
      | nil => have := List.drop_eq_nil_iff.1 hd; omega
      | cons c r => exact ⟨c, r, rfl⟩
    have hc : l[dcl l]? = some c := by
      have : (l.drop (dcl l))[0]? = some c := by rw [hcr]; rfl
      rw [List.getElem?_drop] at this
      exact this
    rw [hcr, bt_ofL l _ c hc, ext_ofL, List.take_length]
    show (_, _, ofL (l.drop (dcl l + 1))) = (_, _, ofL r)
    rw [← List.drop_drop, hcr]
    rfl
theorem cutV_ofL (l : List UInt8) (c : UInt8) : cutV (ofL l) (⟨#[c]⟩ : ByteArray) = if l.head? = some c then (ofL l.tail, true) else (ofL l, false) := by
  unfold cutV hpV
  have e1 : (⟨#[c]⟩ : ByteArray).size = 1 := rfl
  have e2 : (⟨#[c]⟩ : ByteArray).toList = [c] := by rw [ByteArray.toList_eq]
  rw [e1, e2, ofL_size, ext_ofL, toList_ofL]
  cases l with
  | nil => simp
  | cons b r =>
    by_cases hb : b = c
    · subst hb
      rw [if_pos (by simp), if_pos (by simp), ← ofL_size, ext_drop]
      rfl
    · rw [if_neg (by simp [hb]), if_neg (by simp [hb])]
theorem hpV_ofL (l : List UInt8) (c : UInt8) : hpV (ofL l) (⟨#[c]⟩ : ByteArray) = decide (l.head? = some c) := by
  unfold hpV
  have e1 : (⟨#[c]⟩ : ByteArray).size = 1 := rfl
  have e2 : (⟨#[c]⟩ : ByteArray).toList = [c] := by rw [ByteArray.toList_eq]
  rw [e1, e2, ofL_size, ext_ofL, toList_ofL]
  cases l with
  | nil => simp
  | cons b r => rw [Bool.eq_iff_iff]; simp

/-! ### The program's duration, over lists -/
def finL (total : Int) (rest : List UInt8) : Int × Int := if rest = [] then (if total > 1125899906842624 then (0, 3) else (total, 0)) else (0, 2)
def partL : Nat → List UInt8 → Int → Int → Int × Int
  | 0, _, _, _ => (0, 2)
  | m + 1, rest, total, last =>
    if placeV (nextL rest).2.1 ≤ last then (0, 2)
    else if (nextL rest).2.2 = [] then finL (moreV total (nextL rest).1 (span_Parse.unit (placeV (nextL rest).2.1))) (nextL rest).2.2
    else partL m (nextL rest).2.2 (moreV total (nextL rest).1 (span_Parse.unit (placeV (nextL rest).2.1))) (placeV (nextL rest).2.1)
def timeL (rest : List UInt8) (total : Int) : Int × Int := if rest.head? = some 84 then partL 4 rest.tail total (-1) else (0, 2)
def spanL (l : List UInt8) : Int × Int :=
  if l.head? = some 80 then
    (if l.tail.head? = some 84 then timeL l.tail 0
     else if (nextL l.tail).2.1 = 89 ∨ (nextL l.tail).2.1 = 77 then (0, 4)
     else if (nextL l.tail).2.1 = 87 then finL (moreV 0 (nextL l.tail).1 604800) (nextL l.tail).2.2
     else if (nextL l.tail).2.1 = 68 then (if (nextL l.tail).2.2 = [] then finL (moreV 0 (nextL l.tail).1 86400) (nextL l.tail).2.2 else timeL (nextL l.tail).2.2 (moreV 0 (nextL l.tail).1 86400))
     else (0, 2))
  else (0, 2)
theorem fin_ofL (t : Int) (l : List UInt8) : span_Parse.fin t (ofL l) = finL t l := by unfold span_Parse.fin finL; rw [toList_ofL]
theorem part_ofL : ∀ (m : Nat) (l : List UInt8) (t last : Int), partV m (ofL l) t last = partL m l t last
  | 0, _, _, _ => rfl
  | m + 1, l, t, last => by
    unfold partV partL
    rw [nextV_ofL]
    simp only [toList_ofL, fin_ofL, part_ofL m]
theorem time_ofL (l : List UInt8) (t : Int) : timeV (ofL l) t = timeL l t := by
  unfold timeV timeL
  rw [cutV_ofL]
  split
  · exact (if_pos rfl).trans (part_ofL _ _ _ _)
  · exact if_neg (by simp)
theorem span_ofL (l : List UInt8) : spanV (ofL l) = spanL l := by
  unfold spanV spanL
  rw [cutV_ofL]
  split
  · simp only [if_true, hpV_ofL, decide_eq_true_eq, time_ofL, nextV_ofL, fin_ofL, toList_ofL]
  · exact if_neg (by simp)

/-! ### The document's duration, over lists -/
def fin6 (s : Int) : Int × Int := if s > 1125899906842624 then (0, 3) else (s, 0)
/-- m of the three units are still to come. -/
def sgn (m : Nat) : UInt8 := if m = 2 then 72 else if m = 1 then 77 else 83
def unt (m : Nat) : Int := if m = 2 then 3600 else if m = 1 then 60 else 1
def loopM : Nat → List UInt8 → Int → Bool → Int × Int
  | 0, r, s, some_ => if some_ = true ∧ r = [] then fin6 s else (0, 2)
  | m + 1, r, s, some_ =>
    match nx r with
    | some (n, c :: r') => if c = sgn m then loopM m r' (addR s n (unt m)) true else loopM m r s some_
    | _ => loopM m r s some_
def tailR (r : List UInt8) (s : Int) : Int × Int :=
  if r = [] then fin6 s else if r.head? = some 84 then loopM 3 r.tail s false else (0, 2)
def spanR (l : List UInt8) : Int × Int :=
  if l.length < 2 ∨ l.head? ≠ some 80 then (0, 2) else
  match nx l.tail with
  | some (n, c :: r) => if c = 89 ∨ c = 77 then (0, 4) else if c = 87 then (if r = [] then tailR r (addR 0 n 604800) else (0, 2)) else if c = 68 then tailR r (addR 0 n 86400) else (0, 2)
  | _ => tailR l.tail 0
/-- Both sums are the same, or both are too great. -/
def Rel (t s : Int) : Prop := (t = s ∧ 0 ≤ s ∧ s ≤ 1125899906842624) ∨ (1125899906842624 < t ∧ t < 18446744073709551616 ∧ s = 1125899906842625)
theorem Rel.range {t s : Int} (h : Rel t s) : 0 ≤ t ∧ t < 18446744073709551616 := by unfold Rel at h; omega
theorem Rel.add {t s n u : Int} (h : Rel t s) (hn : 0 ≤ n) (hu : 0 < u) (hu2 : u ≤ 604800) : Rel (moreV t n u) (addR s n u) := by
  have hm : 0 ≤ n * u := Int.mul_nonneg hn (by omega)
  have hdiv : n > 1125899906842624 / u ↔ 1125899906842624 < n * u := by
    constructor
    · intro h1
      exact Int.lt_mul_of_ediv_lt hu h1
    · intro h1
      exact Int.ediv_lt_of_lt_mul hu h1
  unfold moreV timesV addR
  simp only [hdiv]
  unfold Rel at h ⊢
  generalize n * u = p at hm ⊢
  split <;> split <;> (try split) <;> omega
theorem fin_rel {t s : Int} (h : Rel t s) : finL t [] = fin6 s := by
  unfold finL fin6
  rw [if_pos rfl]
  unfold Rel at h
  rcases h with ⟨rfl, _, _⟩ | ⟨h1, _, h2⟩
  · rfl
  · rw [if_pos (by omega), if_pos (by omega)]
theorem loop_nil : ∀ (m : Nat) (s : Int), loopM m [] s true = fin6 s
  | 0, s => by unfold loopM; rw [if_pos ⟨rfl, rfl⟩]
  | m + 1, s => by
    unfold loopM
    rw [show nx [] = none from by decide]
    exact loop_nil m s
theorem loop_none : ∀ (m : Nat) (r : List UInt8) (s : Int) (b : Bool), (∀ n c r', nx r ≠ some (n, c :: r')) → (r ≠ [] ∨ b = false) → loopM m r s b = (0, 2)
  | 0, r, s, b, _, hb => by
    unfold loopM
    rw [if_neg]
    rintro ⟨h1, h2⟩
    rcases hb with h | h
    · exact h h2
    · rw [h] at h1; cases h1
  | m + 1, r, s, b, h, hb => by
    unfold loopM
    split
    · rename_i n c r' heq
      exact absurd heq (h n c r')
    · exact loop_none m r s b h hb
theorem nextL_some {r r' : List UInt8} {n : Nat} {c : UInt8} (h : nx r = some (n, c :: r')) : nextL r = ((n : Int), (c.toNat : Int), r') := by unfold nextL; rw [h]
theorem nextL_none {r : List UInt8} (h : ∀ n c r', nx r ≠ some (n, c :: r')) : nextL r = (0, 0, []) := by
  unfold nextL
  split
  · rename_i n c r' heq
    exact absurd heq (h n c r')
  · rfl
theorem place_byte (c : UInt8) : placeV (c.toNat : Int) = if c = 72 then 0 else if c = 77 then 1 else if c = 83 then 2 else -1 := by
  unfold placeV
  have e : (c.toNat : Int).toNat.toUInt8 = c := by rw [Int.toNat_natCast]; simp
  rw [e]
  simp only [Lib.indexByte]
  by_cases h1 : c = 72
  · subst h1; rfl
  · by_cases h2 : c = 77
    · subst h2; rfl
    · by_cases h3 : c = 83
      · subst h3; rfl
      · have k1 : ((72 : UInt8) == c) = false := by rw [beq_eq_false_iff_ne]; exact fun e => h1 e.symm
        have k2 : ((77 : UInt8) == c) = false := by rw [beq_eq_false_iff_ne]; exact fun e => h2 e.symm
        have k3 : ((83 : UInt8) == c) = false := by rw [beq_eq_false_iff_ne]; exact fun e => h3 e.symm
        simp [k1, k2, k3, h1, h2, h3]
theorem place_sgn (c : UInt8) (m : Nat) (hm : m < 3) : c = sgn m ↔ placeV (c.toNat : Int) = 2 - (m : Int) := by
  rw [place_byte]
  unfold sgn
  have hm' : m = 0 ∨ m = 1 ∨ m = 2 := by omega
  by_cases h1 : c = 72
  · subst h1
    rcases hm' with rfl | rfl | rfl <;> decide
  · by_cases h2 : c = 77
    · subst h2
      rcases hm' with rfl | rfl | rfl <;> decide
    · by_cases h3 : c = 83
      · subst h3
        rcases hm' with rfl | rfl | rfl <;> decide
      · simp only [h1, h2, h3, if_false]
        rcases hm' with rfl | rfl | rfl
        · simp [h3]
        · simp [h2]
        · simp [h1]
theorem unit_unt (m : Nat) (hm : m < 3) : span_Parse.unit (2 - (m : Int)) = unt m := by
  have hm' : m = 0 ∨ m = 1 ∨ m = 2 := by omega
  rcases hm' with rfl | rfl | rfl <;> rfl
theorem unt_range (m : Nat) : 0 < unt m ∧ unt m ≤ 604800 := by
  unfold unt
  repeat' split
  all_goals decide
theorem nx_ne {r r' : List UInt8} {n : Nat} {c : UInt8} (h : nx r = some (n, c :: r')) : r ≠ [] := by
  rintro rfl
  rw [show nx [] = none from by decide] at h
  cases h
theorem part_loop : ∀ (m f : Nat) (r : List UInt8) (t s : Int) (b : Bool), m ≤ 3 → m < f → Rel t s → (r ≠ [] ∨ b = false) → partL f r t (2 - (m : Int)) = loopM m r s b
  | 0, f, r, t, s, b, _, hf, hrel, hb => by
    obtain ⟨g, rfl⟩ : ∃ g, f = g + 1 := ⟨f - 1, by omega⟩
    have hp := placeV_range (nextL r).2.1
    unfold partL loopM
    rw [if_pos (by omega), if_neg]
    rintro ⟨h1, h2⟩
    rcases hb with h | h
    · exact h h2
    · rw [h] at h1; cases h1
  | m + 1, f, r, t, s, b, hm, hf, hrel, hb => by
    obtain ⟨g, rfl⟩ : ∃ g, f = g + 1 := ⟨f - 1, by omega⟩
    by_cases hx : ∃ n c r', nx r = some (n, c :: r')
    · obtain ⟨n, c, r', hx⟩ := hx
      have hn := nextL_some hx
      have hs := place_sgn c m (by omega)
      unfold loopM
      rw [hx]
      by_cases hc : c = sgn m
      · have hp := hs.1 hc
        have hu := unt_range m
        have hadd := hrel.add (n := (n : Int)) (u := unt m) (by omega) hu.1 hu.2
        simp only [if_pos hc]
        unfold partL
        rw [hn]
        simp only [hp, unit_unt m (by omega)]
        rw [if_neg (by omega)]
        by_cases hr : r' = []
        · subst hr
          rw [if_pos rfl, loop_nil]
          exact fin_rel hadd
        · rw [if_neg hr]
          exact part_loop m g r' _ _ true (by omega) (by omega) hadd (.inl hr)
      · simp only [if_neg hc]
        rw [← part_loop m (g + 1) r t s b (by omega) (by omega) hrel (.inl (nx_ne hx))]
        have hp : placeV (c.toNat : Int) ≠ 2 - (m : Int) := fun e => hc (hs.2 e)
        unfold partL
        rw [hn]
        simp only []
        by_cases h1 : placeV (c.toNat : Int) ≤ 2 - ((m + 1 : Nat) : Int)
        · rw [if_pos h1, if_pos (show placeV (c.toNat : Int) ≤ 2 - (m : Int) by omega)]
        · rw [if_neg h1, if_neg (show ¬ placeV (c.toNat : Int) ≤ 2 - (m : Int) by omega)]
    · have hx' : ∀ n c r', nx r ≠ some (n, c :: r') := fun n c r' e => hx ⟨n, c, r', e⟩
      rw [loop_none (m + 1) r s b hx' hb]
      unfold partL
      rw [nextL_none hx']
      rw [if_pos]
      show placeV 0 ≤ _
      rw [show placeV 0 = -1 from by decide]
      omega
theorem time_tail {r : List UInt8} {t s : Int} (hr : r ≠ []) (h : Rel t s) : timeL r t = tailR r s := by
  unfold timeL tailR
  rw [if_neg hr]
  split
  · have := part_loop 3 4 r.tail t s false (by omega) (by omega) h (.inr rfl)
    rw [← this]
    rfl
  · rfl
theorem Rel.zero : Rel 0 0 := .inl ⟨rfl, by decide, by decide⟩
theorem head_dig {r : List UInt8} (h : 1 ≤ dcl r) : r.head? ≠ some 84 := by
  obtain ⟨b, hb, hd⟩ := dcl_dig r 0 (by omega)
  intro e
  have : r.head? = some b := by rw [← hb]; cases r <;> rfl
  rw [this] at e
  cases e
  exact absurd hd (by decide)
theorem nx_dig {r r' : List UInt8} {n : Nat} (h : nx r = some (n, r')) : 1 ≤ dcl r := by
  unfold nx at h
  split at h
  · cases h
  · omega
theorem toNat_eq {c d : UInt8} : (c.toNat : Int) = (d.toNat : Int) ↔ c = d := by
  constructor
  · intro h; exact UInt8.toNat_inj.1 (by omega)
  · rintro rfl; rfl
/-- The program's duration and the document's are the same. -/
theorem span_same (l : List UInt8) : spanL l = spanR l := by
  unfold spanL spanR
  by_cases h0 : l.head? = some 80
  · rw [if_pos h0]
    by_cases h1 : l.length < 2
    · rw [if_pos (show l.length < 2 ∨ l.head? ≠ some 80 from .inl h1)]
      have ht : l.tail = [] := by
        cases l with
        | nil => rfl
        | cons a r => cases r with
          | nil => rfl
          | cons b r => simp only [List.length_cons] at h1; omega
      rw [ht]
      decide
    · rw [if_neg (show ¬ (l.length < 2 ∨ l.head? ≠ some 80) from by rintro (e | e); exact h1 e; exact e h0)]
      have ht : l.tail ≠ [] := by
        cases l with
        | nil => simp at h1
        | cons a r => cases r with
          | nil => simp at h1
          | cons b r => simp
      by_cases hx : ∃ n c r', nx l.tail = some (n, c :: r')
      · obtain ⟨n, c, r', hx⟩ := hx
        have hd := head_dig (nx_dig hx)
        rw [if_neg hd, nextL_some hx, hx]
        simp only []
        have c1 : (c.toNat : Int) = 89 ↔ c = 89 := toNat_eq (d := 89)
        have c2 : (c.toNat : Int) = 77 ↔ c = 77 := toNat_eq (d := 77)
        have c3 : (c.toNat : Int) = 87 ↔ c = 87 := toNat_eq (d := 87)
        have c4 : (c.toNat : Int) = 68 ↔ c = 68 := toNat_eq (d := 68)
        simp only [c1, c2, c3, c4]
        by_cases k1 : c = 89 ∨ c = 77
        · rw [if_pos k1, if_pos k1]
        rw [if_neg k1, if_neg k1]
        by_cases k2 : c = 87
        · rw [if_pos k2, if_pos k2]
          have hadd := Rel.zero.add (n := (n : Int)) (u := 604800) (by omega) (by decide) (by decide)
          by_cases hr : r' = []
          · subst hr
            rw [if_pos rfl, fin_rel hadd]
            unfold tailR
            rw [if_pos rfl]
          · rw [if_neg hr]
            unfold finL
            rw [if_neg hr]
        rw [if_neg k2, if_neg k2]
        by_cases k3 : c = 68
        · rw [if_pos k3, if_pos k3]
          have hadd := Rel.zero.add (n := (n : Int)) (u := 86400) (by omega) (by decide) (by decide)
          by_cases hr : r' = []
          · subst hr
            rw [if_pos rfl, fin_rel hadd]
            unfold tailR
            rw [if_pos rfl]
          · rw [if_neg hr]
            exact time_tail hr hadd
        · rw [if_neg k3, if_neg k3]
      · have hx' : ∀ n c r', nx l.tail ≠ some (n, c :: r') := fun n c r' e => hx ⟨n, c, r', e⟩
        have hR : (match nx l.tail with
          | some (n, c :: r) => if c = 89 ∨ c = 77 then ((0, 4) : Int × Int) else if c = 87 then (if r = [] then tailR r (addR 0 n 604800) else (0, 2)) else if c = 68 then tailR r (addR 0 n 86400) else (0, 2)
          | _ => tailR l.tail 0) = tailR l.tail 0 := by
          split
          · rename_i n c r heq
            exact absurd heq (hx' n c r)
          · rfl
        rw [hR, nextL_none hx']
        by_cases h84 : l.tail.head? = some 84
        · rw [if_pos h84]
          exact time_tail ht Rel.zero
        · rw [if_neg h84]
          unfold tailR
          rw [if_neg ht, if_neg h84]
          decide
  · rw [if_neg h0, if_pos (show l.length < 2 ∨ l.head? ≠ some 80 from .inr h0)]
end Go.Proofs.YtflnkchpfbcgiaaGreatDoor.Q
