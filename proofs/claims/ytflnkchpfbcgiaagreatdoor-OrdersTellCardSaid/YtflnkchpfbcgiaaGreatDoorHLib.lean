/- Contracts of small library functions, in the form that the printed callers ask: each out of the shelf's contract. By an AI agent of this work. -/
import Derived.Test.YtflnkchpfbcgiaaGreatDoorQx0
import Derived.Test.YtflnkchpfbcgiaaGreatDoorShelf
import Derived.Laws.Externs
import Derived.Lib.AtoiErrMem
namespace Go.Proofs.YtflnkchpfbcgiaaGreatDoor.Q
open Go.RowKit Go.Proofs.YtflnkchpfbcgiaaGreatDoorW.PrintWords Go.Proofs.YtflnkchpfbcgiaaGreatDoorW.PrintLast Go.Proofs.YtflnkchpfbcgiaaGreatDoorW.PrintMore
set_option linter.unusedVariables false
set_option linter.unusedSimpArgs false

/-! ### math/bits.Mul64 -/
def bits_Mul64.f (a0 a1 : Int) : Option (Int × Int) :=
  if 0 ≤ a0 ∧ a0 < 18446744073709551616 ∧ 0 ≤ a1 ∧ a1 < 18446744073709551616 then some (a0 * a1 / 18446744073709551616, a0 * a1 % 18446744073709551616) else none
theorem bits_Mul64.calls (a0 a1 : Int) (r1 r2 : Int) (w : World) (h : bits_Mul64.f a0 a1 = some (r1, r2)) :
    Calls Tryz.prog 73 #[.int .u64 a0, .int .u64 a1] w fun e w' => e = .returned (.tuple #[.int .u64 r1, .int .u64 r2]) ∧ Drawn0 w w' := by
  unfold bits_Mul64.f at h
  split at h
  · rename_i hc
    obtain ⟨h0, h1, h2, h3⟩ := hc
    obtain ⟨x, rfl⟩ := Int.eq_ofNat_of_zero_le h0
    obtain ⟨y, rfl⟩ := Int.eq_ofNat_of_zero_le h2
    simp only [Option.some.injEq, Prod.mk.injEq] at h
    obtain ⟨rfl, rfl⟩ := h
    refine (Tryz.bits_Mul64 x y (by omega) (by omega) w).mono ?_
    rintro e w' ⟨rfl, rfl⟩
    refine ⟨?_, Drawn0.refl _⟩
    congr 4
  · exact absurd h (by simp)

/-! ### tick.Sum: math/bits.Add64 is an entry of the model -/
theorem add64_at (x y : Int) (hx : 0 ≤ x) (hy : 0 ≤ y) (w : World) : (callFunc 84 #[.int .u64 x, .int .u64 y, .int .u64 0]).run Tryz.prog w =
    .ok (.value (.tuple #[.int .u64 ((x + y) % 18446744073709551616), .int .u64 ((x + y) / 18446744073709551616)])) w := by
  rw [run_callFunc_extern Tryz.func84 (by kernel_rfl) (by kernel_rfl) (by kernel_rfl) (e := add64Entry) (by kernel_rfl), run_add64 x y 0 hx hy (by omega) (by omega)]
  simp only [Result.andThen, Int.add_zero]
def tick_Sum.f (a0 a1 : Int) : Option (Int × Bool) :=
  if 0 ≤ a0 ∧ a0 < 18446744073709551616 ∧ 0 ≤ a1 ∧ a1 < 18446744073709551616 then (if a0 + a1 < 18446744073709551616 then some (a0 + a1, true) else some (0, false)) else none
set_option maxRecDepth 100000 in
theorem tick_Sum.calls (a0 a1 : Int) (r1 : Int) (r2 : Bool) (w : World) (h : tick_Sum.f a0 a1 = some (r1, r2)) :
    Calls Tryz.prog 74 #[.int .u64 a0, .int .u64 a1] w fun e w' => e = .returned (.tuple #[.int .u64 r1, .bool r2]) ∧ Drawn0 w w' := by
  unfold tick_Sum.f at h
  split at h
  · rename_i hc
    obtain ⟨h0, h1, h2, h3⟩ := hc
    split at h
    · rename_i hs
      simp only [Option.some.injEq, Prod.mk.injEq] at h
      obtain ⟨rfl, rfl⟩ := h
      have k0 : (a0 + a1) / 18446744073709551616 = 0 := by omega
      have k1 : (a0 + a1) % 18446744073709551616 = a0 + a1 := by omega
      have ha := fun w => add64_at a0 a1 h0 h2 w
      simp only [k0, k1] at ha
      clear k0 k1 h1 h3 hs
      go_enter Tryz.func74, Tryz.ntmps74
      go_wp2_with (simp only [ha])
      go_ret2
      exact ⟨rfl, Drawn0.refl _⟩
    · rename_i hs
      simp only [Option.some.injEq, Prod.mk.injEq] at h
      obtain ⟨rfl, rfl⟩ := h
      have k0 : (a0 + a1) / 18446744073709551616 = 1 := by omega
      have ha := fun w => add64_at a0 a1 h0 h2 w
      simp only [k0] at ha
      obtain ⟨m, hm⟩ : ∃ m, (a0 + a1) % 18446744073709551616 = m := ⟨_, rfl⟩
      rw [hm] at ha
      clear k0 h1 h3 hs hm
      go_enter Tryz.func74, Tryz.ntmps74
      go_wp2_with (simp only [ha])
      go_ret2
      exact ⟨rfl, Drawn0.refl _⟩
  · exact absurd h (by simp)

/-! ### internal/stringslite.IndexByte; Index of one byte -/
def stringslite_IndexByte.f (a0 : ByteArray) (a1 : Int) : Option (Int) := some (Lib.indexByte a0.data.toList a1.toNat.toUInt8)
theorem stringslite_IndexByte.calls (a0 : ByteArray) (a1 : Int) (r : Int) (w : World) (h : stringslite_IndexByte.f a0 a1 = some r) :
    Calls Tryz.prog 67 #[.string a0, .int .u8 a1] w fun e w' => e = .returned (.int .i64 r) ∧ Drawn0 w w' := by
  obtain rfl := Option.some.inj h
  refine (Tryz.stringslite_IndexByte a0 a1 w).mono ?_
  rintro e w' ⟨rfl, rfl⟩
  exact ⟨rfl, Drawn0.refl _⟩
def stringslite_Index.f (a0 a1 : ByteArray) : Option (Int) := match a1.data.toList with
  | [c] => some (Lib.indexByte a0.data.toList c)
  | _ => none
theorem stringslite_Index.calls (a0 a1 : ByteArray) (r : Int) (w : World) (h : stringslite_Index.f a0 a1 = some r) :
    Calls Tryz.prog 76 #[.string a0, .string a1] w fun e w' => e = .returned (.int .i64 r) ∧ Drawn0 w w' := by
  unfold stringslite_Index.f at h
  split at h
  · rename_i c hc
    obtain rfl := Option.some.inj h
    obtain rfl : a1 = ⟨#[c]⟩ := by
      cases a1 with
      | mk d =>
        have : d = #[c] := Array.ext' hc
        rw [this]
    refine (Tryz.stringslite_Index_one a0 c w).mono ?_
    rintro e w' ⟨rfl, rfl⟩
    exact ⟨rfl, Drawn0.refl _⟩
  · exact absurd h (by simp)

/-! ### strconv.ParseUint, Atoi: where there is no error -/
def strconv_ParseUint.f (a0 : ByteArray) (a1 a2 : Int) : Option (Int × Option Int) :=
  if a1 = 10 ∧ a2 = 64 ∧ a0.size ≤ 9223372036854775806 then (match Lib.parseUintB 64 a0.data.toList with | .ok u => some ((u : Int), none) | _ => none) else none
theorem strconv_ParseUint.calls (a0 : ByteArray) (a1 a2 : Int) (r1 : Int) (r2 : Option Int) (w : World) (h : strconv_ParseUint.f a0 a1 a2 = some (r1, r2)) :
    Calls Tryz.prog 64 #[.string a0, .int .i64 a1, .int .i64 a2] w fun e w' => e = .returned (.tuple #[.int .u64 r1, errW r2]) ∧ Below w.heap.size w w' := by
  unfold strconv_ParseUint.f at h
  split at h
  · rename_i hc
    obtain ⟨rfl, rfl, hs⟩ := hc
    split at h
    · rename_i u hu
      simp only [Option.some.injEq, Prod.mk.injEq] at h
      obtain ⟨rfl, rfl⟩ := h
      refine (Tryz.strconv_ParseUint_10_at64_ok a0 hs u hu w).mono ?_
      rintro e w' ⟨rfl, rfl | rfl⟩
      · exact ⟨rfl, Below.refl _ _⟩
      · exact ⟨rfl, Lib.bytesWorld_below _ _ _⟩
    · exact absurd h (by simp)
  · exact absurd h (by simp)
def strconv_Atoi.f (a0 : ByteArray) : Option (Int × Option Int) :=
  if a0.size ≤ 18 then (match Lib.atoi a0.data.toList with | some n => some (n, none) | none => none) else none
theorem strconv_Atoi.calls (a0 : ByteArray) (r1 : Int) (r2 : Option Int) (w : World) (h : strconv_Atoi.f a0 = some (r1, r2)) :
    Calls Tryz.prog 53 #[.string a0] w fun e w' => e = .returned (.tuple #[.int .i64 r1, errW r2]) ∧ Below w.heap.size w w' := by
  unfold strconv_Atoi.f at h
  split at h
  · rename_i hc
    split at h
    · rename_i n hn
      simp only [Option.some.injEq, Prod.mk.injEq] at h
      obtain ⟨rfl, rfl⟩ := h
      refine (Tryz.strconv_Atoi a0 n hc hn w).mono ?_
      rintro e w' ⟨rfl, t, rfl⟩
      exact ⟨rfl, Lib.bytesWorld_below _ _ _⟩
    · exact absurd h (by simp)
  · exact absurd h (by simp)
end Go.Proofs.YtflnkchpfbcgiaaGreatDoor.Q
