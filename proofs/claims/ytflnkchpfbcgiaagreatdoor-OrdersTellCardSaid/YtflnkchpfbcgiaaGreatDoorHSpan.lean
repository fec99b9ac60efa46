/- span.Parse: a body with labels and gotos, walked by hand; its callees by the printed contracts. By an AI agent of this work. (Written by gen_span.py out of XHSpan.src.) -/
import Derived.Test.YtflnkchpfbcgiaaGreatDoorQx0
import Derived.Test.YtflnkchpfbcgiaaGreatDoorQx2
import Derived.Scope
import Derived.WalkMore
namespace Go.Proofs.YtflnkchpfbcgiaaGreatDoor.Q
open Go.RowKit Go.Proofs.YtflnkchpfbcgiaaGreatDoorW.PrintWords Go.Proofs.YtflnkchpfbcgiaaGreatDoorW.PrintLast Go.Proofs.YtflnkchpfbcgiaaGreatDoorW.PrintMore
set_option linter.unusedVariables false
set_option linter.unusedSimpArgs false

/-! ### A scope with several labels: what holds at each jump, and a measure that every jump from a label on lowers -/
/-- As Q; by a goto to label l: J l. -/
def jumps (J : Nat → Act → World → Prop) (Q : Exit → Act → World → Prop) : Exit → Act → World → Prop
  | .goto l, a, w => J l a w
  | e, a, w => Q e a w
theorem jumps_normal {J : Nat → Act → World → Prop} {Q : Exit → Act → World → Prop} (a : Act) (w : World) : jumps J Q .normal a w = Q .normal a w := rfl
theorem jumps_ret {J : Nat → Act → World → Prop} {Q : Exit → Act → World → Prop} (a : Act) (w : World) : jumps J Q .ret a w = Q .ret a w := rfl
theorem jumps_goto {J : Nat → Act → World → Prop} {Q : Exit → Act → World → Prop} (l : Nat) (a : Act) (w : World) : jumps J Q (.goto l) a w = J l a w := rfl
theorem wp_scope_labels {P : Program} {a : Act} {w : World} {Q : Exit → Act → World → Prop} {c : Code} (J : Nat → Act → World → Prop) (μ : Nat → Act → World → Nat)
    (first : c.wp P (jumps J Q) a w)
    (pass : ∀ l a w, J l a w → ∃ r, findLabel c l = some r ∧ r.wp P (jumps (fun l' a' w' => J l' a' w' ∧ μ l' a' w' < μ l a w) Q) a w) : (Code.scope c).wp P Q a w := by
  intro b k cs
  have key : ∀ n l a w, μ l a w = n → J l a w → ∃ r, findLabel c l = some r ∧ ∃ e a' w', Q e a' w' ∧ Arrives P (lone (b.at a (.code r :: .inScope c :: k)) cs w) b k cs e a' w' := by
    intro n
    induction n using Nat.strongRecOn with
    | _ n ih =>
      intro l a w hn hJ
      obtain ⟨r, hr, hp⟩ := pass l a w hJ
      refine ⟨r, hr, ?_⟩
      obtain ⟨e, a₁, w₁, hq, harr⟩ := hp b (.inScope c :: k) cs
      cases e with
      | normal => exact ⟨.normal, a₁, w₁, hq, Steps.trans harr (.one step_inScope)⟩
      | exit id => exact ⟨.exit id, a₁, w₁, hq, fun k' hk => harr k' (by simp [exitTo, hk])⟩
      | goto l' =>
        obtain ⟨hJ', hlt⟩ := hq
        obtain ⟨r', hr', e₂, a₂, w₂, hq₂, harr₂⟩ := ih _ (by omega) l' a₁ w₁ rfl hJ'
        have hg : gotoIn l' (.inScope c :: k) = some (.code r' :: .inScope c :: k) := by simp [gotoIn, hr']
        exact ⟨e₂, a₂, w₂, hq₂, .of_steps (harr _ hg) harr₂⟩
      | ret => exact ⟨_, a₁, w₁, hq, harr⟩
      | panic ch => exact ⟨_, a₁, w₁, hq, harr⟩
      | outgrown => exact ⟨_, a₁, w₁, hq, harr⟩
  obtain ⟨e, a₁, w₁, hq, harr⟩ := first b (.inScope c :: k) cs
  cases e with
  | normal => exact ⟨.normal, a₁, w₁, hq, .head step_scope (Steps.trans harr (.one step_inScope))⟩
  | exit id => exact ⟨.exit id, a₁, w₁, hq, fun k' hk => .head step_scope (harr k' (by simp [exitTo, hk]))⟩
  | goto l' =>
    obtain ⟨r', hr', e₂, a₂, w₂, hq₂, harr₂⟩ := key _ l' a₁ w₁ rfl hq
    have hg : gotoIn l' (.inScope c :: k) = some (.code r' :: .inScope c :: k) := by simp [gotoIn, hr']
    exact ⟨e₂, a₂, w₂, hq₂, .of_steps (.head step_scope (harr _ hg)) harr₂⟩
  | ret => exact ⟨_, a₁, w₁, hq, .of_steps (.one step_scope) harr⟩
  | panic ch => exact ⟨_, a₁, w₁, hq, .of_steps (.one step_scope) harr⟩
  | outgrown => exact ⟨_, a₁, w₁, hq, .of_steps (.one step_scope) harr⟩

/-! ### What span.Parse comes to -/
/-- Label end. -/
def span_Parse.fin (total : Int) (rest : ByteArray) : Int × Int :=
  if rest.toList = [] then (if total > 1125899906842624 then (0, 3) else (total, 0)) else (0, 2)
def span_Parse.unit (place : Int) : Int := if place = 0 then 3600 else if place = 1 then 60 else 1
/-- Label part. -/
def span_Parse.part : Nat → ByteArray → Int → Int → Option (Int × Int)
  | 0, _, _, _ => none
  | k + 1, rest, total, last => (span_next.f (k + 1) rest).bind fun b => (strings_IndexByte.f (⟨#[72, 77, 83]⟩ : ByteArray) b.2.1).bind fun place =>
    if place ≤ last then some (0, 2) else if 0 ≤ place then (if place < 3 then ((span_more.f total b.1 (span_Parse.unit place)).bind fun tot => if b.2.2.toList = [] then some (span_Parse.fin tot b.2.2) else span_Parse.part k b.2.2 tot place) else none) else none
/-- Label time. -/
def span_Parse.time (k : Nat) (rest : ByteArray) (total : Int) : Option (Int × Int) :=
  (strings_CutPrefix.f rest (⟨#[84]⟩ : ByteArray)).bind fun b => if b.2 = true then span_Parse.part k b.1 total (-1) else some (0, 2)
def span_Parse.f (k : Nat) (a0 : ByteArray) : Option (Int × Int) :=
  (strings_CutPrefix.f a0 (⟨#[80]⟩ : ByteArray)).bind fun b => if b.2 = true then
    ((strings_HasPrefix.f b.1 (⟨#[84]⟩ : ByteArray)).bind fun t => if t = true then span_Parse.time k b.1 0 else
      (span_next.f k b.1).bind fun n =>
        if n.2.1 = 89 ∨ n.2.1 = 77 then some (0, 4)
        else if n.2.1 = 87 then (span_more.f 0 n.1 604800).bind fun tot => some (span_Parse.fin tot n.2.2)
        else if n.2.1 = 68 then (span_more.f 0 n.1 86400).bind fun tot => if n.2.2.toList = [] then some (span_Parse.fin tot n.2.2) else span_Parse.time k n.2.2 tot
        else some (0, 2))
  else some (0, 2)
theorem span_Parse.part_mono : ∀ k rest total last, LeO (span_Parse.part k rest total last) (span_Parse.part (k + 1) rest total last)
  | 0, _, _, _ => fun r h => by simp [span_Parse.part] at h
  | k + 1, rest, total, last => by
    unfold span_Parse.part
    refine LeO.bind (span_next.mono _ _) fun b => LeO.bind (LeO.refl _) fun place => LeO.ite (LeO.refl _) (LeO.ite (LeO.ite (LeO.bind (LeO.refl _) fun tot => LeO.ite (LeO.refl _) (span_Parse.part_mono k _ _ _)) (LeO.refl _)) (LeO.refl _))
theorem span_Parse.time_mono (rest : ByteArray) (total : Int) (k : Nat) : LeO (span_Parse.time k rest total) (span_Parse.time (k + 1) rest total) := by
  unfold span_Parse.time
  exact LeO.bind (LeO.refl _) fun b => LeO.ite (span_Parse.part_mono _ _ _ _) (LeO.refl _)
theorem span_Parse.mono : ∀ a0 k, LeO (span_Parse.f k a0) (span_Parse.f (k + 1) a0) := by
  intro a0 k
  unfold span_Parse.f
  exact LeO.bind (LeO.refl _) fun b => LeO.ite (LeO.bind (LeO.refl _) fun t => LeO.ite (span_Parse.time_mono _ _ _) (LeO.bind (span_next.mono _ _) fun n => LeO.ite (LeO.refl _) (LeO.ite (LeO.refl _) (LeO.ite (LeO.bind (LeO.refl _) fun tot => LeO.ite (LeO.refl _) (span_Parse.time_mono _ _ _)) (LeO.refl _))))) (LeO.refl _)

/-! ### The walk -/
/-- What holds at the labels. -/
def span_Parse.J (w0 : World) (r1 r2 : Int) (l : Nat) (a : Act) (w : World) : Prop :=
  (l = 0 ∧ (r1 = 0 ∧ r2 = 2) ∧ Aside0 (Below w0.heap.size w0 w) ∧ ∃ us : Nat → Value, a = { tmps := #[us 0, us 1, us 2, us 3, us 4, us 5, us 6, us 7, us 8, us 9, us 10, us 11, us 12, us 13, us 14, us 15, us 16, us 17, us 18, us 19, us 20, us 21, us 22, us 23, us 24, us 25, us 26, us 27, us 28, us 29, us 30, us 31, us 32, us 33, us 34, us 35, us 36, us 37, us 38, us 39, us 40, us 41, us 42, us 43, us 44, us 45, us 46, us 47, us 48, us 49, us 50, us 51, us 52, us 53, us 54, us 55, us 56, us 57, us 58, us 59, us 60, us 61, us 62, us 63, us 64, us 65, us 66, us 67, us 68, us 69, us 70, us 71, us 72, us 73], defers := [] }) ∨
  (l = 2 ∧ ∃ (total : Int) (rest : ByteArray), Aside0 (span_Parse.fin total rest = (r1, r2)) ∧ Aside0 (Below w0.heap.size w0 w) ∧ ∃ us : Nat → Value, a = { tmps := #[us 0, us 1, us 2, us 3, .int .u64 total, us 5, us 6, us 7, us 8, .string rest, us 10, us 11, us 12, us 13, us 14, us 15, us 16, us 17, us 18, us 19, us 20, us 21, us 22, us 23, us 24, us 25, us 26, us 27, us 28, us 29, us 30, us 31, us 32, us 33, us 34, us 35, us 36, us 37, us 38, us 39, us 40, us 41, us 42, us 43, us 44, us 45, us 46, us 47, us 48, us 49, us 50, us 51, us 52, us 53, us 54, us 55, us 56, us 57, us 58, us 59, us 60, us 61, us 62, us 63, us 64, us 65, us 66, us 67, us 68, us 69, us 70, us 71, us 72, us 73], defers := [] }) ∨
  (l = 1 ∧ ∃ (kq : Nat) (total : Int) (rest : ByteArray), Aside0 (span_Parse.time kq rest total = some (r1, r2)) ∧ Aside0 (Below w0.heap.size w0 w) ∧ ∃ us : Nat → Value, a = { tmps := #[us 0, us 1, us 2, us 3, .int .u64 total, us 5, us 6, us 7, .int .i64 (-1), .string rest, us 10, us 11, us 12, us 13, us 14, us 15, us 16, us 17, us 18, us 19, us 20, us 21, us 22, us 23, us 24, us 25, us 26, us 27, us 28, us 29, us 30, us 31, us 32, us 33, us 34, us 35, us 36, us 37, us 38, us 39, us 40, us 41, us 42, us 43, us 44, us 45, us 46, us 47, us 48, us 49, us 50, us 51, us 52, us 53, us 54, us 55, us 56, us 57, us 58, us 59, us 60, us 61, us 62, us 63, us 64, us 65, us 66, us 67, us 68, us 69, us 70, us 71, us 72, us 73], defers := [] }) ∨
  (l = 3 ∧ ∃ (kq : Nat) (total last : Int) (rest : ByteArray), (-1 ≤ last ∧ last < 3) ∧ Aside0 (span_Parse.part kq rest total last = some (r1, r2)) ∧ Aside0 (Below w0.heap.size w0 w) ∧ ∃ us : Nat → Value, a = { tmps := #[us 0, us 1, us 2, us 3, .int .u64 total, us 5, us 6, us 7, .int .i64 last, .string rest, us 10, us 11, us 12, us 13, us 14, us 15, us 16, us 17, us 18, us 19, us 20, us 21, us 22, us 23, us 24, us 25, us 26, us 27, us 28, us 29, us 30, us 31, us 32, us 33, us 34, us 35, us 36, us 37, us 38, us 39, us 40, us 41, us 42, us 43, us 44, us 45, us 46, us 47, us 48, us 49, us 50, us 51, us 52, us 53, us 54, us 55, us 56, us 57, us 58, us 59, us 60, us 61, us 62, us 63, us 64, us 65, us 66, us 67, us 68, us 69, us 70, us 71, us 72, us 73], defers := [] })
def span_Parse.slot8 (a : Act) : Int := match a.tmps.getD 8 undef with | .int _ n => n | _ => 0
def span_Parse.μ (l : Nat) (a : Act) (_ : World) : Nat := if l = 3 then (3 - span_Parse.slot8 a).toNat + 1 else if l = 1 then 10 else 0
theorem span_Parse.fr {F : (Nat → Value) → Act} {a : Act} (h : a = F (fun i => a.tmps.getD i undef)) : ∃ us, a = F us := ⟨_, h⟩
/-- The body, inside its scope. -/
noncomputable def span_Parse.body : Code := match Tryz.f32.body with
  | some (.seq _ (.scope c)) => c
  | _ => .skip
/-- What is asked of the call. -/
abbrev span_Parse.post (w0 : World) (r1 r2 : Int) : Ending → World → Prop := fun e w' => e = .returned (.tuple #[.int .u64 r1, .int .i64 r2]) ∧ Below w0.heap.size w0 w'
/-- What stands behind a label. -/
noncomputable def span_Parse.code (l : Nat) : Code := match findLabel span_Parse.body l with
  | some (.seq .skip d) => d
  | _ => .skip
theorem span_Parse.conv {Q : Exit → Act → World → Prop} {a : Act} {w : World} {l : Nat} {d : Code} (h : findLabel span_Parse.body l = some (.seq .skip d)) (hd : d.wp Tryz.prog Q a w) : (span_Parse.code l).wp Tryz.prog Q a w := by
  unfold span_Parse.code
  rw [h]
  exact hd
theorem span_Parse.has (l : Nat) (h : l = 0 ∨ l = 1 ∨ l = 2 ∨ l = 3) : findLabel span_Parse.body l = some (.seq .skip (span_Parse.code l)) := by
  rcases h with rfl | rfl | rfl | rfl <;> kernel_rfl
theorem span_Parse.skipped {Q : Exit → Act → World → Prop} {a : Act} {w : World} {d : Code} (h : d.wp Tryz.prog Q a w) : (Code.seq .skip d).wp Tryz.prog Q a w := wp_seq (wp_skip h)
theorem span_Parse.fin_rest {total : Int} {rest : ByteArray} (h : rest.toList.isEmpty = false) : span_Parse.fin total rest = (0, 2) := by
  unfold span_Parse.fin
  rw [if_neg (by intro e; rw [e] at h; simp at h)]
theorem span_Parse.fin_over {total : Int} {rest : ByteArray} (h : rest.toList.isEmpty = true) (h2 : 1125899906842624 < total) : span_Parse.fin total rest = (0, 3) := by
  unfold span_Parse.fin
  rw [if_pos (by simpa using h), if_pos h2]
theorem span_Parse.fin_in {total : Int} {rest : ByteArray} (h : rest.toList.isEmpty = true) (h2 : total ≤ 1125899906842624) : span_Parse.fin total rest = (total, 0) := by
  unfold span_Parse.fin
  rw [if_pos (by simpa using h), if_neg (by omega)]
theorem span_Parse.pair {a b r1 r2 : Int} (h : (a, b) = (r1, r2)) : Ending.returned (.tuple #[.int .u64 a, .int .i64 b]) = Ending.returned (.tuple #[.int .u64 r1, .int .i64 r2]) := by
  cases h; rfl
theorem span_Parse.fr_use {Pr : Act → Prop} {F : (Nat → Value) → Act} {a : Act} (h : ∀ us, Pr (F us)) (e : a = F (fun i => a.tmps.getD i undef)) : Pr a := by
  rw [e]; exact h _
set_option maxHeartbeats 1000000 in
set_option maxRecDepth 100000 in
/-- Label wrong. -/
theorem span_Parse.at_wrong (J' : Nat → Act → World → Prop) (w0 w : World) (us : Nat → Value) (HB : Aside0 (Below w0.heap.size w0 w)) :
    (span_Parse.code 0).wp Tryz.prog (jumps J' (bodyPost Tryz.prog Tryz.f32 (span_Parse.post w0 0 2))) { tmps := #[us 0, us 1, us 2, us 3, us 4, us 5, us 6, us 7, us 8, us 9, us 10, us 11, us 12, us 13, us 14, us 15, us 16, us 17, us 18, us 19, us 20, us 21, us 22, us 23, us 24, us 25, us 26, us 27, us 28, us 29, us 30, us 31, us 32, us 33, us 34, us 35, us 36, us 37, us 38, us 39, us 40, us 41, us 42, us 43, us 44, us 45, us 46, us 47, us 48, us 49, us 50, us 51, us 52, us 53, us 54, us 55, us 56, us 57, us 58, us 59, us 60, us 61, us 62, us 63, us 64, us 65, us 66, us 67, us 68, us 69, us 70, us 71, us 72, us 73], defers := [] } w := by
  refine span_Parse.conv rfl ?_
  go_wp2
  rw [jumps_ret]
  go_ret2
  exact ⟨rfl, HB.out⟩
set_option maxHeartbeats 1000000 in
set_option maxRecDepth 100000 in
/-- Label end. -/
theorem span_Parse.at_end (J' : Nat → Act → World → Prop) (w0 w : World) (r1 r2 total : Int) (rest : ByteArray) (us : Nat → Value) (A : Aside0 (span_Parse.fin total rest = (r1, r2))) (HB : Aside0 (Below w0.heap.size w0 w)) :
    (span_Parse.code 2).wp Tryz.prog (jumps J' (bodyPost Tryz.prog Tryz.f32 (span_Parse.post w0 r1 r2))) { tmps := #[us 0, us 1, us 2, us 3, .int .u64 total, us 5, us 6, us 7, us 8, .string rest, us 10, us 11, us 12, us 13, us 14, us 15, us 16, us 17, us 18, us 19, us 20, us 21, us 22, us 23, us 24, us 25, us 26, us 27, us 28, us 29, us 30, us 31, us 32, us 33, us 34, us 35, us 36, us 37, us 38, us 39, us 40, us 41, us 42, us 43, us 44, us 45, us 46, us 47, us 48, us 49, us 50, us 51, us 52, us 53, us 54, us 55, us 56, us 57, us 58, us 59, us 60, us 61, us 62, us 63, us 64, us 65, us 66, us 67, us 68, us 69, us 70, us 71, us 72, us 73], defers := [] } w := by
  refine span_Parse.conv rfl ?_
  go_wp2
  · have h1 : rest.toList.isEmpty = true := by assumption
    have h2 : 1125899906842624 < total := by assumption
    rw [jumps_ret]
    have A' := (span_Parse.fin_over h1 h2).symm.trans A.out
    go_ret2
    exact ⟨span_Parse.pair A', HB.out⟩
  · have h1 : rest.toList.isEmpty = true := by assumption
    have h2 : total ≤ 1125899906842624 := by assumption
    rw [jumps_ret]
    have A' := (span_Parse.fin_in h1 h2).symm.trans A.out
    go_ret2
    exact ⟨span_Parse.pair A', HB.out⟩
  · have h1 : rest.toList.isEmpty = false := by assumption
    have A' := (span_Parse.fin_rest h1).symm.trans A.out
    go_step3
    go_wp2
    rw [jumps_ret]
    go_ret2
    exact ⟨span_Parse.pair A', HB.out⟩
theorem span_Parse.units (w : World) : Sem.run Tryz.prog (Instr.index 94 (.agg #[.int .u64 3600, .int .u64 60, .int .u64 1]) (.int .i64 0)) w = .ok (.int .u64 3600) w ∧
    Sem.run Tryz.prog (Instr.index 94 (.agg #[.int .u64 3600, .int .u64 60, .int .u64 1]) (.int .i64 1)) w = .ok (.int .u64 60) w ∧
    Sem.run Tryz.prog (Instr.index 94 (.agg #[.int .u64 3600, .int .u64 60, .int .u64 1]) (.int .i64 2)) w = .ok (.int .u64 1) w := ⟨by kernel_rfl, by kernel_rfl, by kernel_rfl⟩
theorem span_Parse.unit0 : span_Parse.unit 0 = 3600 := rfl
theorem span_Parse.unit1 : span_Parse.unit 1 = 60 := rfl
theorem span_Parse.unit2 : span_Parse.unit 2 = 1 := rfl
set_option maxHeartbeats 2000000 in
set_option maxRecDepth 100000 in
/-- Label part. -/
theorem span_Parse.at_part (J' : Nat → Act → World → Prop) (w0 : World) (kq : Nat) (r1 r2 total last : Int) (rest : ByteArray) (us : Nat → Value) (w : World)
    (h0 : r1 = 0 → r2 = 2 → ∀ (us : Nat → Value) (w : World), Aside0 (Below w0.heap.size w0 w) → J' 0 { tmps := #[us 0, us 1, us 2, us 3, us 4, us 5, us 6, us 7, us 8, us 9, us 10, us 11, us 12, us 13, us 14, us 15, us 16, us 17, us 18, us 19, us 20, us 21, us 22, us 23, us 24, us 25, us 26, us 27, us 28, us 29, us 30, us 31, us 32, us 33, us 34, us 35, us 36, us 37, us 38, us 39, us 40, us 41, us 42, us 43, us 44, us 45, us 46, us 47, us 48, us 49, us 50, us 51, us 52, us 53, us 54, us 55, us 56, us 57, us 58, us 59, us 60, us 61, us 62, us 63, us 64, us 65, us 66, us 67, us 68, us 69, us 70, us 71, us 72, us 73], defers := [] } w)
    (h3 : ∀ (kq : Nat) (total last' : Int) (rest : ByteArray) (us : Nat → Value) (w : World), last < last' → last' < 3 → Aside0 (span_Parse.part kq rest total last' = some (r1, r2)) → Aside0 (Below w0.heap.size w0 w) → J' 3 { tmps := #[us 0, us 1, us 2, us 3, .int .u64 total, us 5, us 6, us 7, .int .i64 last', .string rest, us 10, us 11, us 12, us 13, us 14, us 15, us 16, us 17, us 18, us 19, us 20, us 21, us 22, us 23, us 24, us 25, us 26, us 27, us 28, us 29, us 30, us 31, us 32, us 33, us 34, us 35, us 36, us 37, us 38, us 39, us 40, us 41, us 42, us 43, us 44, us 45, us 46, us 47, us 48, us 49, us 50, us 51, us 52, us 53, us 54, us 55, us 56, us 57, us 58, us 59, us 60, us 61, us 62, us 63, us 64, us 65, us 66, us 67, us 68, us 69, us 70, us 71, us 72, us 73], defers := [] } w)
    (hl : -1 ≤ last) (A : Aside0 (span_Parse.part kq rest total last = some (r1, r2))) (HB : Aside0 (Below w0.heap.size w0 w)) :
    (span_Parse.code 3).wp Tryz.prog (jumps J' (bodyPost Tryz.prog Tryz.f32 (span_Parse.post w0 r1 r2))) { tmps := #[us 0, us 1, us 2, us 3, .int .u64 total, us 5, us 6, us 7, .int .i64 last, .string rest, us 10, us 11, us 12, us 13, us 14, us 15, us 16, us 17, us 18, us 19, us 20, us 21, us 22, us 23, us 24, us 25, us 26, us 27, us 28, us 29, us 30, us 31, us 32, us 33, us 34, us 35, us 36, us 37, us 38, us 39, us 40, us 41, us 42, us 43, us 44, us 45, us 46, us 47, us 48, us 49, us 50, us 51, us 52, us 53, us 54, us 55, us 56, us 57, us 58, us 59, us 60, us 61, us 62, us 63, us 64, us 65, us 66, us 67, us 68, us 69, us 70, us 71, us 72, us 73], defers := [] } w := by
  have H := A.out
  clear A
  cases kq with
  | zero => exact absurd H (by simp [span_Parse.part])
  | succ kq =>
  refine span_Parse.conv rfl ?_
  unfold span_Parse.part at H
  obtain ⟨⟨n, unit, rest'⟩, A1, H⟩ := Option.bind_eq_some_iff.mp H
  obtain ⟨place, A2, H⟩ := Option.bind_eq_some_iff.mp H
  simp only at A2 H
  have A1 := Aside0.mk A1
  have A2 := Aside0.mk A2
  by_cases c1 : place ≤ last
  · rw [if_pos c1] at H
    obtain ⟨rfl, rfl⟩ := Prod.mk.inj (Option.some.inj H)
    have H0 := Aside0.mk (h0 rfl rfl)
    clear h3 h0 H
    go_wp2_with (first
      | (go_at_call 49; refine (span_next.calls (kq + 1) _ n unit rest' _ A1.out).mono ?_; rintro e w1 ⟨rfl, hb⟩; have HB1 := Aside0.mk (below_step HB.out hb); clear hb HB)
      | (go_at_call 51; refine (strings_IndexByte.calls _ _ place _ A2.out).mono ?_; rintro e w2 ⟨rfl, ⟨nd, rfl⟩⟩))
    go_step3
    exact span_Parse.fr_use (Pr := fun a_ => J' 0 a_ _) (fun us => H0.out us _ ⟨pw_below_drewN HB1.out _⟩) rfl
  · rw [if_neg c1] at H
    by_cases c2 : 0 ≤ place
    · rw [if_pos c2] at H
      by_cases c3 : place < 3
      · rw [if_pos c3] at H
        obtain ⟨tot, A3, H⟩ := Option.bind_eq_some_iff.mp H
        (try simp only at A3 H)
        have A3 := Aside0.mk A3
        have c1' : last < place := by omega
        clear c1
        have C := Aside0.mk c1'
        have C3 := Aside0.mk c3
        by_cases c4 : rest'.toList = []
        · rw [if_pos c4] at H
          have c4' : rest'.toList.isEmpty = true := by rw [c4]; rfl
          clear c4
          have H' := Option.some.inj H
          clear H h0 h3
          have hp : place = 0 ∨ place = 1 ∨ place = 2 := by omega
          clear c2 c3
          have x0 := fun w => (span_Parse.units w).1
          have x1 := fun w => (span_Parse.units w).2.1
          have x2 := fun w => (span_Parse.units w).2.2
          have H := Aside0.mk H'
          clear H'
          by_cases c5 : 1125899906842624 < tot
          · have F := Aside0.mk ((span_Parse.fin_over c4' c5).symm.trans H.out)
            rcases hp with rfl | rfl | rfl
            all_goals
              simp only [span_Parse.unit0, span_Parse.unit1, span_Parse.unit2] at A3
              go_wp2_with (first
              | (go_at_call 49; refine (span_next.calls (kq + 1) _ n unit rest' _ A1.out).mono ?_; rintro e w1 ⟨rfl, hb⟩; have HB1 := Aside0.mk (below_step HB.out hb); clear hb HB)
              | (go_at_call 51; refine (strings_IndexByte.calls _ _ _ _ A2.out).mono ?_; rintro e w2 ⟨rfl, ⟨nd, rfl⟩⟩)
              | (go_at_call 50; refine (span_more.calls total n _ tot _ A3.out).mono ?_; rintro e w3 ⟨rfl, ⟨nd3, rfl⟩⟩))
              go_step3
              go_wp2
              rw [jumps_ret]
              go_ret2
              exact ⟨span_Parse.pair F.out, pw_below_drewN HB1.out _⟩
          · have c5' : tot ≤ 1125899906842624 := by omega
            have F := Aside0.mk ((span_Parse.fin_in c4' c5').symm.trans H.out)
            rcases hp with rfl | rfl | rfl
            all_goals
              simp only [span_Parse.unit0, span_Parse.unit1, span_Parse.unit2] at A3
              go_wp2_with (first
              | (go_at_call 49; refine (span_next.calls (kq + 1) _ n unit rest' _ A1.out).mono ?_; rintro e w1 ⟨rfl, hb⟩; have HB1 := Aside0.mk (below_step HB.out hb); clear hb HB)
              | (go_at_call 51; refine (strings_IndexByte.calls _ _ _ _ A2.out).mono ?_; rintro e w2 ⟨rfl, ⟨nd, rfl⟩⟩)
              | (go_at_call 50; refine (span_more.calls total n _ tot _ A3.out).mono ?_; rintro e w3 ⟨rfl, ⟨nd3, rfl⟩⟩))
              go_step3
              go_wp2
              rw [jumps_ret]
              go_ret2
              exact ⟨span_Parse.pair F.out, pw_below_drewN HB1.out _⟩
        · rw [if_neg c4] at H
          have c4' : rest'.toList.isEmpty = false := by simpa using c4
          have c4'' : (!rest'.toList.isEmpty) = true := by rw [c4']; rfl
          clear c4
          have A := Aside0.mk H
          have H3 := Aside0.mk h3
          clear H h0 h3
          have hp : place = 0 ∨ place = 1 ∨ place = 2 := by omega
          clear c2 c3
          have x0 := fun w => (span_Parse.units w).1
          have x1 := fun w => (span_Parse.units w).2.1
          have x2 := fun w => (span_Parse.units w).2.2
          rcases hp with rfl | rfl | rfl
          all_goals
            simp only [span_Parse.unit0, span_Parse.unit1, span_Parse.unit2] at A3
            go_wp2_with (first
              | (go_at_call 49; refine (span_next.calls (kq + 1) _ n unit rest' _ A1.out).mono ?_; rintro e w1 ⟨rfl, hb⟩; have HB1 := Aside0.mk (below_step HB.out hb); clear hb HB)
              | (go_at_call 51; refine (strings_IndexByte.calls _ _ _ _ A2.out).mono ?_; rintro e w2 ⟨rfl, ⟨nd, rfl⟩⟩)
              | (go_at_call 50; refine (span_more.calls total n _ tot _ A3.out).mono ?_; rintro e w3 ⟨rfl, ⟨nd3, rfl⟩⟩))
            go_step3
            exact span_Parse.fr_use (Pr := fun a_ => J' 3 a_ _) (fun us => H3.out kq tot _ rest' us _ C.out C3.out A ⟨pw_below_drewN HB1.out _⟩) rfl
      · rw [if_neg c3] at H
        exact absurd H (by simp)
    · rw [if_neg c2] at H
      exact absurd H (by simp)
set_option maxHeartbeats 2000000 in
set_option maxRecDepth 100000 in
/-- Label time. -/
theorem span_Parse.at_time (J' : Nat → Act → World → Prop) (w0 : World) (kq : Nat) (r1 r2 total : Int) (rest : ByteArray) (us : Nat → Value) (w : World)
    (h0 : r1 = 0 → r2 = 2 → ∀ (us : Nat → Value) (w : World), Aside0 (Below w0.heap.size w0 w) → J' 0 { tmps := #[us 0, us 1, us 2, us 3, us 4, us 5, us 6, us 7, us 8, us 9, us 10, us 11, us 12, us 13, us 14, us 15, us 16, us 17, us 18, us 19, us 20, us 21, us 22, us 23, us 24, us 25, us 26, us 27, us 28, us 29, us 30, us 31, us 32, us 33, us 34, us 35, us 36, us 37, us 38, us 39, us 40, us 41, us 42, us 43, us 44, us 45, us 46, us 47, us 48, us 49, us 50, us 51, us 52, us 53, us 54, us 55, us 56, us 57, us 58, us 59, us 60, us 61, us 62, us 63, us 64, us 65, us 66, us 67, us 68, us 69, us 70, us 71, us 72, us 73], defers := [] } w)
    (h3 : ∀ (kq : Nat) (total last' : Int) (rest : ByteArray) (us : Nat → Value) (w : World), -1 < last' → last' < 3 → Aside0 (span_Parse.part kq rest total last' = some (r1, r2)) → Aside0 (Below w0.heap.size w0 w) → J' 3 { tmps := #[us 0, us 1, us 2, us 3, .int .u64 total, us 5, us 6, us 7, .int .i64 last', .string rest, us 10, us 11, us 12, us 13, us 14, us 15, us 16, us 17, us 18, us 19, us 20, us 21, us 22, us 23, us 24, us 25, us 26, us 27, us 28, us 29, us 30, us 31, us 32, us 33, us 34, us 35, us 36, us 37, us 38, us 39, us 40, us 41, us 42, us 43, us 44, us 45, us 46, us 47, us 48, us 49, us 50, us 51, us 52, us 53, us 54, us 55, us 56, us 57, us 58, us 59, us 60, us 61, us 62, us 63, us 64, us 65, us 66, us 67, us 68, us 69, us 70, us 71, us 72, us 73], defers := [] } w)
    (A : Aside0 (span_Parse.time kq rest total = some (r1, r2))) (HB : Aside0 (Below w0.heap.size w0 w)) :
    (span_Parse.code 1).wp Tryz.prog (jumps J' (bodyPost Tryz.prog Tryz.f32 (span_Parse.post w0 r1 r2))) { tmps := #[us 0, us 1, us 2, us 3, .int .u64 total, us 5, us 6, us 7, .int .i64 (-1), .string rest, us 10, us 11, us 12, us 13, us 14, us 15, us 16, us 17, us 18, us 19, us 20, us 21, us 22, us 23, us 24, us 25, us 26, us 27, us 28, us 29, us 30, us 31, us 32, us 33, us 34, us 35, us 36, us 37, us 38, us 39, us 40, us 41, us 42, us 43, us 44, us 45, us 46, us 47, us 48, us 49, us 50, us 51, us 52, us 53, us 54, us 55, us 56, us 57, us 58, us 59, us 60, us 61, us 62, us 63, us 64, us 65, us 66, us 67, us 68, us 69, us 70, us 71, us 72, us 73], defers := [] } w := by
  have H := A.out
  clear A
  refine span_Parse.conv rfl ?_
  unfold span_Parse.time at H
  obtain ⟨⟨c, ok⟩, A1, H⟩ := Option.bind_eq_some_iff.mp H
  have A1 := Aside0.mk A1
  have H0 := Aside0.mk h0
  have H3 := Aside0.mk h3
  clear h0 h3
  cases ok with
  | true =>
    have A : Aside0 (span_Parse.part kq c total (-1) = some (r1, r2)) := ⟨by simpa using H⟩
    clear H
    go_wp2_with (first
      | (go_at_call 47; refine (strings_CutPrefix.calls _ _ c true _ A1.out).mono ?_; rintro e w1 ⟨rfl, ⟨nd, rfl⟩⟩))
    go_step3
    rename_i K hK
    refine hK _ _ ?_
    exact span_Parse.fr_use (Pr := fun a_ => Code.wp Tryz.prog _ _ a_ _) (fun us => span_Parse.at_part J' w0 kq r1 r2 total (-1) c us _ H0.out H3.out (by decide) A ⟨pw_below_drewN HB.out _⟩) rfl
  | false =>
    obtain ⟨rfl, rfl⟩ : (0 : Int) = r1 ∧ (2 : Int) = r2 := by simpa using H
    have H0' := Aside0.mk (H0.out rfl rfl)
    clear H H0
    go_wp2_with (first
      | (go_at_call 47; refine (strings_CutPrefix.calls _ _ c false _ A1.out).mono ?_; rintro e w1 ⟨rfl, ⟨nd, rfl⟩⟩))
    go_step3
    exact span_Parse.fr_use (Pr := fun a_ => J' 0 a_ _) (fun us => H0'.out us _ ⟨pw_below_drewN HB.out _⟩) rfl
theorem span_Parse.J0 {w0 : World} {r1 r2 : Int} (h1 : r1 = 0) (h2 : r2 = 2) (us : Nat → Value) (w : World) (HB : Aside0 (Below w0.heap.size w0 w)) : span_Parse.J w0 r1 r2 0 { tmps := #[us 0, us 1, us 2, us 3, us 4, us 5, us 6, us 7, us 8, us 9, us 10, us 11, us 12, us 13, us 14, us 15, us 16, us 17, us 18, us 19, us 20, us 21, us 22, us 23, us 24, us 25, us 26, us 27, us 28, us 29, us 30, us 31, us 32, us 33, us 34, us 35, us 36, us 37, us 38, us 39, us 40, us 41, us 42, us 43, us 44, us 45, us 46, us 47, us 48, us 49, us 50, us 51, us 52, us 53, us 54, us 55, us 56, us 57, us 58, us 59, us 60, us 61, us 62, us 63, us 64, us 65, us 66, us 67, us 68, us 69, us 70, us 71, us 72, us 73], defers := [] } w :=
  .inl ⟨rfl, ⟨h1, h2⟩, HB, us, rfl⟩
theorem span_Parse.J2 {w0 : World} {r1 r2 : Int} {total : Int} {rest : ByteArray} (A : Aside0 (span_Parse.fin total rest = (r1, r2))) (us : Nat → Value) (w : World) (HB : Aside0 (Below w0.heap.size w0 w)) : span_Parse.J w0 r1 r2 2 { tmps := #[us 0, us 1, us 2, us 3, .int .u64 total, us 5, us 6, us 7, us 8, .string rest, us 10, us 11, us 12, us 13, us 14, us 15, us 16, us 17, us 18, us 19, us 20, us 21, us 22, us 23, us 24, us 25, us 26, us 27, us 28, us 29, us 30, us 31, us 32, us 33, us 34, us 35, us 36, us 37, us 38, us 39, us 40, us 41, us 42, us 43, us 44, us 45, us 46, us 47, us 48, us 49, us 50, us 51, us 52, us 53, us 54, us 55, us 56, us 57, us 58, us 59, us 60, us 61, us 62, us 63, us 64, us 65, us 66, us 67, us 68, us 69, us 70, us 71, us 72, us 73], defers := [] } w :=
  .inr (.inl ⟨rfl, total, rest, A, HB, us, rfl⟩)
theorem span_Parse.J1 {w0 : World} {r1 r2 : Int} {kq : Nat} {total : Int} {rest : ByteArray} (A : Aside0 (span_Parse.time kq rest total = some (r1, r2))) (us : Nat → Value) (w : World) (HB : Aside0 (Below w0.heap.size w0 w)) : span_Parse.J w0 r1 r2 1 { tmps := #[us 0, us 1, us 2, us 3, .int .u64 total, us 5, us 6, us 7, .int .i64 (-1), .string rest, us 10, us 11, us 12, us 13, us 14, us 15, us 16, us 17, us 18, us 19, us 20, us 21, us 22, us 23, us 24, us 25, us 26, us 27, us 28, us 29, us 30, us 31, us 32, us 33, us 34, us 35, us 36, us 37, us 38, us 39, us 40, us 41, us 42, us 43, us 44, us 45, us 46, us 47, us 48, us 49, us 50, us 51, us 52, us 53, us 54, us 55, us 56, us 57, us 58, us 59, us 60, us 61, us 62, us 63, us 64, us 65, us 66, us 67, us 68, us 69, us 70, us 71, us 72, us 73], defers := [] } w :=
  .inr (.inr (.inl ⟨rfl, kq, total, rest, A, HB, us, rfl⟩))
theorem span_Parse.J3 {w0 : World} {r1 r2 : Int} {kq : Nat} {total last' : Int} {rest : ByteArray} (hl : -1 ≤ last' ∧ last' < 3) (A : Aside0 (span_Parse.part kq rest total last' = some (r1, r2))) (us : Nat → Value) (w : World) (HB : Aside0 (Below w0.heap.size w0 w)) : span_Parse.J w0 r1 r2 3 { tmps := #[us 0, us 1, us 2, us 3, .int .u64 total, us 5, us 6, us 7, .int .i64 last', .string rest, us 10, us 11, us 12, us 13, us 14, us 15, us 16, us 17, us 18, us 19, us 20, us 21, us 22, us 23, us 24, us 25, us 26, us 27, us 28, us 29, us 30, us 31, us 32, us 33, us 34, us 35, us 36, us 37, us 38, us 39, us 40, us 41, us 42, us 43, us 44, us 45, us 46, us 47, us 48, us 49, us 50, us 51, us 52, us 53, us 54, us 55, us 56, us 57, us 58, us 59, us 60, us 61, us 62, us 63, us 64, us 65, us 66, us 67, us 68, us 69, us 70, us 71, us 72, us 73], defers := [] } w :=
  .inr (.inr (.inr ⟨rfl, kq, total, last', rest, hl, A, HB, us, rfl⟩))
set_option maxRecDepth 100000 in
theorem span_Parse.pass (w : World) (r1 r2 : Int) (l : Nat) (a : Act) (w' : World) (hJ : span_Parse.J w r1 r2 l a w') :
    ∃ r, findLabel span_Parse.body l = some r ∧ r.wp Tryz.prog (jumps (fun l' a' w'' => span_Parse.J w r1 r2 l' a' w'' ∧ span_Parse.μ l' a' w'' < span_Parse.μ l a w') (bodyPost Tryz.prog Tryz.f32 (span_Parse.post w r1 r2))) a w' := by
  rcases hJ with ⟨rfl, ⟨rfl, rfl⟩, HB, us, rfl⟩ | ⟨rfl, total, rest, A, HB, us, rfl⟩ | ⟨rfl, kq, total, rest, A, HB, us, rfl⟩ | ⟨rfl, kq, total, last, rest, hl, A, HB, us, rfl⟩
  · exact ⟨_, span_Parse.has 0 (by omega), span_Parse.skipped (span_Parse.at_wrong _ w w' us HB)⟩
  · exact ⟨_, span_Parse.has 2 (by omega), span_Parse.skipped (span_Parse.at_end _ w w' r1 r2 total rest us A HB)⟩
  · refine ⟨_, span_Parse.has 1 (by omega), span_Parse.skipped (span_Parse.at_time _ w kq r1 r2 total rest us w' (fun h1 h2 us2 w2 HB2 => ⟨span_Parse.J0 h1 h2 us2 w2 HB2, (show 0 < 10 by omega)⟩) (fun kq2 t2 l2 rest2 us2 w2 h1 h2 A2 HB2 => ⟨span_Parse.J3 ⟨by omega, h2⟩ A2 us2 w2 HB2, ?_⟩) A HB)⟩
    show (3 - l2).toNat + 1 < 10
    omega
  · refine ⟨_, span_Parse.has 3 (by omega), span_Parse.skipped (span_Parse.at_part _ w kq r1 r2 total last rest us w' (fun h1 h2 us2 w2 HB2 => ⟨span_Parse.J0 h1 h2 us2 w2 HB2, ?_⟩) (fun kq2 t2 l2 rest2 us2 w2 h1 h2 A2 HB2 => ⟨span_Parse.J3 ⟨by omega, h2⟩ A2 us2 w2 HB2, ?_⟩) hl.1 A HB)⟩
    · show 0 < (3 - last).toNat + 1
      omega
    · show (3 - l2).toNat + 1 < (3 - last).toNat + 1
      omega
set_option maxHeartbeats 2000000 in
set_option maxRecDepth 100000 in
theorem span_Parse.calls (k : Nat) (a0 : ByteArray) (r1 : Int) (r2 : Int) (w : World) (h : span_Parse.f k a0 = some (r1, r2)) :
    Calls Tryz.prog 32 #[.string a0] w fun e w' => e = .returned (.tuple #[.int .u64 r1, .int .i64 r2]) ∧ Below w.heap.size w w' := by
  have H := h
  clear h
  unfold span_Parse.f at H
  obtain ⟨⟨s1, ok⟩, A1, H⟩ := Option.bind_eq_some_iff.mp H
  have A1 := Aside0.mk A1
  have HB := Aside0.mk (Below.refl w.heap.size w)
  cases ok with
  | false =>
    obtain ⟨rfl, rfl⟩ : (0 : Int) = r1 ∧ (2 : Int) = r2 := by simpa using H
    clear H
    go_enter Tryz.func32, Tryz.ntmps32
    go_wp2
    refine wp_scope_labels (span_Parse.J w 0 2) span_Parse.μ ?_ (span_Parse.pass w 0 2)
    go_wp2_with (first
      | (go_at_call 47; refine (strings_CutPrefix.calls _ _ s1 false _ A1.out).mono ?_; rintro e w1 ⟨rfl, ⟨nd, rfl⟩⟩))
    go_step3
    exact span_Parse.fr_use (Pr := fun a_ => span_Parse.J w 0 2 0 a_ _) (fun us => span_Parse.J0 rfl rfl us _ ⟨pw_below_drewN HB.out _⟩) rfl
  | true =>
    rw [if_pos rfl] at H
    obtain ⟨t, A2, H⟩ := Option.bind_eq_some_iff.mp H
    (try simp only at A2 H)
    have A2 := Aside0.mk A2
    cases t with
    | true =>
      rw [if_pos rfl] at H
      have A3 := Aside0.mk H
      clear H
      go_enter Tryz.func32, Tryz.ntmps32
      go_wp2
      refine wp_scope_labels (span_Parse.J w r1 r2) span_Parse.μ ?_ (span_Parse.pass w r1 r2)
      go_wp2_with (first
        | (go_at_call 47; refine (strings_CutPrefix.calls _ _ s1 true _ A1.out).mono ?_; rintro e w1 ⟨rfl, ⟨nd, rfl⟩⟩)
        | (go_at_call 48; refine (strings_HasPrefix.calls _ _ true _ A2.out).mono ?_; rintro e w1 ⟨rfl, ⟨nd, rfl⟩⟩))
      go_step3
      exact span_Parse.fr_use (Pr := fun a_ => span_Parse.J w r1 r2 1 a_ _) (fun us => span_Parse.J1 A3 us _ ⟨pw_below_drewN HB.out _⟩) rfl
    | false =>
      rw [if_neg (by decide)] at H
      obtain ⟨⟨n, unit, rest⟩, A3, H⟩ := Option.bind_eq_some_iff.mp H
      have A3 := Aside0.mk A3
      (try simp only at H)
      by_cases c1 : unit = 89 ∨ unit = 77
      · rw [if_pos c1] at H
        obtain ⟨rfl, rfl⟩ : (0 : Int) = r1 ∧ (4 : Int) = r2 := by simpa using H
        clear H
        rcases c1 with rfl | rfl
        all_goals
          go_enter Tryz.func32, Tryz.ntmps32
          go_wp2
          refine wp_scope_labels (span_Parse.J w 0 4) span_Parse.μ ?_ (span_Parse.pass w 0 4)
          go_wp2_with (first
            | (go_at_call 47; refine (strings_CutPrefix.calls _ _ s1 true _ A1.out).mono ?_; rintro e w1 ⟨rfl, ⟨nd, rfl⟩⟩)
            | (go_at_call 48; refine (strings_HasPrefix.calls _ _ false _ A2.out).mono ?_; rintro e w1 ⟨rfl, ⟨nd, rfl⟩⟩)
            | (go_at_call 49; refine (span_next.calls k _ n _ rest _ A3.out).mono ?_; rintro e w1 ⟨rfl, hb⟩; have HB1 := Aside0.mk (below_step (pw_below_drewN HB.out _) hb); clear hb HB))
          rw [jumps_ret]
          go_ret2
          exact ⟨rfl, HB1.out⟩
      · rw [if_neg c1] at H
        have c89 : (unit == 89) = false := beq_eq_false_iff_ne.mpr (fun e => c1 (.inl e))
        have c77 : (unit == 77) = false := beq_eq_false_iff_ne.mpr (fun e => c1 (.inr e))
        clear c1
        by_cases c2 : unit = 87
        · rw [if_pos c2] at H
          subst c2
          obtain ⟨tot, A4, H⟩ := Option.bind_eq_some_iff.mp H
          have A4 := Aside0.mk A4
          have A5 := Aside0.mk (Option.some.inj H)
          clear H c89 c77
          go_enter Tryz.func32, Tryz.ntmps32
          go_wp2
          refine wp_scope_labels (span_Parse.J w r1 r2) span_Parse.μ ?_ (span_Parse.pass w r1 r2)
          go_wp2_with (first
            | (go_at_call 47; refine (strings_CutPrefix.calls _ _ s1 true _ A1.out).mono ?_; rintro e w1 ⟨rfl, ⟨nd, rfl⟩⟩)
            | (go_at_call 48; refine (strings_HasPrefix.calls _ _ false _ A2.out).mono ?_; rintro e w1 ⟨rfl, ⟨nd, rfl⟩⟩)
            | (go_at_call 49; refine (span_next.calls k _ n _ rest _ A3.out).mono ?_; rintro e w1 ⟨rfl, hb⟩; have HB1 := Aside0.mk (below_step (pw_below_drewN HB.out _) hb); clear hb HB)
            | (go_at_call 50; refine (span_more.calls 0 n _ tot _ A4.out).mono ?_; rintro e w3 ⟨rfl, ⟨nd3, rfl⟩⟩))
          go_step3
          exact span_Parse.fr_use (Pr := fun a_ => span_Parse.J w r1 r2 2 a_ _) (fun us => span_Parse.J2 A5 us _ ⟨pw_below_drewN HB1.out _⟩) rfl
        · rw [if_neg c2] at H
          have c87 : (unit == 87) = false := beq_eq_false_iff_ne.mpr c2
          clear c2
          by_cases c3 : unit = 68
          · rw [if_pos c3] at H
            subst c3
            obtain ⟨tot, A4, H⟩ := Option.bind_eq_some_iff.mp H
            have A4 := Aside0.mk A4
            clear c89 c77 c87
            by_cases c4 : rest.toList = []
            · rw [if_pos c4] at H
              have c4' : rest.toList.isEmpty = true := by rw [c4]; rfl
              clear c4
              have A5 := Aside0.mk (Option.some.inj H)
              clear H
              go_enter Tryz.func32, Tryz.ntmps32
              go_wp2
              refine wp_scope_labels (span_Parse.J w r1 r2) span_Parse.μ ?_ (span_Parse.pass w r1 r2)
              go_wp2_with (first
                | (go_at_call 47; refine (strings_CutPrefix.calls _ _ s1 true _ A1.out).mono ?_; rintro e w1 ⟨rfl, ⟨nd, rfl⟩⟩)
                | (go_at_call 48; refine (strings_HasPrefix.calls _ _ false _ A2.out).mono ?_; rintro e w1 ⟨rfl, ⟨nd, rfl⟩⟩)
                | (go_at_call 49; refine (span_next.calls k _ n _ rest _ A3.out).mono ?_; rintro e w1 ⟨rfl, hb⟩; have HB1 := Aside0.mk (below_step (pw_below_drewN HB.out _) hb); clear hb HB)
                | (go_at_call 50; refine (span_more.calls 0 n _ tot _ A4.out).mono ?_; rintro e w3 ⟨rfl, ⟨nd3, rfl⟩⟩))
              go_step3
              exact span_Parse.fr_use (Pr := fun a_ => span_Parse.J w r1 r2 2 a_ _) (fun us => span_Parse.J2 A5 us _ ⟨pw_below_drewN HB1.out _⟩) rfl
            · rw [if_neg c4] at H
              have c4' : rest.toList.isEmpty = false := by simpa using c4
              clear c4
              have A5 := Aside0.mk H
              clear H
              go_enter Tryz.func32, Tryz.ntmps32
              go_wp2
              refine wp_scope_labels (span_Parse.J w r1 r2) span_Parse.μ ?_ (span_Parse.pass w r1 r2)
              go_wp2_with (first
                | (go_at_call 47; refine (strings_CutPrefix.calls _ _ s1 true _ A1.out).mono ?_; rintro e w1 ⟨rfl, ⟨nd, rfl⟩⟩)
                | (go_at_call 48; refine (strings_HasPrefix.calls _ _ false _ A2.out).mono ?_; rintro e w1 ⟨rfl, ⟨nd, rfl⟩⟩)
                | (go_at_call 49; refine (span_next.calls k _ n _ rest _ A3.out).mono ?_; rintro e w1 ⟨rfl, hb⟩; have HB1 := Aside0.mk (below_step (pw_below_drewN HB.out _) hb); clear hb HB)
                | (go_at_call 50; refine (span_more.calls 0 n _ tot _ A4.out).mono ?_; rintro e w3 ⟨rfl, ⟨nd3, rfl⟩⟩))
              go_step3
              rename_i K hK
              refine hK _ _ ?_
              exact span_Parse.fr_use (Pr := fun a_ => Code.wp Tryz.prog _ _ a_ _) (fun us => span_Parse.at_time _ w k r1 r2 tot rest us _ (fun h1 h2 us2 w2 HB2 => span_Parse.J0 h1 h2 us2 w2 HB2) (fun kq2 t2 l2 rest2 us2 w2 h1 h2 A2 HB2 => span_Parse.J3 ⟨by omega, h2⟩ A2 us2 w2 HB2) A5 ⟨pw_below_drewN HB1.out _⟩) rfl
          · rw [if_neg c3] at H
            have c68 : (unit == 68) = false := beq_eq_false_iff_ne.mpr c3
            clear c3
            obtain ⟨rfl, rfl⟩ : (0 : Int) = r1 ∧ (2 : Int) = r2 := by simpa using H
            clear H
            go_enter Tryz.func32, Tryz.ntmps32
            go_wp2
            refine wp_scope_labels (span_Parse.J w 0 2) span_Parse.μ ?_ (span_Parse.pass w 0 2)
            go_wp2_with (first
              | (go_at_call 47; refine (strings_CutPrefix.calls _ _ s1 true _ A1.out).mono ?_; rintro e w1 ⟨rfl, ⟨nd, rfl⟩⟩)
              | (go_at_call 48; refine (strings_HasPrefix.calls _ _ false _ A2.out).mono ?_; rintro e w1 ⟨rfl, ⟨nd, rfl⟩⟩)
              | (go_at_call 49; refine (span_next.calls k _ n _ rest _ A3.out).mono ?_; rintro e w1 ⟨rfl, hb⟩; have HB1 := Aside0.mk (below_step (pw_below_drewN HB.out _) hb); clear hb HB))
            go_step3
            exact span_Parse.fr_use (Pr := fun a_ => span_Parse.J w 0 2 0 a_ _) (fun us => span_Parse.J0 rfl rfl us _ ⟨HB1.out⟩) rfl
end Go.Proofs.YtflnkchpfbcgiaaGreatDoor.Q
