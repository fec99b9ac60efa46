/- Plain laws, part M: the document's Jobs and Timers are the program's; OrdersTell comes to true. By an AI agent of this work. -/
import Derived.Test.YtflnkchpfbcgiaaGreatDoorPL
import Derived.Test.YtflnkchpfbcgiaaGreatDoorPI
import Derived.Test.YtflnkchpfbcgiaaGreatDoorQx15
import Derived.Test.YtflnkchpfbcgiaaGreatDoorQx13
import Derived.Test.YtflnkchpfbcgiaaGreatDoorQx14
import Derived.Test.YtflnkchpfbcgiaaGreatDoorQx12
namespace Go.Proofs.YtflnkchpfbcgiaaGreatDoor.Q
open Go.RowKit Go.Proofs.YtflnkchpfbcgiaaGreatDoorW.PrintWords Go.Proofs.YtflnkchpfbcgiaaGreatDoorW.PrintLast Go.Proofs.YtflnkchpfbcgiaaGreatDoorW.PrintMore
set_option linter.unusedVariables false
set_option linter.unusedSimpArgs false
abbrev kills (tok : Int) (y : S48) : Bool := y.f0 == 3 && y.f1 == tok
abbrev at_ (l : List S48) (i : Nat) : S48 := l.getD i z48
/-- Is place i's token taken away behind it, among the first j? -/
def tk (l : List S48) (j i : Nat) : Bool := ((l.take j).drop (i + 1)).any (kills (at_ l i).f1)
def keeps_ (kind : Int) (l : List S48) (j i : Nat) : Bool := (at_ l i).f0 == kind && !(tk l j i)
theorem at_get {l : List S48} {i : Nat} (h : i < l.length) : at_ l i = l[i] := by
  unfold at_; rw [List.getD_eq_getElem?_getD, List.getElem?_eq_getElem h]; rfl
theorem tk_succ {l : List S48} {j i : Nat} (hi : i < j) (hj : j < l.length) : tk l (j + 1) i = (tk l j i || kills (at_ l i).f1 (at_ l j)) := by
  unfold tk
  rw [List.take_succ_eq_append_getElem hj, List.drop_append_of_le_length (by rw [List.length_take]; omega), List.any_append, at_get hj]
  simp
theorem tk_self {l : List S48} {j : Nat} : tk l (j + 1) j = false := by
  unfold tk
  rw [List.drop_of_length_le (by rw [List.length_take]; omega)]
  rfl
theorem filter_congr' {α : Type} {p q : α → Bool} {l : List α} (h : ∀ x ∈ l, p x = q x) : l.filter p = l.filter q := List.filter_congr h
theorem kept_range (kind : Int) (hk : kind ≠ 3) (l : List S48) : ∀ j, j ≤ l.length → keptL kind (l.take j) = ((List.range j).filter (keeps_ kind l j)).map (at_ l)
  | 0, _ => rfl
  | j + 1, h => by
    have hj : j < l.length := by omega
    have ih := kept_range kind hk l j (by omega)
    rw [keptL_take hj, ih, List.range_succ, List.filter_append, List.map_append]
    have hself : keeps_ kind l (j + 1) j = ((at_ l j).f0 == kind) := by unfold keeps_; rw [tk_self]; simp
    show keptStep kind _ (at_ l j) = _
    by_cases c1 : (at_ l j).f0 = kind
    · rw [keptStep_put c1]
      have hs : [j].filter (keeps_ kind l (j + 1)) = [j] := by
        rw [List.filter_cons, hself, c1]; simp
      rw [hs]
      congr 1
      · congr 1
        refine filter_congr' (fun i hi => ?_)
        have hij : i < j := List.mem_range.1 hi
        unfold keeps_
        rw [tk_succ hij hj]
        have : kills (at_ l i).f1 (at_ l j) = false := by
          unfold kills
          have : ((at_ l j).f0 == 3) = false := by rw [beq_eq_false_iff_ne, c1]; exact hk
          rw [this]; rfl
        rw [this, Bool.or_false]
    · have hs : [j].filter (keeps_ kind l (j + 1)) = [] := by
        have : ((at_ l j).f0 == kind) = false := by rw [beq_eq_false_iff_ne]; exact c1
        rw [List.filter_cons, hself, this]; simp
      rw [hs, List.map_nil, List.append_nil]
      by_cases c2 : (at_ l j).f0 = 3
      · rw [keptStep_away c1 c2, List.filter_map, List.filter_filter]
        congr 1
        refine filter_congr' (fun i hi => ?_)
        have hij : i < j := List.mem_range.1 hi
        unfold keeps_
        rw [tk_succ hij hj]
        show (keepsO (at_ l j).f1 (at_ l i) && _) = _
        unfold kills keepsO
        rw [c2]
        have hsym : ((at_ l i).f1 == (at_ l j).f1) = ((at_ l j).f1 == (at_ l i).f1) := by
          rw [Bool.eq_iff_iff, beq_iff_eq, beq_iff_eq]; exact eq_comm
        rw [hsym]
        cases ((at_ l i).f0 == kind) <;> cases (tk l j i) <;> cases ((at_ l j).f1 == (at_ l i).f1) <;> rfl
      · rw [keptStep_none c1 c2]
        congr 1
        refine filter_congr' (fun i hi => ?_)
        have hij : i < j := List.mem_range.1 hi
        unfold keeps_
        rw [tk_succ hij hj]
        have : kills (at_ l i).f1 (at_ l j) = false := by
          unfold kills
          have : ((at_ l j).f0 == 3) = false := by rw [beq_eq_false_iff_ne]; exact c2
          rw [this]; rfl
        rw [this, Bool.or_false]
abbrev keeps1 (kind : Int) (l : List S48) (i : Nat) : Bool := keeps_ kind l l.length i
theorem kept_all (kind : Int) (hk : kind ≠ 3) (l : List S48) : keptL kind l = ((List.range l.length).filter (keeps1 kind l)).map (at_ l) := by
  have := kept_range kind hk l l.length (Nat.le_refl _)
  rw [List.take_length] at this
  exact this
theorem rd_at (l : List S48) (j : Nat) : rd_T48 l (j : Int) = at_ l j := by unfold rd_T48 at_; rw [Int.toNat_natCast]
theorem taken_l0 (l : List S48) (i : Nat) (hi : i < l.length) (hl : l.length < 1000000) : ∀ n j : Nat, l.length - j = n → Ev (fun k => remontoirref27_taken.l0 k l (i : Int) (j : Int)) ((l.drop j).any (kills (at_ l i).f1)) := by
  intro n
  induction n with
  | zero =>
    intro j hn
    rw [List.drop_of_length_le (by omega)]
    exact Ev.step (fun k => remontoirref27_taken.l0.eq_2 _ _ _ _) (Ev.neg (by omega) (Ev.const rfl))
  | succ n ih =>
    intro j hn
    have hj : j < l.length := by omega
    have hw : wrap64 ((j : Int) + 1) = ((j + 1 : Nat) : Int) := by rw [wrap_in (by omega) (by omega)]; omega
    have hnext := ih (j + 1) (by omega)
    rw [List.drop_eq_getElem_cons hj, List.any_cons, ← at_get hj]
    refine Ev.step (fun k => remontoirref27_taken.l0.eq_2 _ _ _ _) (Ev.pos (by omega) (Ev.pos (by omega) ?_))
    rw [rd_at, rd_at, hw]
    refine Ev.ite (fun h => Ev.pos (by omega) (Ev.pos (by omega) (Ev.ite (fun h2 => ?_) (fun h2 => ?_)))) (fun h => ?_)
    · have : kills (at_ l i).f1 (at_ l j) = true := by unfold kills; rw [h, h2]; simp
      rw [this, Bool.true_or]
      exact Ev.const rfl
    · have : kills (at_ l i).f1 (at_ l j) = false := by
        unfold kills
        have : ((at_ l j).f1 == (at_ l i).f1) = false := by rw [beq_eq_false_iff_ne]; exact h2
        rw [this, Bool.and_false]
      rw [this, Bool.false_or]
      exact hnext
    · have : kills (at_ l i).f1 (at_ l j) = false := by
        unfold kills
        have : ((at_ l j).f0 == 3) = false := by rw [beq_eq_false_iff_ne]; exact h
        rw [this, Bool.false_and]
      rw [this, Bool.false_or]
      exact hnext
theorem taken_ev (l : List S48) (i : Nat) (hi : i < l.length) (hl : l.length < 1000000) : Ev (fun k => remontoirref27_taken.f k l (i : Int)) (tk l l.length i) := by
  have hw : wrap64 ((i : Int) + 1) = ((i + 1 : Nat) : Int) := by rw [wrap_in (by omega) (by omega)]; omega
  unfold tk
  rw [List.take_length]
  have := taken_l0 l i hi hl _ (i + 1) rfl
  exact Ev.congr (fun k => by unfold remontoirref27_taken.f; rw [hw]) this
theorem range_filter_len (p : Nat → Bool) (j : Nat) : ((List.range j).filter p).length ≤ j := by
  have := List.length_filter_le p (List.range j)
  rw [List.length_range] at this; exact this
theorem timersR_l0 (l : List S48) (hl : l.length < 1000000) : ∀ n j : Nat, l.length - j = n → j ≤ l.length → Ev (fun k => remontoirref27_Timers.l0 k l (((List.range j).filter (keeps1 2 l)).map (at_ l)) (j : Int)) (keptL 2 l) := by
  intro n
  induction n with
  | zero =>
    intro j hn hj
    obtain rfl : j = l.length := by omega
    rw [kept_all 2 (by decide)]
    exact Ev.step (fun k => remontoirref27_Timers.l0.eq_2 _ _ _ _) (Ev.neg (by omega) (Ev.const rfl))
  | succ n ih =>
    intro j hn hj
    have hjl : j < l.length := by omega
    have hw : wrap64 ((j : Int) + 1) = ((j + 1 : Nat) : Int) := by rw [wrap_in (by omega) (by omega)]; omega
    have hnext := ih (j + 1) (by omega) (by omega)
    rw [List.range_succ, List.filter_append, List.map_append] at hnext
    have hlen := range_filter_len (keeps1 2 l) j
    have hsk : keeps1 2 l j = false → Ev (fun k => remontoirref27_Timers.l0 k l (((List.range j).filter (keeps1 2 l)).map (at_ l)) ((j + 1 : Nat) : Int)) (keptL 2 l) := by
      intro h
      rw [show [j].filter (keeps1 2 l) = [] by rw [List.filter_cons, h]; rfl, List.map_nil, List.append_nil] at hnext
      exact hnext
    refine Ev.step (fun k => remontoirref27_Timers.l0.eq_2 _ _ _ _) (Ev.pos (by omega) (Ev.pos (by omega) ?_))
    rw [rd_at, hw]
    refine Ev.ite (fun h => Ev.bind (taken_ev l j hjl hl) (Ev.ite (fun h2 => ?_) (fun h2 => Ev.pos (by rw [List.length_map]; omega) ?_))) (fun h => ?_)
    · exact hsk (by unfold keeps1 keeps_; rw [h2]; simp)
    · have hk : keeps1 2 l j = true := by
        unfold keeps1 keeps_
        rw [Bool.not_eq_true] at h2
        rw [h2, h]; rfl
      rw [show [j].filter (keeps1 2 l) = [j] by rw [List.filter_cons, hk]; rfl] at hnext
      exact hnext
    · exact hsk (by
        unfold keeps1 keeps_
        have : ((at_ l j).f0 == 2) = false := by rw [beq_eq_false_iff_ne]; exact h
        rw [this, Bool.false_and])
theorem timersR_ev (l : List S48) (hl : l.length < 1000000) : Ev (fun k => remontoirref27_Timers.f k l) (keptL 2 l) :=
  Ev.congr (fun k => by unfold remontoirref27_Timers.f; rfl) (timersR_l0 l hl l.length 0 (by omega) (Nat.zero_le _))
end Go.Proofs.YtflnkchpfbcgiaaGreatDoor.Q
