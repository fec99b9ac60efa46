/- Plain laws, part D: OrdersOne, OrdersLeft and OrdersNone come to true. By an AI agent of this work. -/
import Derived.Test.YtflnkchpfbcgiaaDoorPC
import Derived.Test.YtflnkchpfbcgiaaDoorQx10
namespace Go.Proofs.YtflnkchpfbcgiaaDoor.Q
open Go.RowKit Go.Proofs.YtflnkchpfbcgiaaDoorW.PrintWords Go.Proofs.YtflnkchpfbcgiaaDoorW.PrintLast Go.Proofs.YtflnkchpfbcgiaaDoorW.PrintMore
set_option linter.unusedVariables false
set_option linter.unusedSimpArgs false

/-! ### OrdersNone -/
theorem wakes_tail : Ev (fun k => (remontoirlaw27_wakes.f k).bind fun t => some t) true := Ev.bind wakes_ev (Ev.const rfl)
theorem none_j3 (s0 : ByteArray) (ns : List S45) (es : List S47) (hl : ns.length < 1000000) (hs : ∀ x ∈ ns, x.f4.size < 1000000) (b : Bool) (e0 e1 e2 e3 : Int) (hb : b = decide (e0 = 2 ∨ e0 = 3 ∨ e0 = 4)) :
    Ev (fun k => remontoirlaw27_OrdersNone.j3 k b s0 ns es e0 e1 e2 e3) true := by
  have ho := of_ev s0 ns es [(⟨e0, e1, e2, e3⟩ : S32)] hl hs (by simp)
  have hn := of_ev s0 ns es [] hl hs (by simp)
  have hj := jobs_ev [] (by simp)
  have ht := timers_f [] (by simp)
  rw [ofV_one] at ho
  have hj0 : jobsV [] = [] := by
    unfold jobsV
    rw [show (keptL 1 ([] : List S35)).map (·.f1) = [] from rfl, List.mergeSort_nil]
    rfl
  rw [hj0] at hj
  refine Ev.step (fun k => remontoirlaw27_OrdersNone.j3.eq_2 _ _ _ _ _ _ _ _ _) (Ev.ite (fun h => ?_) (fun h => ?_))
  · rw [hb, decide_eq_true_iff] at h
    refine Ev.bind ho (Ev.pos ?_ wakes_tail)
    unfold oneV
    rcases h with rfl | rfl | rfl <;> rfl
  · rw [hb, decide_eq_true_iff] at h
    have h0 : oneV ns (⟨e0, e1, e2, e3⟩ : S32) = [] := by
      unfold oneV
      rw [if_neg (fun e => h (.inl e)), if_neg (fun e => h (.inr (.inl e))), if_neg (fun e => h (.inr (.inr e)))]
    rw [h0] at ho
    exact Ev.bind ho (Ev.pos rfl (Ev.bind hn (Ev.pos rfl (Ev.bind hj (Ev.pos rfl (Ev.bind' ht (Ev.pos rfl wakes_tail)))))))
theorem none_j2 (s0 : ByteArray) (ns : List S45) (es : List S47) (hl : ns.length < 1000000) (hs : ∀ x ∈ ns, x.f4.size < 1000000) (b : Bool) (e0 e1 e2 e3 : Int) (hb : b = false) :
    Ev (fun k => remontoirlaw27_OrdersNone.j2 k b s0 ns es e0 e1 e2 e3) true := by
  refine Ev.step (fun k => remontoirlaw27_OrdersNone.j2.eq_2 _ _ _ _ _ _ _ _ _) (Ev.neg (by rw [hb]; decide) (Ev.ite (fun h => ?_) (fun h => Ev.ite (fun h2 => ?_) (fun h2 => ?_))))
  · exact none_j3 s0 ns es hl hs _ _ _ _ _ (by subst h; decide)
  · exact none_j3 s0 ns es hl hs _ _ _ _ _ (by subst h2; decide)
  · exact none_j3 s0 ns es hl hs _ _ _ _ _ (by by_cases h3 : e0 = 4 <;> simp [h, h2, h3])
theorem none_j1 (s0 : ByteArray) (ns : List S45) (es : List S47) (hl : ns.length < 1000000) (hs : ∀ x ∈ ns, x.f4.size < 1000000) (n e0 e1 e2 e3 : Int) (hn : ¬ isV ns n) :
    Ev (fun k => remontoirlaw27_OrdersNone.j1 k n s0 ns es e0 e1 e2 e3) true := by
  have ho := of_ev s0 ns es [(⟨2, 0, n, e3⟩ : S32)] hl hs (by simp)
  have hp := of_ev s0 ns es [(⟨3, 0, n, e3⟩ : S32)] hl hs (by simp)
  have o1 : ofV ns [(⟨2, 0, n, e3⟩ : S32)] = [⟨1, e3, n, 0, 0⟩] := by
    rw [ofV_one]
    unfold oneV
    rw [if_pos rfl]
    unfold classV
    rw [if_neg hn]
  have o2 : ofV ns [(⟨3, 0, n, e3⟩ : S32)] = [⟨2, e3, n, 0, 0⟩] := by
    rw [ofV_one]
    unfold oneV
    rw [if_neg (show ¬ ((3 : Int) = 2) from by decide), if_pos rfl]
    unfold ticksV
    rw [if_neg (fun e => hn e.1)]
  rw [o1] at ho
  rw [o2] at hp
  refine Ev.step (fun k => remontoirlaw27_OrdersNone.j1.eq_2 _ _ _ _ _ _ _ _ _) (Ev.bind ho (Ev.bind hp (Ev.pos rfl (Ev.pos (show (0 : Int) < 1 from by decide) (Ev.neg ?_ (Ev.pos rfl (Ev.pos (show (0 : Int) < 1 from by decide) (none_j2 s0 ns es hl hs _ _ _ _ _ ?_))))))))
  · simp [rd_T35]
  · simp [rd_T35]
theorem none_true (s0 : ByteArray) (ns : List S45) (es : List S47) (e0 e1 e2 e3 n : Int) : ∃ k, remontoirlaw27_OrdersNone.f k s0 ns es e0 e1 e2 e3 n = some true := by
  refine Ev.get (f := fun k => remontoirlaw27_OrdersNone.f k s0 ns es e0 e1 e2 e3 n) ?_
  refine Ev.congr (fun k => by unfold remontoirlaw27_OrdersNone.f; rfl) (Ev.bind (light_ev s0 ns es) (Ev.ite (fun h => ?_) (fun h => wakes_tail)))
  obtain ⟨hl, hs⟩ := light_open h
  refine Ev.ite (fun h1 => ?_) (fun h1 => ?_)
  · refine Ev.step (fun k => remontoirlaw27_OrdersNone.j0.eq_2 _ _ _ _ _ _ _ _ _ _) (Ev.ite (fun h2 => ?_) (fun h2 => ?_))
    · refine none_j1 s0 ns es (by omega) hs _ _ _ _ _ ?_
      rw [wrap_in (by omega) (by omega)]
      unfold isV; omega
    · rw [decide_eq_true_iff] at h2
      refine none_j1 s0 ns es (by omega) hs _ _ _ _ _ ?_
      unfold isV; omega
  · refine Ev.step (fun k => remontoirlaw27_OrdersNone.j0.eq_2 _ _ _ _ _ _ _ _ _ _) (Ev.neg (by decide) (none_j1 s0 ns es (by omega) hs _ _ _ _ _ ?_))
    unfold isV; omega
end Go.Proofs.YtflnkchpfbcgiaaDoor.Q
