/- Plain laws, part F: OrdersOne comes to true. By an AI agent of this work. -/
import Derived.Test.YtflnkchpfbcgiaaDoorPC
import Derived.Test.YtflnkchpfbcgiaaDoorQx8
namespace Go.Proofs.YtflnkchpfbcgiaaDoor.Q
open Go.RowKit Go.Proofs.YtflnkchpfbcgiaaDoorW.PrintWords Go.Proofs.YtflnkchpfbcgiaaDoorW.PrintLast Go.Proofs.YtflnkchpfbcgiaaDoorW.PrintMore
set_option linter.unusedVariables false
set_option linter.unusedSimpArgs false
theorem wakes_tail1 : Ev (fun k => (remontoirlaw27_wakes.f k).bind fun t => some t) true := Ev.bind wakes_ev (Ev.const rfl)
theorem oneV_token (ns : List S45) (e : S32) (h : (oneV ns e).length = 1) : (rd_T35 (oneV ns e) 0).f1 = e.f3 := by
  unfold oneV at h ⊢
  repeat' split
  all_goals first | rfl | (simp_all; done)
theorem one_l0 (s0 : ByteArray) (ns : List S45) (es : List S47) (l : List S32) (at_ : Int) (hl : ns.length < 1000000) (hs : ∀ x ∈ ns, x.f4.size < 1000000) (hll : l.length ≤ 60) (h0 : 0 ≤ at_) (h1 : at_ < 256) :
    ∀ n j : Nat, l.length - j = n → j ≤ l.length → Ev (fun k => remontoirlaw27_OrdersOne.l0 k l at_ (ofV ns l) (ofV ns (l.take j)) (j : Int) s0 ns es) true := by
  intro n
  have hol := ofV_len ns l
  induction n with
  | zero =>
    intro j hn hj
    obtain rfl : j = l.length := by omega
    rw [List.take_length]
    have w0 : wrap64 at_ = at_ := wrap_in (by omega) (by omega)
    have w1 : wrap64 ((l.length : Int) + 1) = (l.length : Int) + 1 := wrap_in (by omega) (by omega)
    have m0 : 0 ≤ Int.tmod at_ ((l.length : Int) + 1) := Int.tmod_nonneg _ h0
    have m1 : Int.tmod at_ ((l.length : Int) + 1) < (l.length : Int) + 1 := Int.tmod_lt_of_pos _ (by omega)
    refine Ev.step (fun k => remontoirlaw27_OrdersOne.l0.eq_2 _ _ _ _ _ _ _ _ _) (Ev.neg (by omega) ?_)
    rw [w0, w1]
    obtain ⟨m, hm⟩ : ∃ m : Nat, Int.tmod at_ ((l.length : Int) + 1) = (m : Int) := ⟨_, (Int.toNat_of_nonneg m0).symm⟩
    rw [hm] at m0 m1 ⊢
    have o1 := of_ev s0 ns es (l.take (m : Int).toNat) hl hs (by rw [List.length_take]; omega)
    have o2 := of_ev s0 ns es (l.drop (m : Int).toNat) hl hs (by rw [List.length_drop]; omega)
    have l1 := ofV_len ns (l.take (m : Int).toNat)
    have l2 := ofV_len ns (l.drop (m : Int).toNat)
    rw [List.length_take] at l1
    rw [List.length_drop] at l2
    refine Ev.neg (by omega) (Ev.bind (orders_eq _ _ rfl (by omega)) (Ev.pos rfl (Ev.bind' rfl (Ev.pos (by omega) (Ev.pos (by omega) (Ev.bind o1 (Ev.pos (by simp only [List.length_nil, List.length_append]; omega) (Ev.bind' rfl (Ev.bind o2 (Ev.pos (by simp only [List.length_nil, List.length_append]; omega) (Ev.bind (orders_eq _ _ ?_ (by omega)) (Ev.pos rfl wakes_tail1))))))))))))
    rw [List.nil_append, ← ofV_append, List.take_append_drop]
  | succ n ih =>
    intro j hn hj
    have hw : wrap64 ((j : Int) + 1) = ((j + 1 : Nat) : Int) := by rw [wrap_in (by omega) (by omega)]; omega
    have hnext := ih (j + 1) (by omega) (by omega)
    rw [ofV_take ns l j (by omega)] at hnext
    have hrd : rd_T32 l (j : Int) = l.getD j z32 := by unfold rd_T32; rw [Int.toNat_natCast]
    have ho := of_ev s0 ns es [l.getD j z32] hl hs (by simp)
    rw [ofV_one] at ho
    have hlen := oneV_len ns (l.getD j z32)
    have htl := ofV_len ns (l.take j)
    rw [List.length_take] at htl
    refine Ev.step (fun k => remontoirlaw27_OrdersOne.l0.eq_2 _ _ _ _ _ _ _ _ _) (Ev.pos (by omega) (Ev.pos (by omega) ?_))
    rw [hrd]
    have tail : ∀ b : Bool, b = false → Ev (fun k => remontoirlaw27_OrdersOne.j2 k l at_ (ofV ns l) (ofV ns (l.take j)) (j : Int) (oneV ns (l.getD j z32)) b s0 ns es) true := by
      intro b hb
      refine Ev.step (fun k => remontoirlaw27_OrdersOne.j2.eq_2 _ _ _ _ _ _ _ _ _ _ _) (Ev.neg (by rw [hb]; decide) (Ev.pos (by omega) ?_))
      rw [hw]
      exact hnext
    refine Ev.bind (v := oneV ns (l.getD j z32)) ho (Ev.neg (by omega) (Ev.ite (fun h => Ev.pos (by omega) (tail _ ?_)) (fun h => tail _ rfl)))
    rw [bne_eq_false_iff_eq]
    exact oneV_token ns _ (by omega)
theorem one_true (s0 : ByteArray) (ns : List S45) (es : List S47) (l : List S32) (m : Int) (hm : (Lit.int .u8 m).wf = true) : ∃ k, remontoirlaw27_OrdersOne.f k s0 ns es l m = some true := by
  have hr : 0 ≤ m ∧ m < 256 := by
    simp [Lit.wf, IntKind.min, IntKind.max, IntKind.signed, IntKind.bits] at hm
    omega
  refine Ev.get (f := fun k => remontoirlaw27_OrdersOne.f k s0 ns es l m) ?_
  refine Ev.congr (fun k => by unfold remontoirlaw27_OrdersOne.f; rfl) (Ev.bind (light_ev s0 ns es) (Ev.ite (fun h => ?_) (fun h => ?_)))
  · obtain ⟨hl, hs⟩ := light_open h
    refine Ev.step (fun k => remontoirlaw27_OrdersOne.j0.eq_2 _ _ _ _ _ _ _) (Ev.ite (fun h2 => wakes_tail1) (fun h2 => ?_))
    rw [decide_eq_true_iff] at h2
    exact Ev.bind (of_ev s0 ns es l (by omega) hs (by omega)) (one_l0 s0 ns es l m (by omega) hs (by omega) hr.1 hr.2 l.length 0 (by omega) (Nat.zero_le _))
  · exact Ev.step (fun k => remontoirlaw27_OrdersOne.j0.eq_2 _ _ _ _ _ _ _) (Ev.pos rfl wakes_tail1)
end Go.Proofs.YtflnkchpfbcgiaaDoor.Q
