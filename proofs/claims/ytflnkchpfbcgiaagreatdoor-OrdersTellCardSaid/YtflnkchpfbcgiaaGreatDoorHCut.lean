/- A cut with its capacity, s[:k:k], and append behind it: what is appended to has no room, so the row is made anew. Two more words for the printed texts. By an AI agent of this work. -/
import Derived.Test.YtflnkchpfbcgiaaGreatDoorWWords
import Derived.ArgAppend
namespace Go.Proofs.YtflnkchpfbcgiaaGreatDoorW.PrintWords
open Go.RowKit
theorem cut_to3 {P : Program} (t e : TypeId) (kh : IntKind) {i : TypeInfo} (ht : P.underlying t = some (.slice e)) (hi : P.info? e = some i) (A : Option Addr) (n c : Nat) (j : Int) (h0 : 0 ≤ j) (hm : j ≤ n) (hc : n ≤ c) :
    ∀ W : World, (Instr.slice t (.slice A n c) none (some (.int kh j)) (some (.int kh j))).run P W = .ok (.slice A j.toNat j.toNat) W := by
  intro W
  have hel : P.elem t = e := by simp [Program.elem, ht]
  have hu : P.underlying t = some (.slice (P.elem t)) := by rw [hel]; exact ht
  have ha : (A.map fun x => x.add 0) = A := by cases A <;> simp [Addr.add]
  rw [run_slice_hm W t A n c hu kh kh j j h0 (Int.le_refl _) (by omega), hel]
  simp [sizeOf, typeInfo, hi, sliced, Result.andThen, ha]
namespace Kd
section
variable {P : Program} {ops : Array Oper} {rest : List Oper} {o : Oper} {a : Act} {Q : Exit → Act → World → Prop} {Kc : Act → World → Prop} {α : Type}
theorem run_append_cut (d : Kd α) {Rr Rs : α → List Value → Prop} {W : World} (base : Nat) (t ty e : TypeId) (z : Value) (bytes : Nat)
    (ht : P.underlying t = some (.slice e)) (hinfo : (P.info? e).map (fun i => (i.zero, i.size, i.bytes)) = some (some z, d.sz, bytes)) (hz : z.cells.size = d.sz) (hs0 : 0 < d.sz) (hb0 : 0 < bytes)
    (A0 : Option Addr) (m0 : Nat) (xs ys : List α) (A : Option Addr) (m c : Nat) (ok okp : Nat → Prop)
    (HX : ReadsRow Rs d.sz W A0 m0 xs) (hKX : ∀ x cs, Rs x cs → d.M W base okp x cs) (HR : ReadsRow Rr d.sz W A m ys) (hKM : ∀ x cs, Rr x cs → d.M W base okp x cs) (hokp : ∀ k, okp k → ok k) (hfresh : ∀ k, W.heap.size ≤ k → ok k)
    (hm0 : 0 < m) (hbase : base ≤ W.heap.size) (hl : (m0 + m) * bytes ≤ 140737488355328) :
    ∃ v1 w1, (Builtin.append_ #[t, t] ty #[.slice A0 m0 m0, .slice A m c]).run P W = .ok v1 w1 ∧ d.R e w1 base ok v1 (xs ++ ys) ∧ W.grownBy w1 (Value.slice none 0 0).ownBlock ∧ (v1.ownBlock = (Value.slice none 0 0).ownBlock ∨ ∃ b, v1.ownBlock = some b ∧ W.heap.size ≤ b) := by
  obtain ⟨i0, hi, hzz⟩ := Option.map_eq_some_iff.1 hinfo
  simp only [Prod.mk.injEq] at hzz
  obtain ⟨hz0, hz1, hz2⟩ := hzz
  have hlen : m0 + m ≤ 140737488355328 := Nat.le_trans (Nat.le_mul_of_pos_right _ hb0) hl
  obtain ⟨ad, rfl, _⟩ := HR.2.2 hm0
  obtain ⟨news, hnr, hnc⟩ := ReadsRow.inner_ HR
  have hnM : Reps (d.M W base okp) d.sz ys news := hnr.imp_ (fun p c hp => hKM p c hp)
  have one : ∀ {qs : List α} {cs : List Value}, Reps (d.M W base okp) d.sz qs cs → ∀ u ∈ cs, u.oneCell' = true := by
    intro qs cs h u hu
    obtain ⟨q, hq, rfl⟩ := List.mem_iff_getElem.1 hu
    have hql : q / d.sz < qs.length := by
      rw [Nat.div_lt_iff_lt_mul hs0]
      rw [← h.1]
      exact hq
    have hc := h.2 (q / d.sz) _ (List.getElem?_eq_getElem hql)
    refine d.K_one (d.K_of_M hc) _ ?_
    rw [List.mem_iff_getElem?]
    refine ⟨q % d.sz, ?_⟩
    rw [List.getElem?_take, if_pos (Nat.mod_lt _ hs0), List.getElem?_drop, Nat.mul_comm, Nat.div_add_mod, List.getElem?_eq_getElem hq]
  have hgoal : ∃ olds v1 w1, Reps (d.M W base okp) d.sz xs olds ∧ (Builtin.append_ #[t, t] ty #[.slice A0 m0 m0, .slice (some ad) m c]).run P W = .ok v1 w1 ∧ w1.ownsRow W.heap.size e d.sz v1 (m0 + m) (olds ++ news) ∧ W.grownBy w1 none := by
    rcases A0 with _ | b
    · have h0 : m0 = 0 := by
        rcases Nat.eq_zero_or_pos m0 with h0 | h0
        · exact h0
        · obtain ⟨b, h, _⟩ := HX.2.2 h0
          cases h
      subst h0
      obtain rfl : xs = [] := List.eq_nil_of_length_eq_zero HX.1
      obtain ⟨v', w', hrun, r1, r2, _⟩ := run_append_own (P := P) W W.heap.size t ty e i0 z d.sz bytes ht hi hz0 hz1 hz2 hz hs0 (.slice none 0 0) 0 [] (World.ownsRow_nil W _ e d.sz) ad m c news (by rw [hnM.1, HR.1]) hnc (one hnM) (by simp only [maxLen]; omega) hl (Nat.le_refl _)
      exact ⟨[], v', w', Reps.none _ _, hrun, r1, r2⟩
    · obtain ⟨olds, hor, hoc⟩ : ∃ olds, Reps Rs d.sz xs olds ∧ ∀ j u, olds[j]? = some u → W.cell? (b.add j) = some u := by
        obtain ⟨olds, h1, h2⟩ := ReadsRow.inner_ HX
        exact ⟨olds, h1, h2⟩
      have hoM : Reps (d.M W base okp) d.sz xs olds := hor.imp_ (fun p c hp => hKX p c hp)
      obtain ⟨v', w', hrun, r1, r2⟩ := run_append_arg_grows (P := P) W t ty e i0 z d.sz bytes ht hi hz0 hz1 hz2 hz hs0 b m0 m0 olds (by rw [hoM.1, HX.1]) hoc ad m c news (by rw [hnM.1, HR.1]) hnc (by omega) (by simp only [maxLen]; omega) hl
      exact ⟨olds, v', w', hoM, hrun, r1, r2⟩
  obtain ⟨olds, v1, w1, hoM, hrun, h2, hg⟩ := hgoal
  have hown : ∀ k, v1.ownBlock = some k → W.heap.size ≤ k := fun k hk => own_base h2 k hk
  have step : ∀ {q : α} {c : List Value}, d.M W base okp q c → d.M w1 base (fun k => ok k ∧ some k ≠ v1.ownBlock) q c := by
    intro q c hq
    have h1 := d.M_move (w1 := w1) (fun k hk => hg.block k hk.2.2.1 (by simp)) (d.M_bound hq)
    exact d.M_mono (fun k hk => ⟨hokp k hk.1, fun e => by have := hown k e.symm; have := hk.2.2.1; omega⟩) h1
  have hbl : ∃ b, v1.ownBlock = some b := by
    rcases h2.2 with ⟨_, hn⟩ | ⟨g, cap, cur, rfl, _⟩
    · omega
    · exact ⟨g, rfl⟩
  obtain ⟨b, hb⟩ := hbl
  refine ⟨v1, w1, hrun, ⟨fun k hk => hfresh k (hown k hk), olds ++ news, ?_, reps_append (hoM.imp_ (fun _ _ hq => step hq)) (hnM.imp_ (fun _ _ hq => step hq))⟩, hg, .inr ⟨b, hb, hown b hb⟩⟩
  rw [List.length_append, HX.1, HR.1]
  obtain ⟨k1, k2⟩ := h2
  refine ⟨k1, ?_⟩
  rcases k2 with k2 | ⟨g, cap, cur, e1, hg1, r⟩
  · exact .inl k2
  · exact .inr ⟨g, cap, cur, e1, Nat.le_trans hbase hg1, r⟩
theorem R_append_cut (d : Kd α) {Rr Rs : α → List Value → Prop} {w0 W : World} (base : Nat) (hgd : o.guard = none) (s x : Operand) (t e : TypeId) (z : Value) (bytes : Nat)
    (ho : o.op = .call { callee := .builtin .append, args := #[s, x], argTypes := #[t, t] })
    (ht : P.underlying t = some (.slice e)) (hinfo : (P.info? e).map (fun i => (i.zero, i.size, i.bytes)) = some (some z, d.sz, bytes)) (hz : z.cells.size = d.sz) (hs0 : 0 < d.sz) (hb0 : 0 < bytes)
    (A0 : Option Addr) (m0 : Nat) (xs ys : List α) (A : Option Addr) (m c : Nat) (ok okp : Nat → Prop) (hs : a.eval s = .slice A0 m0 m0) (hx : a.eval x = .slice A m c)
    (HX : ReadsRow Rs d.sz W A0 m0 xs) (hKX : ∀ x cs, Rs x cs → d.M W base okp x cs) (HR : ReadsRow Rr d.sz W A m ys) (hKM : ∀ x cs, Rr x cs → d.M W base okp x cs) (hokp : ∀ k, okp k → ok k) (hfresh : ∀ k, W.heap.size ≤ k → ok k)
    (hm0 : 0 < m) (HB : Below base w0 W) (hbase : base ≤ W.heap.size) (hl : (m0 + m) * bytes ≤ 140737488355328)
    (h : ∀ v1 w1, d.R e w1 base ok v1 (xs ++ ys) → Below base w0 w1 → W.grownBy w1 (Value.slice none 0 0).ownBlock → (v1.ownBlock = (Value.slice none 0 0).ownBlock ∨ ∃ b, v1.ownBlock = some b ∧ W.heap.size ≤ b) → wpList P ops Q rest (a.put o.dst v1) w1) :
    wpList P ops Q (o :: rest) a W := by
  obtain ⟨v1, w1, hr1, h1, hg, hat⟩ := run_append_cut (P := P) d base t o.type e z bytes ht hinfo hz hs0 hb0 A0 m0 xs ys A m c ok okp HX hKX HR hKM hokp hfresh hm0 hbase hl
  refine wpList_plain hgd fun K hK => ?_
  unfold Oper.wp execOp
  simp only [ho, resolve, invoke, builtin, Sem.run_bind, Sem.run_pure, Result.andThen_ok, List.map_toArray, List.map_cons, List.map_nil, hs, hx, hr1]
  exact hK _ _ (h v1 w1 h1 (HB.grown hg hbase (fun k hk => by simp [Value.ownBlock] at hk)) hg hat)
theorem R_append_cut_step (d : Kd α) {Rr Rs : α → List Value → Prop} {w0 W : World} (base : Nat) (hw : Region.wanted o (yielded ops a.tmps) = true) (s x : Operand) (t e : TypeId) (z : Value) (bytes : Nat)
    (ho : o.op = .call { callee := .builtin .append, args := #[s, x], argTypes := #[t, t] })
    (ht : P.underlying t = some (.slice e)) (hinfo : (P.info? e).map (fun i => (i.zero, i.size, i.bytes)) = some (some z, d.sz, bytes)) (hz : z.cells.size = d.sz) (hs0 : 0 < d.sz) (hb0 : 0 < bytes)
    (A0 : Option Addr) (m0 : Nat) (xs ys : List α) (A : Option Addr) (m c : Nat) (ok okp : Nat → Prop) (hs : a.eval s = .slice A0 m0 m0) (hx : a.eval x = .slice A m c)
    (HX : ReadsRow Rs d.sz W A0 m0 xs) (hKX : ∀ x cs, Rs x cs → d.M W base okp x cs) (HR : ReadsRow Rr d.sz W A m ys) (hKM : ∀ x cs, Rr x cs → d.M W base okp x cs) (hokp : ∀ k, okp k → ok k) (hfresh : ∀ k, W.heap.size ≤ k → ok k)
    (hm0 : 0 < m) (HB : Below base w0 W) (hbase : base ≤ W.heap.size) (hl : (m0 + m) * bytes ≤ 140737488355328)
    (h : ∀ v1 w1, d.R e w1 base ok v1 (xs ++ ys) → Below base w0 w1 → W.grownBy w1 (Value.slice none 0 0).ownBlock → (v1.ownBlock = (Value.slice none 0 0).ownBlock ∨ ∃ b, v1.ownBlock = some b ∧ W.heap.size ≤ b) → Kc (a.put o.dst v1) w1) :
    if Region.wanted o (yielded ops a.tmps) = true then Oper.wp P o a W Kc Q else Kc (a.put o.dst undef) W := by
  obtain ⟨v1, w1, hr1, h1, hg, hat⟩ := run_append_cut (P := P) d base t o.type e z bytes ht hinfo hz hs0 hb0 A0 m0 xs ys A m c ok okp HX hKX HR hKM hokp hfresh hm0 hbase hl
  rw [if_pos hw]
  unfold Oper.wp execOp
  simp only [ho, resolve, invoke, builtin, Sem.run_bind, Sem.run_pure, Result.andThen_ok, List.map_toArray, List.map_cons, List.map_nil, hs, hx, hr1]
  exact h v1 w1 h1 (HB.grown hg hbase (fun k hk => by simp [Value.ownBlock] at hk)) hg hat
end
end Kd
end Go.Proofs.YtflnkchpfbcgiaaGreatDoorW.PrintWords
