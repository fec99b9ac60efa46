/- Plain laws, part E: OrdersLeft comes to true. By an AI agent of this work. -/
import Derived.Test.YtflnkchpfbcgiaaDoorPC
import Derived.Test.YtflnkchpfbcgiaaDoorQx9
namespace Go.Proofs.YtflnkchpfbcgiaaDoor.Q
open Go.RowKit Go.Proofs.YtflnkchpfbcgiaaDoorW.PrintWords Go.Proofs.YtflnkchpfbcgiaaDoorW.PrintLast Go.Proofs.YtflnkchpfbcgiaaDoorW.PrintMore
set_option linter.unusedVariables false
set_option linter.unusedSimpArgs false

/-! ### What Jobs is: its members, in order, each once -/
theorem compact_props (d : Array Int) (hs : ∀ i j, i < j → j < d.size → d[i]! ≤ d[j]!) : ∀ m, m ≤ d.size → (Lib.compactUpTo d m).Pairwise (· < ·) ∧ (∀ x, x ∈ Lib.compactUpTo d m ↔ ∃ j, j < m ∧ d[j]! = x)
  | 0, _ => ⟨by simp [Lib.compactUpTo], fun x => by simp [Lib.compactUpTo]⟩
  | m + 1, h => by
    obtain ⟨ih1, ih2⟩ := compact_props d hs m (by omega)
    rw [Lib.compactUpTo_succ]
    by_cases hk : Lib.keeps d m = true
    · rw [if_pos hk]
      have hlt : ∀ x, x ∈ Lib.compactUpTo d m → x < d[m]! := by
        intro x hx
        obtain ⟨j, hj, rfl⟩ := (ih2 x).1 hx
        unfold Lib.keeps at hk
        rw [decide_eq_true_iff] at hk
        rcases hk with rfl | hk
        · omega
        · have h1 := hs (m - 1) m (by omega) (by omega)
          have h2 : d[j]! ≤ d[m - 1]! := by
            rcases Nat.lt_or_ge j (m - 1) with h3 | h3
            · exact hs j (m - 1) h3 (by omega)
            · have : j = m - 1 := by omega
              rw [this]; exact Int.le_refl _
          omega
      refine ⟨?_, fun x => ?_⟩
      · rw [List.pairwise_append]
        refine ⟨ih1, by simp, fun x hx y hy => ?_⟩
        rw [List.mem_singleton] at hy
        subst hy
        exact hlt x hx
      · rw [List.mem_append, ih2, List.mem_singleton]
        constructor
        · rintro (⟨j, hj, hx⟩ | hx)
          · exact ⟨j, by omega, hx⟩
          · exact ⟨m, by omega, hx.symm⟩
        · rintro ⟨j, hj, hx⟩
          rcases Nat.lt_or_ge j m with h3 | h3
          · exact .inl ⟨j, h3, hx⟩
          · have : j = m := by omega
            subst this
            exact .inr hx.symm
    · rw [if_neg hk, List.append_nil]
      refine ⟨ih1, fun x => ?_⟩
      rw [ih2]
      unfold Lib.keeps at hk
      rw [decide_eq_true_iff] at hk
      constructor
      · rintro ⟨j, hj, hx⟩; exact ⟨j, by omega, hx⟩
      · rintro ⟨j, hj, hx⟩
        rcases Nat.lt_or_ge j m with h3 | h3
        · exact ⟨j, h3, hx⟩
        · have hjm : j = m := by omega
          subst hjm
          have h0 : j ≠ 0 := fun e => hk (.inl e)
          have h4 : d[j]! = d[j - 1]! := Classical.byContradiction fun e => hk (.inr e)
          exact ⟨j - 1, by omega, by rw [← h4]; exact hx⟩
theorem sorted_compact (L : List Int) : (Lib.compact (L.mergeSort fun x y => decide (x ≤ y))).Pairwise (· < ·) ∧ (∀ x, x ∈ Lib.compact (L.mergeSort fun x y => decide (x ≤ y)) ↔ x ∈ L) := by
  have hp := List.pairwise_mergeSort (le := fun (x y : Int) => decide (x ≤ y)) (by intro a b c h1 h2; simp at h1 h2 ⊢; omega) (by intro a b; simp; omega) L
  have hperm := List.mergeSort_perm L (fun (x y : Int) => decide (x ≤ y))
  obtain ⟨S, hS⟩ : ∃ S, L.mergeSort (fun x y => decide (x ≤ y)) = S := ⟨_, rfl⟩
  rw [hS] at hp hperm ⊢
  have hs : ∀ i j, i < j → j < S.toArray.size → S.toArray[i]! ≤ S.toArray[j]! := by
    intro i j hij hj
    have hj' : j < S.length := by simpa using hj
    rw [getElem!_pos S.toArray i (by simp; omega), getElem!_pos S.toArray j hj]
    have := List.pairwise_iff_getElem.1 hp i j (by omega) hj' hij
    simpa using this
  obtain ⟨h1, h2⟩ := compact_props S.toArray hs S.length (by simp)
  refine ⟨h1, fun x => ?_⟩
  rw [← hperm.mem_iff]
  refine (h2 x).trans ⟨?_, ?_⟩
  · rintro ⟨j, hj, rfl⟩
    rw [getElem!_pos S.toArray j (by simpa using hj)]
    simp
  · intro hx
    obtain ⟨j, hj, rfl⟩ := List.getElem_of_mem hx
    exact ⟨j, hj, by rw [getElem!_pos S.toArray j (by simpa using hj)]; simp⟩
theorem strict_ext {a b : List Int} (ha : a.Pairwise (· < ·)) (hb : b.Pairwise (· < ·)) (h : ∀ x, x ∈ a ↔ x ∈ b) : a = b := by
  have na : a.Nodup := ha.imp (fun h => by omega)
  have nb : b.Nodup := hb.imp (fun h => by omega)
  exact List.Perm.eq_of_pairwise (le := (· < ·)) (fun x y _ _ h1 h2 => by omega) ha hb ((List.perm_ext_iff_of_nodup na nb).2 h)
theorem jobsV_strict (l : List S35) : (jobsV l).Pairwise (· < ·) := (sorted_compact _).1
theorem jobsV_mem (l : List S35) (x : Int) : x ∈ jobsV l ↔ x ∈ (keptL 1 l).map (·.f1) := (sorted_compact _).2 x
theorem jobsV_len (l : List S35) : (jobsV l).length ≤ l.length := by
  have hn : (jobsV l).Nodup := (jobsV_strict l).imp (fun h => by omega)
  have h1 : (jobsV l).length ≤ ((keptL 1 l).map (·.f1)).length := List.Nodup.length_le_of_subset hn (fun x hx => (jobsV_mem l x).1 hx)
  have h2 := keptL_length 1 l
  rw [List.length_map] at h1
  omega
theorem keptL_snoc (kind : Int) (l : List S35) (x : S35) : keptL kind (l ++ [x]) = keptStep kind (keptL kind l) x := by
  unfold keptL
  rw [List.foldl_append]; rfl
theorem keptL_away (kind : Int) (hk : ¬ (3 : Int) = kind) (l : List S35) (tok : Int) : keptL kind (l ++ [⟨3, tok, 0, 0, 0⟩]) = (keptL kind l).filter (keepsO tok) := by
  rw [keptL_snoc]
  exact keptStep_away hk rfl
theorem jobs_away (l : List S35) (tok : Int) : jobsV (l ++ [⟨3, tok, 0, 0, 0⟩]) = (jobsV l).filter (fun x => !(x == tok)) := by
  refine strict_ext (jobsV_strict _) ((jobsV_strict l).filter _) (fun x => ?_)
  rw [jobsV_mem, keptL_away 1 (by decide), List.mem_filter, jobsV_mem]
  simp only [List.mem_map, List.mem_filter, keepsO]
  constructor
  · rintro ⟨o, ⟨h1, h2⟩, rfl⟩; exact ⟨⟨o, h1, rfl⟩, h2⟩
  · rintro ⟨⟨o, h1, rfl⟩, h2⟩; exact ⟨o, ⟨h1, h2⟩, rfl⟩
abbrev again2 (tok : Int) : List S35 := [(⟨1, tok, 0, 0, 0⟩ : S35), (⟨2, tok, 3, 0, 0⟩ : S35)]
theorem again_split (l : List S35) (tok : Int) : l ++ again2 tok = (l ++ [⟨1, tok, 0, 0, 0⟩]) ++ [⟨2, tok, 3, 0, 0⟩] := by simp
theorem kept1_again (l : List S35) (tok : Int) : keptL 1 (l ++ again2 tok) = keptL 1 l ++ [⟨1, tok, 0, 0, 0⟩] := by
  rw [again_split, keptL_snoc, keptL_snoc]
  exact (keptStep_none (o := ⟨2, tok, 3, 0, 0⟩) (show ¬ (2 : Int) = 1 by decide) (show ¬ (2 : Int) = 3 by decide)).trans (keptStep_put (o := ⟨1, tok, 0, 0, 0⟩) rfl)
theorem kept2_again (l : List S35) (tok : Int) : keptL 2 (l ++ again2 tok) = keptL 2 l ++ [⟨2, tok, 3, 0, 0⟩] := by
  rw [again_split, keptL_snoc, keptL_snoc]
  exact (keptStep_put (o := ⟨2, tok, 3, 0, 0⟩) rfl).trans (congrArg (· ++ _) (keptStep_none (o := ⟨1, tok, 0, 0, 0⟩) (show ¬ (1 : Int) = 2 by decide) (show ¬ (1 : Int) = 3 by decide)))
theorem jobs_again_len (l : List S35) (tok : Int) (h : tok ∉ jobsV l) : (jobsV (l ++ again2 tok)).length = (jobsV l).length + 1 := by
  have n1 : (jobsV (l ++ again2 tok)).Nodup := (jobsV_strict _).imp (fun h => by omega)
  have n2 : (tok :: jobsV l).Nodup := List.nodup_cons.2 ⟨h, (jobsV_strict l).imp (fun h => by omega)⟩
  have hp := (List.perm_ext_iff_of_nodup n1 n2).2 (fun x => by
    rw [jobsV_mem, kept1_again, List.mem_cons, jobsV_mem, List.map_append, List.mem_append]
    simp
    exact Or.comm)
  rw [hp.length_eq, List.length_cons]
theorem jobs_again_mem (l : List S35) (tok : Int) : tok ∈ jobsV (l ++ again2 tok) := by
  rw [jobsV_mem, kept1_again]; simp

/-! ### OrdersLeft -/
theorem ints_same (l : List Int) (hl : l.length < 1000000) : ∀ n j : Nat, l.length - j = n → Ev (fun k => remontoirkeep_Ints.l0 k l l (j : Int)) true := by
  intro n
  induction n with
  | zero => intro j hn; exact Ev.step (fun k => remontoirkeep_Ints.l0.eq_2 _ _ _ _) (Ev.neg (by omega) (Ev.const rfl))
  | succ n ih =>
    intro j hn
    have hw : wrap64 ((j : Int) + 1) = ((j + 1 : Nat) : Int) := by rw [wrap_in (by omega) (by omega)]; omega
    refine Ev.step (fun k => remontoirkeep_Ints.l0.eq_2 _ _ _ _) (Ev.pos (by omega) (Ev.pos (by omega) (Ev.pos (by omega) (Ev.pos rfl ?_))))
    rw [hw]
    exact ih (j + 1) (by omega)
theorem ints_eq (l l' : List Int) (h : l = l') (hl : l.length < 1000000) : Ev (fun k => remontoirkeep_Ints.f k l l') true := by
  subst h
  exact Ev.congr (fun k => by unfold remontoirkeep_Ints.f; rfl) (Ev.pos rfl (ints_same l hl l.length 0 (by omega)))
theorem wakes_tail2 : Ev (fun k => (remontoirlaw27_wakes.f k).bind fun t => some t) true := Ev.bind wakes_ev (Ev.const rfl)
theorem left_l2 (tok : Int) (b rest : List Int) (d stay : List S35) (e : List Int) (f : List S35) (h1 : b = rest) (h2 : d = stay) (he : tok ∈ e) (hel : e.length = b.length + 1) (hfl : f.length = d.length + 1)
    (hf : (f.getD d.length z35).f1 = tok) (hb : b.length < 1000000) (hd : d.length < 1000000) :
    ∀ n j : Nat, e.length - j = n → j ≤ e.length → Ev (fun k => remontoirlaw27_OrdersLeft.l2 k tok b rest d stay e f ((e.take j).any (· == tok)) (j : Int)) true := by
  intro n
  induction n with
  | zero =>
    intro j hn hj
    obtain rfl : j = e.length := by omega
    have hany : (e.take e.length).any (· == tok) = true := by
      rw [List.take_length, List.any_eq_true]
      exact ⟨tok, he, by simp⟩
    have w1 : wrap64 ((b.length : Int) + 1) = ((b.length + 1 : Nat) : Int) := by rw [wrap_in (by omega) (by omega)]; omega
    have w2 : wrap64 ((d.length : Int) + 1) = ((d.length + 1 : Nat) : Int) := by rw [wrap_in (by omega) (by omega)]; omega
    have w3 : wrap64 ((f.length : Int) - 1) = (d.length : Int) := by rw [wrap_in (by omega) (by omega)]; omega
    refine Ev.step (fun k => remontoirlaw27_OrdersLeft.l2.eq_2 _ _ _ _ _ _ _ _ _ _) (Ev.neg (by omega) (Ev.bind (ints_eq b rest h1 hb) (Ev.pos rfl (Ev.bind (orders_eq d stay h2 hd) (Ev.pos rfl (Ev.pos hany ?_))))))
    rw [w1, w2, w3]
    refine Ev.pos (by omega) (Ev.pos (by omega) (Ev.pos (by omega) (Ev.pos (by omega) (Ev.pos ?_ wakes_tail2))))
    unfold rd_T35
    rw [Int.toNat_natCast]
    exact hf
  | succ n ih =>
    intro j hn hj
    have hw : wrap64 ((j : Int) + 1) = ((j + 1 : Nat) : Int) := by rw [wrap_in (by omega) (by omega)]; omega
    have hnext := ih (j + 1) (by omega) (by omega)
    rw [List.take_succ_eq_append_getElem (by omega), List.any_append] at hnext
    refine Ev.step (fun k => remontoirlaw27_OrdersLeft.l2.eq_2 _ _ _ _ _ _ _ _ _ _) (Ev.pos (by omega) (Ev.ite (fun h => ?_) (fun h => Ev.pos (by omega) ?_)))
    · rw [hw]
      rw [h, Bool.true_or] at hnext
      exact hnext
    · rw [hw]
      rw [Bool.not_eq_true] at h
      rw [h, Bool.false_or] at hnext
      have hrd : rd e (j : Int) = e[j]'(by omega) := by unfold rd; rw [Int.toNat_natCast, List.getD_eq_getElem?_getD, List.getElem?_eq_getElem (by omega)]; rfl
      rw [hrd]
      simpa using hnext
theorem left_l1 (l : List S35) (tok : Int) (hl : l.length ≤ 60) :
    ∀ n j : Nat, (keptL 2 l).length - j = n → j ≤ (keptL 2 l).length → Ev (fun k => remontoirlaw27_OrdersLeft.l1 k tok (l ++ [⟨3, tok, 0, 0, 0⟩]) (jobsV (l ++ [⟨3, tok, 0, 0, 0⟩])) ((jobsV l).filter (fun x => !(x == tok))) (keptL 2 l) (keptL 2 (l ++ [⟨3, tok, 0, 0, 0⟩])) (((keptL 2 l).take j).filter (keepsO tok)) (j : Int)) true := by
  intro n
  have hk := keptL_length 2 l
  induction n with
  | zero =>
    intro j hn hj
    obtain rfl : j = (keptL 2 l).length := by omega
    rw [List.take_length]
    have hj1 := jobs_ev ((l ++ [(⟨3, tok, 0, 0, 0⟩ : S35)]) ++ again2 tok) (by simp; omega)
    have ht1 := timers_f ((l ++ [(⟨3, tok, 0, 0, 0⟩ : S35)]) ++ again2 tok) (by simp; omega)
    have hnm : tok ∉ jobsV (l ++ [⟨3, tok, 0, 0, 0⟩]) := by
      rw [jobs_away, List.mem_filter]
      rintro ⟨_, h⟩
      simp at h
    have e0 : ([] : List S35) ++ (l ++ [(⟨3, tok, 0, 0, 0⟩ : S35)]) = l ++ [(⟨3, tok, 0, 0, 0⟩ : S35)] := List.nil_append _
    have hlb : (jobsV (l ++ [(⟨3, tok, 0, 0, 0⟩ : S35)])).length < 1000000 := by
      have := jobsV_len (l ++ [(⟨3, tok, 0, 0, 0⟩ : S35)])
      simp at this; omega
    have hld : (keptL 2 (l ++ [(⟨3, tok, 0, 0, 0⟩ : S35)])).length < 1000000 := by
      have := keptL_length 2 (l ++ [(⟨3, tok, 0, 0, 0⟩ : S35)])
      simp at this; omega
    refine Ev.step (fun k => remontoirlaw27_OrdersLeft.l1.eq_2 _ _ _ _ _ _ _ _ _) (Ev.neg (by omega) (Ev.bind' rfl (Ev.pos (by simp; omega) (Ev.bind' rfl (Ev.bind' rfl (Ev.pos (by simp; omega) (Ev.bind' rfl (Ev.bind (v := jobsV ((l ++ [(⟨3, tok, 0, 0, 0⟩ : S35)]) ++ again2 tok)) (by rw [e0]; exact hj1) (Ev.bind' (v := keptL 2 ((l ++ [(⟨3, tok, 0, 0, 0⟩ : S35)]) ++ again2 tok)) (by rw [e0]; exact ht1) ?_)))))))))
    refine left_l2 tok _ _ _ _ _ _ (jobs_away l tok) (keptL_away 2 (by decide) l tok) (jobs_again_mem _ _) (jobs_again_len _ _ hnm) (by rw [kept2_again]; simp) ?_ hlb hld _ 0 rfl (Nat.zero_le _)
    rw [kept2_again, List.getD_eq_getElem?_getD, List.getElem?_append_right (Nat.le_refl _), Nat.sub_self]
    rfl
  | succ n ih =>
    intro j hn hj
    have hw : wrap64 ((j : Int) + 1) = ((j + 1 : Nat) : Int) := by rw [wrap_in (by omega) (by omega)]; omega
    have hnext := ih (j + 1) (by omega) (by omega)
    rw [List.take_succ_eq_append_getElem (by omega), List.filter_append] at hnext
    have hrd : rd_T35 (keptL 2 l) (j : Int) = (keptL 2 l)[j]'(by omega) := by unfold rd_T35; rw [Int.toNat_natCast, List.getD_eq_getElem?_getD, List.getElem?_eq_getElem (by omega)]; rfl
    have hfl : (((keptL 2 l).take j).filter (keepsO tok)).length < 3518437208883 := by
      have h1 := List.length_filter_le (keepsO tok) ((keptL 2 l).take j)
      rw [List.length_take] at h1
      omega
    refine Ev.step (fun k => remontoirlaw27_OrdersLeft.l1.eq_2 _ _ _ _ _ _ _ _ _) (Ev.pos (by omega) (Ev.pos (by omega) ?_))
    rw [hw, hrd]
    refine Ev.ite (fun h => ?_) (fun h => Ev.pos hfl ?_)
    · rw [show [(keptL 2 l)[j]'(by omega)].filter (keepsO tok) = [] from by simp [keepsO, h], List.append_nil] at hnext
      exact hnext
    · rw [show [(keptL 2 l)[j]'(by omega)].filter (keepsO tok) = [(keptL 2 l)[j]'(by omega)] from by simp [keepsO, h]] at hnext
      exact hnext
theorem left_l0 (l : List S35) (tok : Int) (hl : l.length ≤ 60) :
    ∀ n j : Nat, (jobsV l).length - j = n → j ≤ (jobsV l).length → Ev (fun k => remontoirlaw27_OrdersLeft.l0 k l tok (l ++ [⟨3, tok, 0, 0, 0⟩]) (jobsV l) (jobsV (l ++ [⟨3, tok, 0, 0, 0⟩])) (((jobsV l).take j).filter (fun x => !(x == tok))) (j : Int)) true := by
  intro n
  have hk := jobsV_len l
  induction n with
  | zero =>
    intro j hn hj
    obtain rfl : j = (jobsV l).length := by omega
    rw [List.take_length]
    exact Ev.step (fun k => remontoirlaw27_OrdersLeft.l0.eq_2 _ _ _ _ _ _ _ _) (Ev.neg (by omega) (Ev.bind' (timers_f l (by omega)) (Ev.bind' (timers_f (l ++ [⟨3, tok, 0, 0, 0⟩]) (by simp; omega)) (left_l1 l tok hl _ 0 rfl (Nat.zero_le _)))))
  | succ n ih =>
    intro j hn hj
    have hw : wrap64 ((j : Int) + 1) = ((j + 1 : Nat) : Int) := by rw [wrap_in (by omega) (by omega)]; omega
    have hnext := ih (j + 1) (by omega) (by omega)
    rw [List.take_succ_eq_append_getElem (by omega), List.filter_append] at hnext
    have hrd : rd (jobsV l) (j : Int) = (jobsV l)[j]'(by omega) := by unfold rd; rw [Int.toNat_natCast, List.getD_eq_getElem?_getD, List.getElem?_eq_getElem (by omega)]; rfl
    have hfl : (((jobsV l).take j).filter (fun x => !(x == tok))).length < 17592186044416 := by
      have h1 := List.length_filter_le (fun x => !(x == tok)) ((jobsV l).take j)
      rw [List.length_take] at h1
      omega
    refine Ev.step (fun k => remontoirlaw27_OrdersLeft.l0.eq_2 _ _ _ _ _ _ _ _) (Ev.pos (by omega) (Ev.pos (by omega) ?_))
    rw [hw, hrd]
    refine Ev.ite (fun h => ?_) (fun h => Ev.pos hfl ?_)
    · rw [show [(jobsV l)[j]'(by omega)].filter (fun x => !(x == tok)) = [] from by simp [h], List.append_nil] at hnext
      exact hnext
    · rw [show [(jobsV l)[j]'(by omega)].filter (fun x => !(x == tok)) = [(jobsV l)[j]'(by omega)] from by simp [h]] at hnext
      exact hnext
theorem left_true (l : List S35) (tok : Int) : ∃ k, remontoirlaw27_OrdersLeft.f k l tok = some true := by
  refine Ev.get (f := fun k => remontoirlaw27_OrdersLeft.f k l tok) ?_
  refine Ev.congr (fun k => by unfold remontoirlaw27_OrdersLeft.f; rfl) (Ev.ite (fun h => wakes_tail2) (fun h => ?_))
  have e0 : ([] : List S35) ++ l = l := List.nil_append _
  refine Ev.bind' rfl (Ev.pos (by simp; omega) (Ev.bind' rfl (Ev.pos (by simp; omega) (Ev.bind' rfl (Ev.bind (jobs_ev l (by omega)) (Ev.bind (v := jobsV (l ++ [⟨3, tok, 0, 0, 0⟩])) ?_ ?_))))))
  · rw [e0]; exact jobs_ev _ (by simp; omega)
  · rw [e0]; exact left_l0 l tok (by omega) _ 0 rfl (Nat.zero_le _)
end Go.Proofs.YtflnkchpfbcgiaaDoor.Q
