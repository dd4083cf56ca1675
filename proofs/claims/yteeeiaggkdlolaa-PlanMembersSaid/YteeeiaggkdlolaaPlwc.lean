/- PlanMembers is true of what the printed functions answer. -/
import Derived.Test.YteeeiaggkdlolaaPlx
import Derived.Test.YteeeiaggkdlolaaPl7
namespace Go.Proofs.Yteeeiaggkdlolaa.Pl
set_option linter.unusedVariables false
set_option linter.unusedSimpArgs false
set_option linter.unusedSectionVars false
open Go.RowKit Go.Proofs.YteeeiaggkdlolaaW.PrintWords Go.Proofs.YteeeiaggkdlolaaW.PrintLast Go.Proofs.YteeeiaggkdlolaaW.PrintMore

def scanMin (want : List Int) : List Int → Int → Bool → Int × Bool
  | [], b, f => (b, f)
  | y :: l, b, f => if want.contains y then scanMin want l b f else if f then (if y < b then scanMin want l y true else scanMin want l b f) else scanMin want l y true
theorem scanMin_all (want : List Int) : ∀ (l : List Int) (b : Int) (f : Bool), (∀ y ∈ l, want.contains y = true) → scanMin want l b f = (b, f)
  | [], _, _, _ => rfl
  | y :: l, b, f, h => by
    unfold scanMin
    rw [if_pos (h y List.mem_cons_self)]
    exact scanMin_all want l b f (fun z hz => h z (List.mem_cons_of_mem _ hz))
theorem scanMin_min (want : List Int) (x : Int) (hx : want.contains x = false) : ∀ (l : List Int) (b : Int) (f : Bool), (∀ y ∈ l, want.contains y = false → x ≤ y) → ((x ∈ l ∧ (f = true → x ≤ b)) ∨ (f = true ∧ b = x)) → scanMin want l b f = (x, true)
  | [], b, f, _, h => by
    rcases h with ⟨h, _⟩ | ⟨rfl, rfl⟩
    · cases h
    · rfl
  | y :: l, b, f, hm, h => by
    have hm' : ∀ z ∈ l, want.contains z = false → x ≤ z := fun z hz => hm z (List.mem_cons_of_mem _ hz)
    unfold scanMin
    by_cases hy : want.contains y = true
    · rw [if_pos hy]
      refine scanMin_min want x hx l b f hm' ?_
      rcases h with ⟨h, hb⟩ | h
      · refine .inl ⟨?_, hb⟩
        rcases List.mem_cons.1 h with rfl | h
        · rw [hx] at hy; cases hy
        · exact h
      · exact .inr h
    · rw [if_neg hy]
      have hxy : x ≤ y := hm y List.mem_cons_self (by simpa using hy)
      cases f with
      | true =>
        rw [if_pos rfl]
        by_cases hlt : y < b
        · rw [if_pos hlt]
          refine scanMin_min want x hx l y true hm' ?_
          rcases h with ⟨h, hb⟩ | ⟨_, rfl⟩
          · rcases List.mem_cons.1 h with rfl | h
            · exact .inr ⟨rfl, rfl⟩
            · exact .inl ⟨h, fun _ => hxy⟩
          · omega
        · rw [if_neg hlt]
          refine scanMin_min want x hx l b true hm' ?_
          rcases h with ⟨h, hb⟩ | h
          · have := hb rfl
            rcases List.mem_cons.1 h with rfl | h
            · exact .inr ⟨rfl, by omega⟩
            · exact .inl ⟨h, hb⟩
          · exact .inr h
      | false =>
        rw [if_neg (by decide)]
        refine scanMin_min want x hx l y true hm' ?_
        rcases h with ⟨h, _⟩ | ⟨h, _⟩
        · rcases List.mem_cons.1 h with rfl | h
          · exact .inr ⟨rfl, rfl⟩
          · exact .inl ⟨h, fun _ => hxy⟩
        · cases h

section
variable (n : Int) (m : List S26) (alive : List Int) (a : Int) (c : List Int) (hc : c.length ≤ 40) (hm : m.length ≤ 40) (ha : alive.length ≤ 40)
include hc hm ha
theorem pm_l4 : ∀ (d i k : Nat) (want : List Int) (b : Int) (f : Bool), i + d = alive.length → d + 500 < k → want.length ≤ 80 →
    ∃ k', k ≤ k' + d + 1 ∧ deadeyelaw17_PlanMembers.l4 k n m alive want b f i a c =
      (if (scanMin want (alive.drop i) b f).2 = true then deadeyelaw17_PlanMembers.l3 k' n m alive (want ++ [(scanMin want (alive.drop i) b f).1]) a c
       else if n < 0 then deadeyelaw17_PlanMembers.j6 k' n want (fin n (allOf m c alive)).1 (fin n (allOf m c alive)).2 true else deadeyelaw17_PlanMembers.j6 k' n want (fin n (allOf m c alive)).1 (fin n (allOf m c alive)).2 (decide (n > (want.length : Int))))
  | 0, i, k, want, b, f, hi, hk, hw => by
    obtain ⟨k, rfl, _⟩ := succ_of hk
    refine ⟨k, by omega, ?_⟩
    simp only [deadeyelaw17_PlanMembers.l4]
    rw [if_neg (by omega), List.drop_of_length_le (by omega), members_eq a c n m alive k hc ha (by omega), Option.bind_some]
    have hq : want.length < 17592186044416 := by omega
    simp only [hq, if_true, scanMin]
    try rfl
  | d + 1, i, k, want, b, f, hi, hk, hw => by
    obtain ⟨k, rfl, hk⟩ := succ_of hk
    have hlt : i < alive.length := by omega
    simp only [deadeyelaw17_PlanMembers.l4]
    rw [if_pos (by omega), if_pos (by omega), rd_nat hlt, wr hlt (by omega), in_eq want alive[i] k (by omega) (by omega), Option.bind_some, List.drop_eq_getElem_cons hlt]
    unfold scanMin
    by_cases h : want.contains alive[i] = true
    · obtain ⟨k', h1, h2⟩ := pm_l4 d (i + 1) k want b f (by omega) (by omega) hw
      refine ⟨k', by omega, ?_⟩
      simp only [h, if_true]
      exact h2
    · cases f with
      | true =>
        by_cases hb : alive[i] < b
        · obtain ⟨k', h1, h2⟩ := pm_l4 d (i + 1) k want alive[i] true (by omega) (by omega) hw
          refine ⟨k', by omega, ?_⟩
          simp only [h, hb, if_true, if_false]
          exact h2
        · obtain ⟨k', h1, h2⟩ := pm_l4 d (i + 1) k want b true (by omega) (by omega) hw
          refine ⟨k', by omega, ?_⟩
          simp only [h, hb, if_true, if_false]
          exact h2
      | false =>
        obtain ⟨k', h1, h2⟩ := pm_l4 d (i + 1) k want alive[i] true (by omega) (by omega) hw
        refine ⟨k', by omega, ?_⟩
        simp only [h, if_false, Bool.false_eq_true]
        exact h2
theorem pm_end (k : Nat) (want : List Int) (hk : 500 < k) (hw : want.length ≤ 100) (he : want = allOf m c alive) :
    (if n < 0 then deadeyelaw17_PlanMembers.j6 k n want (fin n (allOf m c alive)).1 (fin n (allOf m c alive)).2 true else deadeyelaw17_PlanMembers.j6 k n want (fin n (allOf m c alive)).1 (fin n (allOf m c alive)).2 (decide (n > (want.length : Int)))) = some true := by
  subst he
  generalize allOf m c alive = want at hw
  obtain ⟨k, rfl, _⟩ := succ_of hk
  simp only [deadeyelaw17_PlanMembers.j6, fin]
  by_cases h1 : n < 0
  · rw [if_pos h1, awake_eq k (by omega)]
    simp [h1]
  · rw [if_neg h1]
    simp only [h1, if_false]
    by_cases h2 : (want.length : Int) < n
    · rw [if_pos (decide_eq_true (by omega)), awake_eq k (by omega)]
      simp only [h2, if_true, Option.bind_some]
      rfl
    · rw [if_neg (by simp; omega), awake_eq k (by omega)]
      simp only [h2, if_false, if_true, Option.bind_some]
      rw [if_pos (by omega), if_pos (by omega), ints_same _ k (by simp; omega) (by simp; omega)]
      rfl
theorem pm_l3 : ∀ (r : List Int) (k : Nat) (want : List Int), r.length * 50 + 600 < k → want.length + r.length ≤ 80 → r.Pairwise (· ≤ ·) → (∀ x ∈ r, x ∈ alive) → (∀ x ∈ alive, want.contains x = true ∨ x ∈ r) → r.foldl add want = allOf m c alive →
    deadeyelaw17_PlanMembers.l3 k n m alive want a c = some true
  | [], k, want, hk, hw, _, _, hall, he => by
    obtain ⟨k, rfl, _⟩ := succ_of hk
    simp only [deadeyelaw17_PlanMembers.l3]
    simp only [List.length_nil] at hk hw
    obtain ⟨k', h1, h2⟩ := pm_l4 n m alive a c hc hm ha alive.length 0 k want 0 false (by omega) (by omega) (by omega)
    rw [show ((0 : Nat) : Int) = 0 from rfl] at h2
    rw [h2, List.drop_zero, scanMin_all want alive 0 false (fun y hy => (hall y hy).resolve_right (by simp)), if_neg (by decide)]
    exact pm_end n m alive c hc hm ha k' want (by omega) (by omega) (by simpa using he)
  | x :: r, k, want, hk, hw, hs, hr, hall, he => by
    have hs' := List.pairwise_cons.1 hs
    simp only [List.length_cons] at hk hw
    rw [List.foldl_cons] at he
    by_cases h : want.contains x = true
    · unfold add at he
      rw [if_pos h] at he
      refine pm_l3 r k want (by omega) (by omega) hs'.2 (fun y hy => hr y (List.mem_cons_of_mem _ hy)) (fun y hy => ?_) he
      rcases hall y hy with h1 | h1
      · exact .inl h1
      · rcases List.mem_cons.1 h1 with rfl | h1
        · exact .inl h
        · exact .inr h1
    · unfold add at he
      rw [if_neg h] at he
      obtain ⟨k, rfl, hk'⟩ := succ_of hk
      simp only [deadeyelaw17_PlanMembers.l3]
      obtain ⟨k', h1, h2⟩ := pm_l4 n m alive a c hc hm ha alive.length 0 k want 0 false (by omega) (by omega) (by omega)
      rw [show ((0 : Nat) : Int) = 0 from rfl] at h2
      have hmin := scanMin_min want x (by simpa using h) alive 0 false (fun y hy hyw => by
        rcases hall y hy with h1 | h1
        · rw [h1] at hyw; cases hyw
        · rcases List.mem_cons.1 h1 with rfl | h1
          · exact Int.le_refl _
          · exact hs'.1 y h1) (.inl ⟨hr x List.mem_cons_self, fun hf => by cases hf⟩)
      rw [h2, List.drop_zero, hmin, if_pos rfl]
      refine pm_l3 r k' (want ++ [x]) (by omega) (by simp; omega) hs'.2 (fun y hy => hr y (List.mem_cons_of_mem _ hy)) (fun y hy => ?_) he
      rcases hall y hy with h1 | h1
      · left
        simp only [List.contains_eq_mem, List.mem_append] at h1 ⊢
        simp at h1 ⊢
        exact .inl h1
      · rcases List.mem_cons.1 h1 with rfl | h1
        · left; simp
        · exact .inr h1
theorem pm_l2 : ∀ (d i k : Nat) (acc : List Int), i + d = c.length → d + 200 < k → acc.length ≤ i →
    ∃ k', k ≤ k' + d + 1 ∧ deadeyelaw17_PlanMembers.l2 k n m alive acc i a c = deadeyelaw17_PlanMembers.l3 k' n m alive (acc ++ (c.drop i).filter fun x => isTold m x && alive.contains x) a c
  | 0, i, k, acc, hi, hk, _ => by
    obtain ⟨k, rfl, _⟩ := succ_of hk
    refine ⟨k, by omega, ?_⟩
    simp only [deadeyelaw17_PlanMembers.l2]
    rw [if_neg (by omega), List.drop_of_length_le (by omega), List.filter_nil, List.append_nil]
  | d + 1, i, k, acc, hi, hk, hac => by
    obtain ⟨k, rfl, hk⟩ := succ_of hk
    have hlt : i < c.length := by omega
    simp only [deadeyelaw17_PlanMembers.l2]
    rw [if_pos (by omega), if_pos (by omega), rd_nat hlt, wr hlt (by omega), told_eq m _ k (by omega) (by omega), Option.bind_some, List.drop_eq_getElem_cons hlt, List.filter_cons]
    obtain ⟨k1, g1, g2⟩ := pm_l2 d (i + 1) k acc (by omega) (by omega) (by omega)
    obtain ⟨k2, g3, g4⟩ := pm_l2 d (i + 1) k (acc ++ [c[i]]) (by omega) (by omega) (by simp; omega)
    by_cases h1 : isTold m c[i] = true
    · rw [if_pos h1, in_eq alive _ k (by omega) (by omega), Option.bind_some]
      by_cases h2 : alive.contains c[i] = true
      · refine ⟨k2, by omega, ?_⟩
        rw [if_pos h2, if_pos (by omega), if_pos (by rw [h1, h2]; rfl), g4, List.append_assoc]; rfl
      · refine ⟨k1, by omega, ?_⟩
        have h2' : alive.contains c[i] = false := by cases hh : alive.contains c[i] with | true => exact absurd hh h2 | false => rfl
        rw [if_neg h2, if_neg (by rw [h2']; simp), g2]
    · refine ⟨k1, by omega, ?_⟩
      rw [if_neg h1, if_neg (by simp [h1]), g2]
theorem pm_l1 : ∀ (d i k : Nat), i + d = c.length → d + 200 < k → deadeyelaw17_PlanMembers.l1 k n m alive i a c = some true ∨ ∃ k', k ≤ k' + d + 1 ∧ deadeyelaw17_PlanMembers.l1 k n m alive i a c = deadeyelaw17_PlanMembers.l2 k' n m alive [] 0 a c
  | 0, i, k, hi, hk => by
    obtain ⟨k, rfl, _⟩ := succ_of hk
    refine .inr ⟨k, by omega, ?_⟩
    simp only [deadeyelaw17_PlanMembers.l1]
    rw [if_neg (by omega)]
  | d + 1, i, k, hi, hk => by
    obtain ⟨k, rfl, hk⟩ := succ_of hk
    have hlt : i < c.length := by omega
    simp only [deadeyelaw17_PlanMembers.l1]
    rw [if_pos (by omega), if_pos (by omega), if_pos (by omega), rd_nat hlt, wr hlt (by omega), in_eq _ _ k (by simp; omega) (by simp; omega), Option.bind_some]
    split
    · left; rw [awake_eq k (by omega)]; rfl
    · rcases pm_l1 d (i + 1) k (by omega) (by omega) with h | ⟨k', h1, h2⟩
      · exact .inl h
      · exact .inr ⟨k', by omega, h2⟩
theorem pm_l0 : ∀ (d i k : Nat), i + d = alive.length → d + 200 < k → deadeyelaw17_PlanMembers.l0 k n m alive i a c = some true ∨ ∃ k', k ≤ k' + d + 1 ∧ deadeyelaw17_PlanMembers.l0 k n m alive i a c = deadeyelaw17_PlanMembers.l1 k' n m alive 0 a c
  | 0, i, k, hi, hk => by
    obtain ⟨k, rfl, _⟩ := succ_of hk
    refine .inr ⟨k, by omega, ?_⟩
    simp only [deadeyelaw17_PlanMembers.l0]
    rw [if_neg (by omega)]
  | d + 1, i, k, hi, hk => by
    obtain ⟨k, rfl, hk⟩ := succ_of hk
    have hlt : i < alive.length := by omega
    simp only [deadeyelaw17_PlanMembers.l0]
    rw [if_pos (by omega), if_pos (by omega), if_pos (by omega), rd_nat hlt, wr hlt (by omega), in_eq _ _ k (by simp; omega) (by simp; omega), Option.bind_some]
    split
    · left; rw [awake_eq k (by omega)]; rfl
    · rcases pm_l0 d (i + 1) k (by omega) (by omega) with h | ⟨k', h1, h2⟩
      · exact .inl h
      · exact .inr ⟨k', by omega, h2⟩
theorem pm_j0 : deadeyelaw17_PlanMembers.j0 10000 n m alive a c = some true := by
  simp only [deadeyelaw17_PlanMembers.j0]
  rcases pm_l0 n m alive a c hc hm ha alive.length 0 9999 (by omega) (by omega) with h | ⟨k1, g1, h1⟩
  · exact h
  · rw [show ((0 : Nat) : Int) = 0 from rfl] at h1
    rw [h1]
    rcases pm_l1 n m alive a c hc hm ha c.length 0 k1 (by omega) (by omega) with h | ⟨k2, g2, h2⟩
    · exact h
    · rw [show ((0 : Nat) : Int) = 0 from rfl] at h2
      rw [h2]
      obtain ⟨k3, g3, h3⟩ := pm_l2 n m alive a c hc hm ha c.length 0 k2 [] (by omega) (by omega) (by simp)
      rw [show ((0 : Nat) : Int) = 0 from rfl] at h3
      rw [h3, List.nil_append, List.drop_zero, ← out0_filter]
      have hl : (out0 m c alive).length ≤ 40 := by rw [out0_filter]; exact Nat.le_trans (List.length_filter_le _ _) hc
      have hp := isort_perm alive
      refine pm_l3 n m alive a c hc hm ha (isort alive) k3 (out0 m c alive) (by rw [isort_length]; omega) (by rw [isort_length]; omega) (isort_sorted alive) (fun x hx => hp.mem_iff.1 hx) (fun x hx => .inr (hp.mem_iff.2 hx)) rfl
end
theorem PlanMembers_true (a n : Int) (c : List Int) (l : List S26) (alive : List Int) : ∃ k, deadeyelaw17_PlanMembers.f k a c n l alive = some true := by
  refine ⟨10000, ?_⟩
  unfold deadeyelaw17_PlanMembers.f
  rw [small_eq, Option.bind_some, small_eq, Option.bind_some]
  have hc : (c.take 40).length ≤ 40 := by simp; omega
  have ha : (alive.take 40).length ≤ 40 := by simp; omega
  by_cases h : (l.length : Int) > 40
  · rw [if_pos h, if_pos (by omega)]; exact pm_j0 n _ _ a _ hc (by simp; omega) ha
  · rw [if_neg h]; exact pm_j0 n _ _ a _ hc (by omega) ha
end Go.Proofs.Yteeeiaggkdlolaa.Pl
