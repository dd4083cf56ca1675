/- PlanSources is true of what the printed functions answer. -/
import Derived.Test.YteeeiaggkdlolaaPla
import Derived.Test.YteeeiaggkdlolaaPl5
namespace Go.Proofs.Yteeeiaggkdlolaa.Pl
open Go.RowKit Go.Proofs.YteeeiaggkdlolaaW.PrintWords Go.Proofs.YteeeiaggkdlolaaW.PrintLast Go.Proofs.YteeeiaggkdlolaaW.PrintMore
set_option linter.unusedVariables false
set_option linter.unusedSimpArgs false

/-! PlanSources -/
theorem ps_l0 (kk : Int) (m : List S26) (alive : List Int) (a : Int) (c : List Int) (hc : c.length ≤ 40) (hm : m.length ≤ 40) : ∀ (d i k : Nat) (acc : List S35), i + d = c.length → d + 100 < k → acc.length ≤ i →
    ∃ k', k ≤ k' + d + 1 ∧ deadeyelaw17_PlanSources.l0 k kk m alive acc i a c = (if ((srcs m c 0).length : Int) = ((acc ++ srcs m (c.drop i) i).length : Int) then deadeyelaw17_PlanSources.l1 k' kk m alive (acc ++ srcs m (c.drop i) i) (srcs m c 0) 0 a c else some false)
  | 0, i, k, acc, hi, hk, _ => by
    obtain ⟨k, rfl, _⟩ := succ_of hk
    refine ⟨k, by omega, ?_⟩
    simp only [deadeyelaw17_PlanSources.l0]
    rw [if_neg (by omega), sources_eq a m c k hc (by omega), Option.bind_some, List.drop_of_length_le (by omega)]; simp only [srcs, List.append_nil]
  | d + 1, i, k, acc, hi, hk, ha => by
    obtain ⟨k, rfl, hk⟩ := succ_of hk
    have hlt : i < c.length := by omega
    simp only [deadeyelaw17_PlanSources.l0]
    rw [if_pos (by omega), if_pos (by omega), rd_nat hlt, wr hlt (by omega), told_eq m _ k (by omega) (by omega), Option.bind_some]
    have e := congrArg (fun z => srcs m z i) (List.drop_eq_getElem_cons hlt)
    simp only [srcs] at e
    by_cases h : isTold m c[i] = true
    · rw [if_pos h] at e
      obtain ⟨k', h1, h2⟩ := ps_l0 kk m alive a c hc hm d (i + 1) k (acc ++ [⟨c[i], (i : Int)⟩]) (by omega) (by omega) (by simp; omega)
      refine ⟨k', by omega, ?_⟩
      rw [if_pos h, if_pos (by omega), h2]
      simp only [e, List.append_assoc, List.singleton_append]
    · rw [if_neg h] at e
      obtain ⟨k', h1, h2⟩ := ps_l0 kk m alive a c hc hm d (i + 1) k acc (by omega) (by omega) (by omega)
      refine ⟨k', by omega, ?_⟩
      rw [if_neg h, h2]
      simp only [e]
theorem ps_l1 (kk : Int) (m : List S26) (alive : List Int) (a : Int) (c : List Int) (s : List S35) (hs : s.length ≤ 40) : ∀ (d i k : Nat), i + d = s.length → d + 100 < k →
    ∃ k', k ≤ k' + d + 1 ∧ deadeyelaw17_PlanSources.l1 k kk m alive s s i a c = (if kk < 1 then deadeyelaw17_PlanSources.j3 k' kk m alive s 1 a c else deadeyelaw17_PlanSources.j3 k' kk m alive s kk a c)
  | 0, i, k, hi, hk => by
    obtain ⟨k, rfl, _⟩ := succ_of hk
    refine ⟨k, by omega, ?_⟩
    simp only [deadeyelaw17_PlanSources.l1]
    rw [if_neg (by omega)]
  | d + 1, i, k, hi, hk => by
    obtain ⟨k, rfl, hk⟩ := succ_of hk
    have hlt : i < s.length := by omega
    obtain ⟨k', h1, h2⟩ := ps_l1 kk m alive a c s hs d (i + 1) k (by omega) (by omega)
    refine ⟨k', by omega, ?_⟩
    simp only [deadeyelaw17_PlanSources.l1]
    rw [if_pos (by omega), if_pos (by omega), if_pos (by omega), wr hlt (by omega), if_neg (by simp), h2]
theorem ps_l2 (kk : Int) (m : List S26) (alive : List Int) (a : Int) (c : List Int) (hc : c.length ≤ 40) (hm : m.length ≤ 40) (ha : alive.length ≤ 40) : ∀ (d i k : Nat) (b : Bool), i + d = alive.length → d + 200 < k →
    deadeyelaw17_PlanSources.l2 k kk m alive b i a c = some (enough c kk m alive == (b && (alive.drop i).all fun n => !c.contains n || isTold m n))
  | 0, i, k, b, hi, hk => by
    obtain ⟨k, rfl, _⟩ := succ_of hk
    simp only [deadeyelaw17_PlanSources.l2]
    rw [if_neg (by omega), awake_eq k (by omega), Option.bind_some, if_pos rfl, enough_eq a c kk m alive k hc ha (by omega), List.drop_of_length_le (by omega)]; simp
  | d + 1, i, k, b, hi, hk => by
    obtain ⟨k, rfl, hk⟩ := succ_of hk
    have hlt : i < alive.length := by omega
    simp only [deadeyelaw17_PlanSources.l2]
    rw [if_pos (by omega), if_pos (by omega), rd_nat hlt, wr hlt (by omega), refPos_eq a c alive[i] k (by omega) (by omega), Option.bind_some, List.drop_eq_getElem_cons hlt, List.all_cons, told_eq m _ k (by omega) (by omega), Option.bind_some,
      ps_l2 kk m alive a c hc hm ha d (i + 1) k b (by omega) (by omega), ps_l2 kk m alive a c hc hm ha d (i + 1) k false (by omega) (by omega)]
    have hx := idx_ge alive[i] c 0
    by_cases h : idx alive[i] c 0 ≥ 0
    · rw [if_pos h]
      rw [decide_eq_true h] at hx
      rw [← hx]
      by_cases h2 : isTold m alive[i] = true
      · rw [if_pos h2, h2]; simp
      · rw [if_neg h2]
        simp [h2]
    · rw [if_neg h]
      rw [decide_eq_false h] at hx
      rw [← hx]; simp
theorem PlanSources_true (a kk : Int) (c : List Int) (l : List S26) (alive : List Int) : ∃ k, deadeyelaw17_PlanSources.f k a c kk l alive = some true := by
  refine ⟨1000, ?_⟩
  unfold deadeyelaw17_PlanSources.f
  rw [small_eq, Option.bind_some, small_eq, Option.bind_some]
  have key : ∀ m : List S26, m.length ≤ 40 → deadeyelaw17_PlanSources.j0 1000 kk m (alive.take 40) a (c.take 40) = some true := by
    intro m hm
    have hc : (c.take 40).length ≤ 40 := by simp; omega
    have ha : (alive.take 40).length ≤ 40 := by simp; omega
    generalize c.take 40 = c at hc
    generalize alive.take 40 = alive at ha
    simp only [deadeyelaw17_PlanSources.j0]
    obtain ⟨k1, g1, h1⟩ := ps_l0 kk m alive a c hc hm c.length 0 999 [] (by omega) (by omega) (by simp)
    simp only [List.drop_zero, List.nil_append] at h1
    rw [show ((0 : Nat) : Int) = 0 from rfl] at h1
    rw [h1]
    simp only [if_true]
    have hs := srcs_length m c 0
    obtain ⟨k2, g2, h2⟩ := ps_l1 kk m alive a c (srcs m c 0) (by omega) (srcs m c 0).length 0 k1 (by omega) (by omega)
    rw [show ((0 : Nat) : Int) = 0 from rfl] at h2
    rw [h2]
    have fin : ∀ x : Int, x = mx kk 1 → deadeyelaw17_PlanSources.j3 k2 kk m alive (srcs m c 0) x a c = some true := by
      intro x hx
      obtain ⟨k3, rfl, g3⟩ := succ_of (show 0 < k2 by omega)
      simp only [deadeyelaw17_PlanSources.j3]
      have h3 := ps_l2 kk m alive a c hc hm ha alive.length 0 k3 (decide (((srcs m c 0).length : Int) ≥ x)) (by omega) (by omega)
      rw [show ((0 : Nat) : Int) = 0 from rfl] at h3
      rw [h3, hx, List.drop_zero]
      unfold enough
      rw [Bool.and_comm]; simp
    by_cases h : kk < 1
    · rw [if_pos h]; exact fin 1 (by unfold mx; rw [if_pos h])
    · rw [if_neg h]; exact fin kk (by unfold mx; rw [if_neg h])
  by_cases h : (l.length : Int) > 40
  · rw [if_pos h, if_pos (by omega)]; exact key _ (by simp; omega)
  · rw [if_neg h]; exact key _ (by omega)
end Go.Proofs.Yteeeiaggkdlolaa.Pl
