/- PlanAlive is true of what the printed functions answer. -/
import Derived.Test.YteeeiaggkdlolaaPlx
import Derived.Test.YteeeiaggkdlolaaPl8
namespace Go.Proofs.Yteeeiaggkdlolaa.Pl
set_option linter.unusedVariables false
set_option linter.unusedSimpArgs false
set_option linter.unusedSectionVars false
open Go.RowKit Go.Proofs.YteeeiaggkdlolaaW.PrintWords Go.Proofs.YteeeiaggkdlolaaW.PrintLast Go.Proofs.YteeeiaggkdlolaaW.PrintMore

theorem wr1 {q : Nat} (h : q ≤ 40) : wrap64 ((q : Int) + 1) = ((q + 1 : Nat) : Int) := by unfold wrap64; omega
theorem ws1 {q : Nat} (h : q ≤ 40) : wrap64 (((q + 1 : Nat) : Int) - 1) = (q : Int) := by unfold wrap64; omega
theorem tmod20 {n : Int} (hn : (Lit.int .u8 n).wf = true) : wrap64 (Int.tmod n 20) = (((Int.tmod n 20).toNat : Nat) : Int) ∧ (Int.tmod n 20).toNat ≤ 19 := by
  have hb : 0 ≤ n ∧ n ≤ 255 := by simpa [Lit.wf, IntKind.min, IntKind.max, IntKind.signed, IntKind.bits] using hn
  rw [Int.tmod_eq_emod_of_nonneg hb.1]
  constructor
  · unfold wrap64; omega
  · omega
/-- How many of the first ones stand in alive. -/
def countIn (alive : List Int) (l : List Int) : Nat := (l.filter alive.contains).length

section
variable (m : List S26) (alive : List Int) (a : Int) (c : List Int) (hc : c.length ≤ 40) (hm : m.length ≤ 40) (ha : alive.length ≤ 40)
include hc hm ha
theorem pa_l2 (n : Nat) (hn : n ≤ 20) (r : List Int) (hr : r.length = n) (s : List S35) (hs : s.length ≤ 40)
    (hpre : ∀ j, j < n → ∀ x, ((s.map (·.f0)).filter alive.contains)[j]? = some x → r[j]? = some x) : ∀ (d i k q : Nat), i + d = s.length → d + 200 < k → q = countIn alive ((s.map (·.f0)).take i) → deadeyelaw17_PlanAlive.l2 k alive (n : Int) r s (q : Int) i = some true
  | 0, i, k, q, hi, hk, hq => by
    obtain ⟨k, rfl, _⟩ := succ_of hk
    simp only [deadeyelaw17_PlanAlive.l2]
    rw [if_neg (by omega), awake_eq k (by omega)]; rfl
  | d + 1, i, k, q, hi, hk, hq => by
    obtain ⟨k, rfl, hk⟩ := succ_of hk
    have hlt : i < s.length := by omega
    have hlt' : i < (s.map (·.f0)).length := by simpa using hlt
    simp only [deadeyelaw17_PlanAlive.l2]
    have hq40 : q ≤ 40 := by
      rw [hq]; unfold countIn
      have h1 := List.length_filter_le alive.contains ((s.map (·.f0)).take i)
      simp only [List.length_take, List.length_map] at h1
      omega
    rw [if_pos (by omega), if_pos (by omega), rd35_nat hlt, wr hlt (by omega), in_eq alive _ k (by omega) (by omega), Option.bind_some]
    have htake : (s.map (·.f0)).take (i + 1) = (s.map (·.f0)).take i ++ [s[i].f0] := by
      rw [List.take_succ_eq_append_getElem hlt']; simp
    by_cases h : alive.contains s[i].f0 = true
    · have hq' : q + 1 = countIn alive ((s.map (·.f0)).take (i + 1)) := by
        rw [htake]; unfold countIn; rw [List.filter_append, List.length_append, List.filter_cons, if_pos h]
        unfold countIn at hq
        simp; omega
      rw [if_pos h, wr1 hq40]
      have ih := pa_l2 n hn r hr s hs hpre d (i + 1) k (q + 1) (by omega) (by omega) hq'
      by_cases h2 : ((q + 1 : Nat) : Int) ≤ (n : Int)
      · have hqn : q < n := Int.ofNat_le.1 h2
        rw [if_pos h2, ws1 hq40, if_pos (Int.natCast_nonneg _), if_pos (by rw [hr]; exact Int.ofNat_lt.2 hqn), ih]
        have hx : ((s.map (·.f0)).filter alive.contains)[q]? = some s[i].f0 := by
          have e : (s.map (·.f0)) = (s.map (·.f0)).take i ++ s[i].f0 :: (s.map (·.f0)).drop (i + 1) := by
            conv => lhs; rw [← List.take_append_drop i (s.map (·.f0))]
            rw [List.drop_eq_getElem_cons hlt']; simp
          rw [e, List.filter_append, List.filter_cons, if_pos h]
          unfold countIn at hq
          rw [List.getElem?_append_right (by omega), hq]; simp
        have hy := hpre q (by omega) _ hx
        have hz : rd r (q : Int) = s[i].f0 := by
          unfold rd
          rw [Int.toNat_natCast, List.getD_eq_getElem?_getD, hy]; rfl
        rw [if_pos hz]
      · rw [if_neg h2]; exact ih
    · rw [if_neg h]
      refine pa_l2 n hn r hr s hs hpre d (i + 1) k q (by omega) (by omega) ?_
      rw [htake, hq]; unfold countIn; rw [List.filter_append, List.filter_cons, if_neg h]; simp
theorem pa_l1 (n : Nat) (hn : n ≤ 20) (r : List Int) (hr : r.length = n) (hal : ∀ x ∈ r, alive.contains x = true) (hnd : r.Nodup)
    (hpre : ∀ j, j < n → ∀ x, (((srcs m c 0).map (·.f0)).filter alive.contains)[j]? = some x → r[j]? = some x) : ∀ (d i k : Nat), i + d = n → d + 400 < k → deadeyelaw17_PlanAlive.l1 k m alive (n : Int) r i a c = some true
  | 0, i, k, hi, hk => by
    obtain ⟨k, rfl, _⟩ := succ_of hk
    simp only [deadeyelaw17_PlanAlive.l1]
    have hs := srcs_length m c 0
    rw [if_neg (by omega), sources_eq a m c k hc (by omega), Option.bind_some]
    have := pa_l2 m alive c hc hm ha n hn r hr (srcs m c 0) (by omega) hpre (srcs m c 0).length 0 k 0 (by omega) (by omega) (by simp [countIn])
    simpa using this
  | d + 1, i, k, hi, hk => by
    obtain ⟨k, rfl, hk⟩ := succ_of hk
    have hlt : i < r.length := by omega
    simp only [deadeyelaw17_PlanAlive.l1]
    have hnot : (r.take i).contains r[i] = false := by
      rw [Bool.eq_false_iff]
      intro hcon
      have hmem : r[i] ∈ r.take i := by simpa using hcon
      obtain ⟨j, hj1, hj2⟩ := List.getElem_of_mem hmem
      have hj : j < i := by simp at hj1; omega
      rw [List.getElem_take] at hj2
      exact List.pairwise_iff_getElem.1 hnd j i (by omega) hlt hj hj2
    rw [if_pos (by omega), if_pos (by omega), if_pos (by omega), rd_nat hlt, wr hlt (by omega), in_eq alive _ k (by omega) (by omega), Option.bind_some, if_pos (hal _ (List.getElem_mem hlt)), if_pos (by omega), in_eq _ _ k (by simp; omega) (by simp; omega), Option.bind_some, Int.toNat_natCast, hnot,
      if_neg (by decide), pa_l1 n hn r hr hal hnd hpre d (i + 1) k (by omega) (by omega)]
theorem pa_l0 (n : Nat) (hn : n ≤ 19) (x1 : Int) (hx : wrap64 (Int.tmod x1 20) = (n : Int)) : ∀ (d i k : Nat), i + d = c.length → d + 600 < k → (c.take i).Nodup → deadeyelaw17_PlanAlive.l0 k x1 m alive i a c = some true
  | 0, i, k, hi, hk, hnd => by
    obtain ⟨k, rfl, _⟩ := succ_of hk
    rw [List.take_of_length_le (by omega)] at hnd
    simp only [deadeyelaw17_PlanAlive.l0]
    rw [if_neg (by omega), hx, members_eq a c n m alive k hc ha (by omega), Option.bind_some]
    have hf : fin (n : Int) (allOf m c alive) = if ((allOf m c alive).length : Int) < (n : Int) then ([], false) else ((allOf m c alive).take (n : Int).toNat, true) := by
      unfold fin
      rw [if_neg (by omega)]
    rw [hf]
    clear hf
    by_cases h2 : ((allOf m c alive).length : Int) < (n : Int)
    · simp only [h2, if_true]
      rw [awake_eq k (by omega)]; rfl
    · simp only [h2, if_false, if_true, Int.toNat_natCast]
      have hl : ((allOf m c alive).take n).length = n := by rw [List.length_take]; omega
      rw [if_pos (by rw [hl])]
      obtain ⟨e, h1, h3, h4⟩ := foldl_add (isort alive) (out0 m c alive)
      have hall : allOf m c alive = out0 m c alive ++ e := h1
      have hnd0 : (out0 m c alive).Nodup := by rw [out0_filter]; exact hnd.filter _
      have hndA : (allOf m c alive).Nodup := by rw [hall]; exact h4 hnd0
      refine pa_l1 m alive a c hc hm ha n (by omega) _ hl (fun x hx => ?_) (hndA.sublist (List.take_sublist _ _)) (fun j hj x hjx => ?_) n 0 k (by omega) (by omega)
      · have hx' := List.mem_of_mem_take hx
        rw [hall] at hx'
        rcases List.mem_append.1 hx' with h | h
        · rw [out0_filter] at h
          have := (List.mem_filter.1 h).2
          rw [Bool.and_eq_true] at this
          exact this.2
        · have := (isort_perm alive).mem_iff.1 (h3 x h)
          simpa using this
      · rw [List.getElem?_take_of_lt hj, hall]
        have hlj := (List.getElem?_eq_some_iff.1 hjx).1
        show (out0 m c alive ++ e)[j]? = some x
        have hlj' : j < (out0 m c alive).length := hlj
        rw [List.getElem?_append_left hlj']
        exact hjx
  | d + 1, i, k, hi, hk, hnd => by
    obtain ⟨k, rfl, hk⟩ := succ_of hk
    have hlt : i < c.length := by omega
    simp only [deadeyelaw17_PlanAlive.l0]
    rw [if_pos (by omega), if_pos (by omega), if_pos (by omega), rd_nat hlt, wr hlt (by omega), in_eq _ _ k (by simp; omega) (by simp; omega), Option.bind_some, Int.toNat_natCast]
    by_cases h : (c.take i).contains c[i] = true
    · rw [if_pos h, awake_eq k (by omega)]; rfl
    · rw [if_neg h]
      refine pa_l0 n hn x1 hx d (i + 1) k (by omega) (by omega) ?_
      rw [List.take_succ_eq_append_getElem hlt, List.nodup_append]
      have hni : c[i] ∉ c.take i := by simpa using h
      exact ⟨hnd, by simp, fun x hx y hy => by rw [List.mem_singleton.1 hy]; rintro rfl; exact hni hx⟩
end
theorem PlanAlive_true (a n : Int) (hn : (Lit.int .u8 n).wf = true) (c : List Int) (l : List S26) (alive : List Int) : ∃ k, deadeyelaw17_PlanAlive.f k a c n l alive = some true := by
  refine ⟨10000, ?_⟩
  obtain ⟨hx, hx2⟩ := tmod20 hn
  unfold deadeyelaw17_PlanAlive.f
  rw [small_eq, Option.bind_some, small_eq, Option.bind_some]
  have hc : (c.take 40).length ≤ 40 := by simp; omega
  have ha : (alive.take 40).length ≤ 40 := by simp; omega
  have key : ∀ m : List S26, m.length ≤ 40 → deadeyelaw17_PlanAlive.j0 10000 n m (alive.take 40) a (c.take 40) = some true := by
    intro m hm
    simp only [deadeyelaw17_PlanAlive.j0]
    have := pa_l0 m _ a _ hc hm ha _ hx2 n hx (c.take 40).length 0 9999 (by omega) (by omega) (by simp)
    simpa using this
  by_cases h : (l.length : Int) > 40
  · rw [if_pos h, if_pos (by omega)]; exact key _ (by simp; omega)
  · rw [if_neg h]; exact key _ (by omega)
end Go.Proofs.Yteeeiaggkdlolaa.Pl
