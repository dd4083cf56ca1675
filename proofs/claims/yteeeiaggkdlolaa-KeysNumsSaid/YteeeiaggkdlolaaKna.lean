/- KeysNums is true of what the printed functions answer. -/
import Derived.Test.YteeeiaggkdlolaaKn5
namespace Go.Proofs.Yteeeiaggkdlolaa.Ky
open Go.RowKit Go.Proofs.YteeeiaggkdlolaaW.PrintWords Go.Proofs.YteeeiaggkdlolaaW.PrintLast Go.Proofs.YteeeiaggkdlolaaW.PrintMore
set_option linter.unusedVariables false
set_option linter.unusedSimpArgs false

theorem wr {i n : Nat} (h : i < n) (hn : n ≤ 9223372036854775807) : wrap64 ((i : Int) + 1) = ((i + 1 : Nat) : Int) := by unfold wrap64; omega
theorem rd48_nat {l : List S48} {i : Nat} (h : i < l.length) : rd_T48 l (i : Int) = l[i] := by simp [rd_T48, List.getD_eq_getElem?_getD, List.getElem?_eq_getElem h]
theorem succ_of {d k : Nat} (h : d < k) : ∃ m, k = m + 1 ∧ d ≤ m := ⟨k - 1, by omega, by omega⟩
theorem awake_20 : deadeyelaw10_awake.f 20 = some true := by decide +kernel
theorem awake_eq (k : Nat) (h : 20 ≤ k) : deadeyelaw10_awake.f k = some true := by
  induction k with
  | zero => omega
  | succ k ih =>
    rcases Nat.lt_or_ge 20 (k + 1) with h1 | h1
    · exact deadeyelaw10_awake.mono k _ (ih (by omega))
    · have : k + 1 = 20 := by omega
      rw [this]; exact awake_20
def numStep (c : Int) (p : Int × Int) (e : S48) : Int × Int := if e.f1 = c ∧ p.1 < e.f2 then (e.f2, e.f0) else p
theorem num_scan (l : List S48) (c : Int) (hn : l.length ≤ 9223372036854775807) : ∀ (d i k : Nat) (a b : Int), i + d = l.length → d < k → keys_Num.l0 k c a b l (l.length : Int) i = some ((l.drop i).foldl (numStep c) (a, b))
  | 0, i, k, a, b, hi, hk => by
    obtain ⟨k, rfl, _⟩ := succ_of hk
    simp only [keys_Num.l0]
    rw [if_neg (by omega), List.drop_of_length_le (by omega)]; rfl
  | d + 1, i, k, a, b, hi, hk => by
    obtain ⟨k, rfl, hk⟩ := succ_of hk
    have hlt : i < l.length := by omega
    simp only [keys_Num.l0]
    rw [if_pos (by omega), if_pos (by omega), if_pos (by omega), rd48_nat hlt, wr hlt hn, List.drop_eq_getElem_cons hlt, List.foldl_cons]
    by_cases h1 : l[i].f1 = c
    · by_cases h2 : l[i].f2 > a
      · rw [if_pos h1, if_pos h2, num_scan l c hn d (i + 1) k _ _ (by omega) (by omega)]
        unfold numStep
        rw [if_pos ⟨h1, h2⟩]
      · rw [if_pos h1, if_neg h2, num_scan l c hn d (i + 1) k _ _ (by omega) (by omega)]
        congr 2
        unfold numStep
        rw [if_neg (fun h => h2 h.2)]
    · rw [if_neg h1, num_scan l c hn d (i + 1) k _ _ (by omega) (by omega)]
      congr 2
      unfold numStep
      rw [if_neg (fun h => h1 h.1)]
theorem num_eq (l : List S48) (c : Int) (k : Nat) (hn : l.length ≤ 9223372036854775807) (hk : l.length < k) : keys_Num.f k l c = some (l.foldl (numStep c) (0, 0)) := by
  unfold keys_Num.f
  have := num_scan l c hn l.length 0 k 0 0 (by omega) hk
  simpa using this
theorem nums_scan (l : List S48) (c : Int) (hn : l.length ≤ 9223372036854775807) : ∀ (d i k : Nat) (a b : Int), i + d = l.length → l.length + d + 25 < k → (l.drop i).foldl (numStep c) (a, b) = l.foldl (numStep c) (0, 0) → deadeyelaw10_KeysNums.l0 k l c a b i = some true
  | 0, i, k, a, b, hi, hk, h => by
    obtain ⟨k, rfl, _⟩ := succ_of hk
    simp only [deadeyelaw10_KeysNums.l0]
    rw [if_neg (by omega), num_eq l c k hn (by omega), awake_eq k (by omega)]
    rw [List.drop_of_length_le (by omega), List.foldl_nil] at h
    simp [← h]
  | d + 1, i, k, a, b, hi, hk, h => by
    obtain ⟨k, rfl, hk⟩ := succ_of hk
    have hlt : i < l.length := by omega
    simp only [deadeyelaw10_KeysNums.l0]
    rw [if_pos (by omega), if_pos (by omega), rd48_nat hlt, wr hlt hn]
    rw [List.drop_eq_getElem_cons hlt, List.foldl_cons] at h
    by_cases h1 : l[i].f1 = c
    · by_cases h2 : l[i].f2 > a
      · rw [if_pos h1, if_pos h2]
        exact nums_scan l c hn d (i + 1) k _ _ (by omega) (by omega) (by rw [← h]; congr 1; unfold numStep; rw [if_pos ⟨h1, h2⟩])
      · rw [if_pos h1, if_neg h2]
        exact nums_scan l c hn d (i + 1) k _ _ (by omega) (by omega) (by rw [← h]; congr 1; unfold numStep; rw [if_neg (fun h => h2 h.2)])
    · rw [if_neg h1]
      exact nums_scan l c hn d (i + 1) k _ _ (by omega) (by omega) (by rw [← h]; congr 1; unfold numStep; rw [if_neg (fun h => h1 h.1)])
theorem KeysNums_true (l : List S48) (c : Int) : ∃ k, deadeyelaw10_KeysNums.f k l c = some true := by
  refine ⟨1000, ?_⟩
  unfold deadeyelaw10_KeysNums.f
  have key : ∀ m : List S48, m.length ≤ 200 → deadeyelaw10_KeysNums.j0 1000 m c = some true := by
    intro m hm
    show deadeyelaw10_KeysNums.l0 999 m c 0 0 0 = some true
    exact nums_scan m c (by omega) m.length 0 999 0 0 (by omega) (by omega) (by rw [List.drop_zero])
  by_cases h : (l.length : Int) > 200
  · rw [if_pos h, if_pos (by omega)]
    exact key _ (by rw [List.length_take]; omega)
  · rw [if_neg h]
    exact key _ (by omega)

end Go.Proofs.Yteeeiaggkdlolaa.Ky
