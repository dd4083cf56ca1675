/- PlanLasts is true of what the printed functions answer. -/
import Derived.Test.YteeeiaggkdlolaaPla
import Derived.Test.YteeeiaggkdlolaaPl4
namespace Go.Proofs.Yteeeiaggkdlolaa.Pl
open Go.RowKit Go.Proofs.YteeeiaggkdlolaaW.PrintWords Go.Proofs.YteeeiaggkdlolaaW.PrintLast Go.Proofs.YteeeiaggkdlolaaW.PrintMore
set_option linter.unusedVariables false
set_option linter.unusedSimpArgs false

/-! PlanLasts -/
theorem minOf_le : ∀ (l : List S26) (m : S26), (minOf l m).f1 ≤ m.f1 ∧ ∀ y ∈ l, (minOf l m).f1 ≤ y.f1
  | [], m => ⟨Int.le_refl _, by simp⟩
  | x :: l, m => by
    unfold minOf
    by_cases hc : x.f1 < m.f1
    · rw [if_pos hc]
      obtain ⟨h1, h2⟩ := minOf_le l x
      refine ⟨by omega, fun y hy => ?_⟩
      rcases List.mem_cons.1 hy with rfl | hy
      · exact h1
      · exact h2 y hy
    · rw [if_neg hc]
      obtain ⟨h1, h2⟩ := minOf_le l m
      refine ⟨h1, fun y hy => ?_⟩
      rcases List.mem_cons.1 hy with rfl | hy
      · omega
      · exact h2 y hy
theorem minOf_mem : ∀ (l : List S26) (m : S26), minOf l m = m ∨ minOf l m ∈ l
  | [], m => .inl rfl
  | x :: l, m => by
    unfold minOf
    rcases minOf_mem l (if x.f1 < m.f1 then x else m) with h | h
    · rw [h]
      split
      · exact .inr List.mem_cons_self
      · exact .inl rfl
    · exact .inr (List.mem_cons_of_mem _ h)
theorem lasts_scan (l : List S26) (n : Int) (hn : l.length ≤ 9223372036854775807) (hge : ∀ y ∈ l, n ≤ y.f1) : ∀ (d i k : Nat) (b : Bool), i + d = l.length → d + 20 < k → deadeyelaw17_PlanLasts.l0 k l n b i = some (b || (l.drop i).any fun y => y.f1 == n)
  | 0, i, k, b, hi, hk => by
    obtain ⟨k, rfl, _⟩ := succ_of hk
    simp only [deadeyelaw17_PlanLasts.l0]
    rw [if_neg (by omega), awake_eq k (by omega), List.drop_of_length_le (by omega)]; simp
  | d + 1, i, k, b, hi, hk => by
    obtain ⟨k, rfl, hk⟩ := succ_of hk
    have hlt : i < l.length := by omega
    have hg := hge l[i] (List.getElem_mem hlt)
    simp only [deadeyelaw17_PlanLasts.l0]
    rw [if_pos (by omega), List.drop_eq_getElem_cons hlt, List.any_cons]
    cases b with
    | true => rw [if_pos rfl, if_pos (by omega), rd26_nat hlt, wr hlt hn, if_neg (by omega), lasts_scan l n hn hge d (i + 1) k _ (by omega) (by omega)]; simp
    | false => rw [if_neg (by decide), if_pos (by omega), rd26_nat hlt, wr hlt hn, if_neg (by omega), lasts_scan l n hn hge d (i + 1) k _ (by omega) (by omega)]; simp
theorem PlanLasts_true (l : List S26) (hn : l.length ≤ 9223372036854775807) : ∃ k, deadeyelaw17_PlanLasts.f k l = some true := by
  refine ⟨l.length + 30, ?_⟩
  unfold deadeyelaw17_PlanLasts.f
  cases l with
  | nil => rw [if_pos (by simp), awake_eq _ (by omega)]; rfl
  | cons x xs =>
    rw [if_neg (by simp only [List.length_cons]; omega)]
    show (some (minOf xs x).f1).bind _ = _
    rw [Option.bind_some]
    obtain ⟨h1, h2⟩ := minOf_le xs x
    have hge : ∀ y ∈ x :: xs, (minOf xs x).f1 ≤ y.f1 := fun y hy => by
      rcases List.mem_cons.1 hy with rfl | hy
      · exact h1
      · exact h2 y hy
    have := lasts_scan (x :: xs) (minOf xs x).f1 hn hge (x :: xs).length 0 ((x :: xs).length + 30) false (by omega) (by omega)
    rw [show ((0 : Nat) : Int) = 0 from rfl] at this
    rw [this, Bool.false_or, List.drop_zero]
    congr 1
    rw [List.any_eq_true]
    rcases minOf_mem xs x with h | h
    · exact ⟨x, List.mem_cons_self, by rw [h]; simp⟩
    · exact ⟨minOf xs x, List.mem_cons_of_mem _ h, by simp⟩

end Go.Proofs.Yteeeiaggkdlolaa.Pl
