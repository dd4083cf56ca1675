/- Plan: what the printed functions answer, in plain Lean. -/
import Derived.Test.YteeeiaggkdlolaaPl2
import Derived.Test.YteeeiaggkdlolaaPl4
import Derived.Test.YteeeiaggkdlolaaPl6
namespace Go.Proofs.Yteeeiaggkdlolaa.Pl
open Go.RowKit Go.Proofs.YteeeiaggkdlolaaW.PrintWords Go.Proofs.YteeeiaggkdlolaaW.PrintLast Go.Proofs.YteeeiaggkdlolaaW.PrintMore
set_option linter.unusedVariables false
set_option linter.unusedSimpArgs false

theorem wr {i n : Nat} (h : i < n) (hn : n ≤ 9223372036854775807) : wrap64 ((i : Int) + 1) = ((i + 1 : Nat) : Int) := by unfold wrap64; omega
theorem rd_nat {l : List Int} {i : Nat} (h : i < l.length) : rd l (i : Int) = l[i] := by simp [rd, List.getD_eq_getElem?_getD, List.getElem?_eq_getElem h]
theorem rd26_nat {l : List S26} {i : Nat} (h : i < l.length) : rd_T26 l (i : Int) = l[i] := by simp [rd_T26, List.getD_eq_getElem?_getD, List.getElem?_eq_getElem h]
theorem rd35_nat {l : List S35} {i : Nat} (h : i < l.length) : rd_T35 l (i : Int) = l[i] := by simp [rd_T35, List.getD_eq_getElem?_getD, List.getElem?_eq_getElem h]
theorem succ_of {d k : Nat} (h : d < k) : ∃ m, k = m + 1 ∧ d ≤ m := ⟨k - 1, by omega, by omega⟩

theorem in_scan (l : List Int) (x : Int) (hn : l.length ≤ 9223372036854775807) : ∀ (d i k : Nat), i + d = l.length → d < k → deadeyelaw17_in.l0 k l x i = some ((l.drop i).contains x)
  | 0, i, k, hi, hk => by
    obtain ⟨k, rfl, _⟩ := succ_of hk
    simp only [deadeyelaw17_in.l0]
    rw [if_neg (by omega), List.drop_of_length_le (by omega)]; rfl
  | d + 1, i, k, hi, hk => by
    obtain ⟨k, rfl, hk⟩ := succ_of hk
    have hlt : i < l.length := by omega
    simp only [deadeyelaw17_in.l0]
    rw [if_pos (by omega), if_pos (by omega), rd_nat hlt, wr hlt hn, in_scan l x hn d (i + 1) k (by omega) (by omega), List.drop_eq_getElem_cons hlt, List.contains_cons]
    by_cases h : l[i] = x
    · rw [if_pos h, h]; simp
    · rw [if_neg h]
      have : (x == l[i]) = false := by rw [beq_eq_false_iff_ne]; exact fun e => h e.symm
      rw [this, Bool.false_or]
theorem in_eq (l : List Int) (x : Int) (k : Nat) (hn : l.length ≤ 9223372036854775807) (hk : l.length < k) : deadeyelaw17_in.f k l x = some (l.contains x) := by
  unfold deadeyelaw17_in.f
  have := in_scan l x hn l.length 0 k (by omega) hk
  simpa using this

theorem told_scan (l : List S26) (x : Int) (hn : l.length ≤ 9223372036854775807) : ∀ (d i k : Nat), i + d = l.length → d < k → deadeyelaw17_told.l0 k l x i = some ((l.drop i).any fun y => y.f0 == x)
  | 0, i, k, hi, hk => by
    obtain ⟨k, rfl, _⟩ := succ_of hk
    simp only [deadeyelaw17_told.l0]
    rw [if_neg (by omega), List.drop_of_length_le (by omega)]; rfl
  | d + 1, i, k, hi, hk => by
    obtain ⟨k, rfl, hk⟩ := succ_of hk
    have hlt : i < l.length := by omega
    simp only [deadeyelaw17_told.l0]
    rw [if_pos (by omega), if_pos (by omega), rd26_nat hlt, wr hlt hn, told_scan l x hn d (i + 1) k (by omega) (by omega), List.drop_eq_getElem_cons hlt, List.any_cons]
    by_cases h : l[i].f0 = x
    · rw [if_pos h]; simp [h]
    · rw [if_neg h]
      have : (l[i].f0 == x) = false := by rw [beq_eq_false_iff_ne]; exact h
      rw [this, Bool.false_or]
def isTold (l : List S26) (x : Int) : Bool := l.any fun y => y.f0 == x
theorem told_eq (l : List S26) (x : Int) (k : Nat) (hn : l.length ≤ 9223372036854775807) (hk : l.length < k) : deadeyelaw17_told.f k l x = some (isTold l x) := by
  unfold deadeyelaw17_told.f
  have := told_scan l x hn l.length 0 k (by omega) hk
  simpa [isTold] using this

def idx (x : Int) : List Int → Nat → Int
  | [], _ => -1
  | y :: l, i => if y = x then (i : Int) else idx x l (i + 1)
theorem idx_ge (x : Int) : ∀ (l : List Int) (i : Nat), decide (idx x l i ≥ 0) = l.contains x
  | [], _ => rfl
  | y :: l, i => by
    unfold idx
    rw [List.contains_cons]
    by_cases h : y = x
    · rw [if_pos h, h]; simp
    · rw [if_neg h, idx_ge x l (i + 1)]
      have : (x == y) = false := by rw [beq_eq_false_iff_ne]; exact fun e => h e.symm
      rw [this, Bool.false_or]
theorem index_scan (l : List Int) (x : Int) (hn : l.length ≤ 9223372036854775807) : ∀ (d i k : Nat), i + d = l.length → d < k → slices_Index_int_int.l0 k l x (l.length : Int) i = some (idx x (l.drop i) i)
  | 0, i, k, hi, hk => by
    obtain ⟨k, rfl, _⟩ := succ_of hk
    simp only [slices_Index_int_int.l0]
    rw [if_neg (by omega), List.drop_of_length_le (by omega)]; rfl
  | d + 1, i, k, hi, hk => by
    obtain ⟨k, rfl, hk⟩ := succ_of hk
    have hlt : i < l.length := by omega
    simp only [slices_Index_int_int.l0]
    rw [if_pos (by omega), if_pos (by omega), if_pos (by omega), rd_nat hlt, wr hlt hn, index_scan l x hn d (i + 1) k (by omega) (by omega), List.drop_eq_getElem_cons hlt]
    simp only [idx]
    by_cases h : l[i] = x
    · rw [if_pos h, if_pos h.symm]
    · rw [if_neg h, if_neg (fun e => h e.symm)]
theorem index_eq (l : List Int) (x : Int) (k : Nat) (hn : l.length ≤ 9223372036854775807) (hk : l.length < k) : slices_Index_int_int.f k l x = some (idx x l 0) := by
  unfold slices_Index_int_int.f
  have := index_scan l x hn l.length 0 k (by omega) hk
  simpa using this
theorem contains_eq (l : List Int) (x : Int) (k : Nat) (hn : l.length ≤ 9223372036854775807) (hk : l.length < k) : slices_Contains_int_int.f k l x = some (l.contains x) := by
  unfold slices_Contains_int_int.f
  rw [index_eq l x k hn hk, Option.bind_some, idx_ge]
theorem confPos_eq (a : Int) (l : List Int) (x : Int) (k : Nat) (hn : l.length ≤ 9223372036854775807) (hk : l.length < k) : conf_Pos.f k a l x = some (mx (idx x l 0) 0, l.contains x) := by
  unfold conf_Pos.f
  rw [index_eq l x k hn hk, Option.bind_some, idx_ge]
theorem refPos_scan (a : Int) (l : List Int) (x : Int) (hn : l.length ≤ 9223372036854775807) : ∀ (d i k : Nat), i + d = l.length → d < k → deadeyeref10_Pos.l0 k x i a l = some (idx x (l.drop i) i)
  | 0, i, k, hi, hk => by
    obtain ⟨k, rfl, _⟩ := succ_of hk
    simp only [deadeyeref10_Pos.l0]
    rw [if_neg (by omega), List.drop_of_length_le (by omega)]; rfl
  | d + 1, i, k, hi, hk => by
    obtain ⟨k, rfl, hk⟩ := succ_of hk
    have hlt : i < l.length := by omega
    simp only [deadeyeref10_Pos.l0]
    rw [if_pos (by omega), if_pos (by omega), rd_nat hlt, wr hlt hn, refPos_scan a l x hn d (i + 1) k (by omega) (by omega), List.drop_eq_getElem_cons hlt]
    simp only [idx]
    split <;> rfl
theorem refPos_eq (a : Int) (l : List Int) (x : Int) (k : Nat) (hn : l.length ≤ 9223372036854775807) (hk : l.length < k) : deadeyeref10_Pos.f k a l x = some (idx x l 0) := by
  unfold deadeyeref10_Pos.f
  have := refPos_scan a l x hn l.length 0 k (by omega) hk
  simpa using this

def srcs (m : List S26) : List Int → Nat → List S35
  | [], _ => []
  | x :: l, i => if isTold m x then ⟨x, (i : Int)⟩ :: srcs m l (i + 1) else srcs m l (i + 1)
theorem srcs_length (m : List S26) : ∀ (l : List Int) (i : Nat), (srcs m l i).length ≤ l.length
  | [], _ => Nat.le_refl _
  | x :: l, i => by
    unfold srcs
    have := srcs_length m l (i + 1)
    split <;> simp <;> omega
theorem sources_scan (m : List S26) (l : List Int) (hn : l.length ≤ 40) : ∀ (d i k : Nat) (acc : List S35), i + d = l.length → d < k → acc.length ≤ i → plan_Sources.l0 k m acc l (l.length : Int) i = some (acc ++ srcs m (l.drop i) i)
  | 0, i, k, acc, hi, hk, _ => by
    obtain ⟨k, rfl, _⟩ := succ_of hk
    simp only [plan_Sources.l0]
    rw [if_neg (by omega), List.drop_of_length_le (by omega)]; simp [srcs]
  | d + 1, i, k, acc, hi, hk, ha => by
    obtain ⟨k, rfl, hk⟩ := succ_of hk
    have hlt : i < l.length := by omega
    simp only [plan_Sources.l0]
    rw [if_pos (by omega), if_pos (by omega), if_pos (by omega), rd_nat hlt, wr hlt (by omega), List.drop_eq_getElem_cons hlt]
    show (some (isTold m l[i])).bind _ = _
    rw [Option.bind_some]
    simp only [srcs]
    by_cases h : isTold m l[i] = true
    · rw [if_pos h, if_pos (by omega), if_pos h, sources_scan m l hn d (i + 1) k _ (by omega) (by omega) (by simp; omega), List.append_assoc]; rfl
    · rw [if_neg h, if_neg h, sources_scan m l hn d (i + 1) k acc (by omega) (by omega) (by omega)]
theorem sources_eq (a : Int) (m : List S26) (l : List Int) (k : Nat) (hn : l.length ≤ 40) (hk : l.length < k) : plan_Sources.f k a l m = some (srcs m l 0) := by
  unfold plan_Sources.f
  have := sources_scan m l hn l.length 0 k [] (by omega) hk (by simp)
  simpa using this

def enough (c : List Int) (kk : Int) (m : List S26) (alive : List Int) : Bool := (alive.all fun n => !c.contains n || isTold m n) && decide (((srcs m c 0).length : Int) ≥ mx kk 1)
theorem enough_scan (a : Int) (c : List Int) (kk : Int) (m : List S26) (l : List Int) (hc : c.length ≤ 40) (hn : l.length ≤ 40) : ∀ (d i k : Nat), i + d = l.length → d + 41 < k → plan_Enough.l0 k kk m l (l.length : Int) i a c = some (((l.drop i).all fun n => !c.contains n || isTold m n) && decide (((srcs m c 0).length : Int) ≥ mx kk 1))
  | 0, i, k, hi, hk => by
    obtain ⟨k, rfl, _⟩ := succ_of hk
    simp only [plan_Enough.l0]
    rw [if_neg (by omega), List.drop_of_length_le (by omega), sources_eq a m c k hc (by omega), Option.bind_some]; simp
  | d + 1, i, k, hi, hk => by
    obtain ⟨k, rfl, hk⟩ := succ_of hk
    have hlt : i < l.length := by omega
    simp only [plan_Enough.l0]
    rw [if_pos (by omega), if_pos (by omega), if_pos (by omega), rd_nat hlt, wr hlt (by omega), confPos_eq a c l[i] k (by omega) (by omega), Option.bind_some, List.drop_eq_getElem_cons hlt, List.all_cons]
    have ih := enough_scan a c kk m l hc hn d (i + 1) k (by omega) (by omega)
    by_cases h : c.contains l[i] = true
    · rw [if_pos h]
      show ((some (isTold m l[i])).bind _) = _
      rw [Option.bind_some]
      by_cases h2 : isTold m l[i] = true
      · rw [if_pos h2, ih, h, h2]; simp
      · rw [if_neg h2, h]; simp [h2]
    · have h' : c.contains l[i] = false := by cases hh : c.contains l[i] with | true => exact absurd hh h | false => rfl
      rw [if_neg h, ih, h']; rfl
theorem enough_eq (a : Int) (c : List Int) (kk : Int) (m : List S26) (alive : List Int) (k : Nat) (hc : c.length ≤ 40) (hn : alive.length ≤ 40) (hk : 100 ≤ k) : plan_Enough.f k a c kk m alive = some (enough c kk m alive) := by
  unfold plan_Enough.f
  have := enough_scan a c kk m alive hc hn alive.length 0 k (by omega) (by omega)
  simpa [enough] using this
theorem small_eq (l : List Int) : deadeyelaw17_small.f l = some (l.take 40) := by
  unfold deadeyelaw17_small.f
  by_cases h : (l.length : Int) > 40
  · rw [if_pos h, if_pos (by omega)]
  · rw [if_neg h, List.take_of_length_le (by omega)]
end Go.Proofs.Yteeeiaggkdlolaa.Pl
