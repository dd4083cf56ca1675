/- The last entry of a key: what keys.Find and the reference's Find tell. -/
import Derived.Test.YteeeiaggkdlolaaKy2
import Derived.Test.YteeeiaggkdlolaaKy3
namespace Go.Proofs.Yteeeiaggkdlolaa.Ky
open Go.RowKit Go.Sort Go.Proofs.YteeeiaggkdlolaaW.PrintWords Go.Proofs.YteeeiaggkdlolaaW.PrintLast Go.Proofs.YteeeiaggkdlolaaW.PrintMore
set_option linter.unusedVariables false
set_option linter.unusedSimpArgs false

theorem wr {i n : Nat} (h : i < n) (hn : n ≤ 9223372036854775807) : wrap64 ((i : Int) + 1) = ((i + 1 : Nat) : Int) := by unfold wrap64; omega
theorem rd48_nat {l : List S48} {i : Nat} (h : i < l.length) : rd_T48 l (i : Int) = l[i] := by simp [rd_T48, List.getD_eq_getElem?_getD, List.getElem?_eq_getElem h]
theorem succ_of {d k : Nat} (h : d < k) : ∃ m, k = m + 1 ∧ d ≤ m := ⟨k - 1, by omega, by omega⟩
theorem awake_20 : deadeyelaw10_awake.f 20 = some true := by decide +kernel
theorem awake_eq (k : Nat) (h : 20 ≤ k) : deadeyelaw10_awake.f k = some true := by
  induction k with
  | zero => omega
  | succ k ih =>
    rcases Nat.lt_or_ge 20 (k + 1) with h1 | h1
    · exact deadeyelaw10_awake.mono k _ (ih (by omega))
    · have : k + 1 = 20 := by omega
      rw [this]; exact awake_20

/-! ### Find -/
def isW (key : List UInt8) (last : Int) (e : S48) : Bool := decide (bs e.f4 = key ∧ e.f0 ≤ last ∧ (e.f3 = 1 ∨ e.f3 = 2))
def fnd (l : List S48) (key : List UInt8) (last : Int) : Nat → Option S48
  | 0 => none
  | i + 1 => if isW key last (rd_T48 l i) = true then some (rd_T48 l i) else fnd l key last i
def tup : Option S48 → (Int × Int × Int × Int × ByteArray × Int × Int × List Int × Bool)
  | some e => (e.f0, e.f1, e.f2, e.f3, e.f4, e.f5, e.f6, e.f7, true)
  | none => (0, 0, 0, 0, (⟨#[]⟩ : ByteArray), 0, 0, ([] : List Int), false)
theorem eq_key {a b : ByteArray} : a.toList = b.toList ↔ bs a = bs b := by rw [ByteArray.toList_eq, ByteArray.toList_eq]
theorem isW_true {key : ByteArray} {last : Int} {y : S48} (h4 : y.f4.toList = key.toList) (h0 : y.f0 ≤ last) (h : y.f3 = 1 ∨ y.f3 = 2) : isW (bs key) last y = true := by
  unfold isW; exact decide_eq_true ⟨eq_key.1 h4, h0, h⟩
theorem isW_false {key : ByteArray} {last : Int} {y : S48} (h : ¬ (y.f4.toList = key.toList ∧ y.f0 ≤ last ∧ (y.f3 = 1 ∨ y.f3 = 2))) : isW (bs key) last y = false := by
  unfold isW; exact decide_eq_false (fun hh => h ⟨eq_key.2 hh.1, hh.2⟩)
theorem fnd_yes {l : List S48} {key : ByteArray} {last : Int} {i : Nat} (h : isW (bs key) last (rd_T48 l i) = true) : fnd l (bs key) last (i + 1) = some (rd_T48 l i) := by unfold fnd; rw [if_pos h]
theorem fnd_no {l : List S48} {key : ByteArray} {last : Int} {i : Nat} (h : isW (bs key) last (rd_T48 l i) = false) : fnd l (bs key) last (i + 1) = fnd l (bs key) last i := by rw [fnd, if_neg (by rw [h]; decide)]

theorem keysFind_go (l : List S48) (key : ByteArray) (last : Int) (hn : l.length ≤ 9223372036854775807) : ∀ (i k : Nat), i ≤ l.length → i < k → keys_Find.l0 k l key last ((i : Int) - 1) = some (tup (fnd l (bs key) last i))
  | 0, k, hi, hk => by
    obtain ⟨k, rfl, _⟩ := succ_of hk
    simp only [keys_Find.l0]
    rw [if_neg (by omega)]; rfl
  | i + 1, k, hi, hk => by
    obtain ⟨k, rfl, hk⟩ := succ_of hk
    have ih := keysFind_go l key last hn i k (by omega) (by omega)
    have hx : ((i + 1 : Nat) : Int) - 1 = (i : Int) := by omega
    have hw : wrap64 ((i : Int) - 1) = (i : Int) - 1 := by unfold wrap64; omega
    rw [hx]
    simp only [keys_Find.l0]
    rw [if_pos (by omega), if_pos (by omega), if_pos (by omega), hw]
    by_cases h4 : (rd_T48 l i).f4.toList = key.toList
    · by_cases h0 : (rd_T48 l i).f0 ≤ last
      · by_cases h1 : (rd_T48 l i).f3 = 1
        · rw [if_pos h4, if_pos h0, if_pos h1, fnd_yes (isW_true h4 h0 (.inl h1))]; rfl
        · by_cases h2 : (rd_T48 l i).f3 = 2
          · rw [if_pos h4, if_pos h0, if_neg h1, if_pos h2, fnd_yes (isW_true h4 h0 (.inr h2))]; rfl
          · rw [if_pos h4, if_pos h0, if_neg h1, if_neg h2, fnd_no (isW_false (fun h => h.2.2.elim h1 h2))]; exact ih
      · rw [if_pos h4, if_neg h0, fnd_no (isW_false (fun h => h0 h.2.1))]; exact ih
    · rw [if_neg h4, fnd_no (isW_false (fun h => h4 h.1))]; exact ih
theorem keysFind_eq (l : List S48) (key : ByteArray) (last : Int) (k : Nat) (hn : l.length ≤ 9223372036854775807) (hk : l.length < k) : keys_Find.f k l key last = some (tup (fnd l (bs key) last l.length)) := by
  have hw : wrap64 ((l.length : Int) - 1) = (l.length : Int) - 1 := by unfold wrap64; omega
  unfold keys_Find.f
  rw [hw]
  exact keysFind_go l key last hn l.length k (Nat.le_refl _) hk

def rf (k : Nat) (l : List S48) (key : ByteArray) (last : Int) (i : Nat) (o : Option S48) := deadeyeref10_Find.l0 k l key last (tup o).2.2.2.2.2.2.2.2 (i : Int) (tup o).1 (tup o).2.1 (tup o).2.2.1 (tup o).2.2.2.1 (tup o).2.2.2.2.1 (tup o).2.2.2.2.2.1 (tup o).2.2.2.2.2.2.1 (tup o).2.2.2.2.2.2.2.1
theorem refFind_go (l : List S48) (key : ByteArray) (last : Int) (hn : l.length ≤ 9223372036854775807) : ∀ (d i k : Nat), i + d = l.length → d < k → rf k l key last i (fnd l (bs key) last i) = some (tup (fnd l (bs key) last l.length))
  | 0, i, k, hi, hk => by
    obtain ⟨k, rfl, _⟩ := succ_of hk
    obtain rfl : i = l.length := by omega
    unfold rf
    simp only [deadeyeref10_Find.l0]
    rw [if_neg (by omega)]
  | d + 1, i, k, hi, hk => by
    obtain ⟨k, rfl, hk⟩ := succ_of hk
    have hlt : i < l.length := by omega
    have ih := refFind_go l key last hn d (i + 1) k (by omega) (by omega)
    unfold rf
    simp only [deadeyeref10_Find.l0]
    rw [if_pos (by omega), if_pos (by omega), wr hlt hn]
    by_cases h4 : (rd_T48 l i).f4.toList = key.toList
    · by_cases h0 : (rd_T48 l i).f0 ≤ last
      · by_cases h1 : (rd_T48 l i).f3 = 1
        · rw [if_pos h4, if_pos h0, if_pos h1]; rw [fnd_yes (isW_true h4 h0 (.inl h1))] at ih; exact ih
        · by_cases h2 : (rd_T48 l i).f3 = 2
          · rw [if_pos h4, if_pos h0, if_neg h1, if_pos h2]; rw [fnd_yes (isW_true h4 h0 (.inr h2))] at ih; exact ih
          · rw [if_pos h4, if_pos h0, if_neg h1, if_neg h2]; rw [fnd_no (isW_false (fun h => h.2.2.elim h1 h2))] at ih; exact ih
      · rw [if_pos h4, if_neg h0]; rw [fnd_no (isW_false (fun h => h0 h.2.1))] at ih; exact ih
    · rw [if_neg h4]; rw [fnd_no (isW_false (fun h => h4 h.1))] at ih; exact ih
theorem refFind_eq (l : List S48) (key : ByteArray) (last : Int) (k : Nat) (hn : l.length ≤ 9223372036854775807) (hk : l.length < k) : deadeyeref10_Find.f k l key last = some (tup (fnd l (bs key) last l.length)) :=
  refFind_go l key last hn l.length 0 k (by omega) hk

/-! ### the sizes -/
def sz48 (e : S48) : Nat := 1 + (1 + (1 + (1 + (e.f4.size + 1 + (1 + (1 + ((e.f7.map fun _ => 1).sum + 1)))))))
theorem sum_ones : ∀ l : List Int, (l.map fun _ => 1).sum = l.length
  | [] => rfl
  | x :: l => by rw [List.map_cons, List.sum_cons, sum_ones l, List.length_cons]; omega
theorem mem_sum {α : Type} (f : α → Nat) : ∀ (l : List α) (x : α), x ∈ l → f x ≤ (l.map f).sum
  | y :: l, x, h => by
    rw [List.map_cons, List.sum_cons]
    rcases List.mem_cons.1 h with rfl | h
    · omega
    · have := mem_sum f l x h; omega
theorem len_sum : ∀ l : List S48, l.length ≤ (l.map sz48).sum
  | [] => by simp
  | x :: l => by rw [List.map_cons, List.sum_cons, List.length_cons]; have h0 := len_sum l; have h1 : 1 ≤ sz48 x := (by unfold sz48; omega); omega
theorem sz_mem {l : List S48} (h : (l.map sz48).sum ≤ 1048576) {e : S48} (he : e ∈ l) : e.f4.size ≤ 1048576 ∧ e.f7.length ≤ 1048576 := by
  have h1 := mem_sum sz48 l e he
  have h2 : e.f4.size + e.f7.length ≤ sz48 e := by unfold sz48; rw [sum_ones]; omega
  omega
theorem take_sum (l : List S48) (n : Nat) : ((l.take n).map sz48).sum ≤ (l.map sz48).sum := by
  have e : l.map sz48 = (l.take n).map sz48 ++ (l.drop n).map sz48 := by rw [← List.map_append, List.take_append_drop]
  rw [e, List.sum_append]; omega

end Go.Proofs.Yteeeiaggkdlolaa.Ky
