/- The last entry of a key, and plain words: sizes, bytes of an entry. -/
import Derived.Test.YteeeiaggkdlolaaKf22
import Derived.Test.YteeeiaggkdlolaaKf24
import Derived.Test.YteeeiaggkdlolaaKf25
import Derived.Test.YteeeiaggkdlolaaKf30
import Derived.Test.YteeeiaggkdlolaaKon
namespace Go.Proofs.Yteeeiaggkdlolaa.Ky
open Go.RowKit Go.Sort Go.Proofs.YteeeiaggkdlolaaW.PrintWords Go.Proofs.YteeeiaggkdlolaaW.PrintLast Go.Proofs.YteeeiaggkdlolaaW.PrintMore
set_option linter.unusedVariables false
set_option linter.unusedSimpArgs false

theorem wr {i n : Nat} (h : i < n) (hn : n ≤ 9223372036854775807) : wrap64 ((i : Int) + 1) = ((i + 1 : Nat) : Int) := by unfold wrap64; omega
theorem rd48_nat {l : List S48} {i : Nat} (h : i < l.length) : rd_T48 l (i : Int) = l[i] := by simp [rd_T48, List.getD_eq_getElem?_getD, List.getElem?_eq_getElem h]
theorem succ_of {d k : Nat} (h : d < k) : ∃ m, k = m + 1 ∧ d ≤ m := ⟨k - 1, by omega, by omega⟩
theorem awake_20 : deadeyelaw10_awake.f 20 = some true := by decide +kernel
theorem awake_eq (k : Nat) (h : 20 ≤ k) : deadeyelaw10_awake.f k = some true := by
  induction k with
  | zero => omega
  | succ k ih =>
    rcases Nat.lt_or_ge 20 (k + 1) with h1 | h1
    · exact deadeyelaw10_awake.mono k _ (ih (by omega))
    · have : k + 1 = 20 := by omega
      rw [this]; exact awake_20
def isW (key : List UInt8) (last : Int) (e : S48) : Bool := decide (bs e.f4 = key ∧ e.f0 ≤ last ∧ (e.f3 = 1 ∨ e.f3 = 2))
def fnd (l : List S48) (key : List UInt8) (last : Int) : Nat → Option S48
  | 0 => none
  | i + 1 => if isW key last (rd_T48 l i) = true then some (rd_T48 l i) else fnd l key last i
def tup : Option S48 → (Int × Int × Int × Int × ByteArray × Int × Int × List Int × Bool)
  | some e => (e.f0, e.f1, e.f2, e.f3, e.f4, e.f5, e.f6, e.f7, true)
  | none => (0, 0, 0, 0, (⟨#[]⟩ : ByteArray), 0, 0, ([] : List Int), false)
theorem eq_key {a b : ByteArray} : a.toList = b.toList ↔ bs a = bs b := by rw [ByteArray.toList_eq, ByteArray.toList_eq]
theorem isW_true {key : ByteArray} {last : Int} {y : S48} (h4 : y.f4.toList = key.toList) (h0 : y.f0 ≤ last) (h : y.f3 = 1 ∨ y.f3 = 2) : isW (bs key) last y = true := by
  unfold isW; exact decide_eq_true ⟨eq_key.1 h4, h0, h⟩
theorem isW_false {key : ByteArray} {last : Int} {y : S48} (h : ¬ (y.f4.toList = key.toList ∧ y.f0 ≤ last ∧ (y.f3 = 1 ∨ y.f3 = 2))) : isW (bs key) last y = false := by
  unfold isW; exact decide_eq_false (fun hh => h ⟨eq_key.2 hh.1, hh.2⟩)
theorem fnd_yes {l : List S48} {key : ByteArray} {last : Int} {i : Nat} (h : isW (bs key) last (rd_T48 l i) = true) : fnd l (bs key) last (i + 1) = some (rd_T48 l i) := by unfold fnd; rw [if_pos h]
theorem fnd_no {l : List S48} {key : ByteArray} {last : Int} {i : Nat} (h : isW (bs key) last (rd_T48 l i) = false) : fnd l (bs key) last (i + 1) = fnd l (bs key) last i := by rw [fnd, if_neg (by rw [h]; decide)]
theorem keysFind_go (l : List S48) (key : ByteArray) (last : Int) (hn : l.length ≤ 9223372036854775807) : ∀ (i k : Nat), i ≤ l.length → i < k → keys_Find.l0 k l key last ((i : Int) - 1) = some (tup (fnd l (bs key) last i))
  | 0, k, hi, hk => by
    obtain ⟨k, rfl, _⟩ := succ_of hk
    simp only [keys_Find.l0]
    rw [if_neg (by omega)]; rfl
  | i + 1, k, hi, hk => by
    obtain ⟨k, rfl, hk⟩ := succ_of hk
    have ih := keysFind_go l key last hn i k (by omega) (by omega)
    have hx : ((i + 1 : Nat) : Int) - 1 = (i : Int) := by omega
    have hw : wrap64 ((i : Int) - 1) = (i : Int) - 1 := by unfold wrap64; omega
    rw [hx]
    simp only [keys_Find.l0]
    rw [if_pos (by omega), if_pos (by omega), if_pos (by omega), hw]
    by_cases h4 : (rd_T48 l i).f4.toList = key.toList
    · by_cases h0 : (rd_T48 l i).f0 ≤ last
      · by_cases h1 : (rd_T48 l i).f3 = 1
        · rw [if_pos h4, if_pos h0, if_pos h1, fnd_yes (isW_true h4 h0 (.inl h1))]; rfl
        · by_cases h2 : (rd_T48 l i).f3 = 2
          · rw [if_pos h4, if_pos h0, if_neg h1, if_pos h2, fnd_yes (isW_true h4 h0 (.inr h2))]; rfl
          · rw [if_pos h4, if_pos h0, if_neg h1, if_neg h2, fnd_no (isW_false (fun h => h.2.2.elim h1 h2))]; exact ih
      · rw [if_pos h4, if_neg h0, fnd_no (isW_false (fun h => h0 h.2.1))]; exact ih
    · rw [if_neg h4, fnd_no (isW_false (fun h => h4 h.1))]; exact ih
theorem keysFind_eq (l : List S48) (key : ByteArray) (last : Int) (k : Nat) (hn : l.length ≤ 9223372036854775807) (hk : l.length < k) : keys_Find.f k l key last = some (tup (fnd l (bs key) last l.length)) := by
  have hw : wrap64 ((l.length : Int) - 1) = (l.length : Int) - 1 := by unfold wrap64; omega
  unfold keys_Find.f
  rw [hw]
  exact keysFind_go l key last hn l.length k (Nat.le_refl _) hk
def sz48 (e : S48) : Nat := 1 + (1 + (1 + (1 + (e.f4.size + 1 + (1 + (1 + ((e.f7.map fun _ => 1).sum + 1)))))))
theorem sum_ones : ∀ l : List Int, (l.map fun _ => 1).sum = l.length
  | [] => rfl
  | x :: l => by rw [List.map_cons, List.sum_cons, sum_ones l, List.length_cons]; omega
theorem mem_sum {α : Type} (f : α → Nat) : ∀ (l : List α) (x : α), x ∈ l → f x ≤ (l.map f).sum
  | y :: l, x, h => by
    rw [List.map_cons, List.sum_cons]
    rcases List.mem_cons.1 h with rfl | h
    · omega
    · have := mem_sum f l x h; omega
theorem len_sum : ∀ l : List S48, l.length ≤ (l.map sz48).sum
  | [] => by simp
  | x :: l => by rw [List.map_cons, List.sum_cons, List.length_cons]; have h0 := len_sum l; have h1 : 1 ≤ sz48 x := (by unfold sz48; omega); omega
theorem sz_mem {l : List S48} (h : (l.map sz48).sum ≤ 1048576) {e : S48} (he : e ∈ l) : e.f4.size ≤ 1048576 ∧ e.f7.length ≤ 1048576 := by
  have h1 := mem_sum sz48 l e he
  have h2 : e.f4.size + e.f7.length ≤ sz48 e := by unfold sz48; rw [sum_ones]; omega
  omega
theorem take_sum (l : List S48) (n : Nat) : ((l.take n).map sz48).sum ≤ (l.map sz48).sum := by
  have e : l.map sz48 = (l.take n).map sz48 ++ (l.drop n).map sz48 := by rw [← List.map_append, List.take_append_drop]
  rw [e, List.sum_append]; omega
theorem fnd_mem {l : List S48} {key : List UInt8} {last : Int} : ∀ {n : Nat} {e : S48}, n ≤ l.length → fnd l key last n = some e → e ∈ l
  | 0, e, hn, h => by cases h
  | n + 1, e, hn, h => by
    unfold fnd at h
    split at h
    · cases h; rw [rd48_nat (by omega)]; exact List.getElem_mem _
    · exact fnd_mem (by omega) h
theorem same_self (o : Option S48) (h : ∀ e, o = some e → e.f4.size ≤ 1048576 ∧ e.f7.length ≤ 1048576) :
    deadeyeref07_Same.f (tup o).1 (tup o).2.1 (tup o).2.2.1 (tup o).2.2.2.1 (tup o).2.2.2.2.1 (tup o).2.2.2.2.2.1 (tup o).2.2.2.2.2.2.1 (tup o).2.2.2.2.2.2.2.1 (tup o).1 (tup o).2.1 (tup o).2.2.1 (tup o).2.2.2.1 (tup o).2.2.2.2.1 (tup o).2.2.2.2.2.1 (tup o).2.2.2.2.2.2.1 (tup o).2.2.2.2.2.2.2.1 = some true := by
  obtain ⟨r, hr, _⟩ := one_some (tup o).1 (tup o).2.1 (tup o).2.2.1 (tup o).2.2.2.1 (tup o).2.2.2.2.1 (tup o).2.2.2.2.2.1 (tup o).2.2.2.2.2.2.1 (tup o).2.2.2.2.2.2.2.1
    (by cases o with | none => exact Nat.zero_le _ | some e => exact (h e rfl).1) (by cases o with | none => exact Nat.zero_le _ | some e => exact (h e rfl).2)
  unfold deadeyeref07_Same.f
  rw [hr, Option.bind_some, Option.bind_some]
  simp
theorem rising_snoc : ∀ (out : List S48) (y : S48), risingB out = true → (∀ e, out.getLast? = some e → e.f0 < y.f0) → risingB (out ++ [y]) = true
  | [], y, _, _ => rfl
  | [x], y, _, h => by
    have := h x rfl
    show (decide (x.f0 < y.f0) && risingB [y]) = true
    simp [risingB, this]
  | x :: z :: r, y, hr, h => by
    have h1 : (decide (x.f0 < z.f0) && risingB (z :: r)) = true := hr
    rw [Bool.and_eq_true] at h1
    have ih := rising_snoc (z :: r) y h1.2 (fun e he => h e (by rw [List.getLast?_cons_cons]; exact he))
    show (decide (x.f0 < z.f0) && risingB (z :: r ++ [y])) = true
    rw [h1.1]
    exact ih
theorem last_rd {out : List S48} (h : 0 < out.length) {e : S48} (he : out.getLast? = some e) : rd_T48 out ((out.length : Int) - 1) = e := by
  have e1 : ((out.length : Int) - 1) = ((out.length - 1 : Nat) : Int) := by omega
  rw [e1, rd48_nat (by omega)]
  rw [List.getLast?_eq_getElem?] at he
  rw [List.getElem?_eq_getElem (by omega)] at he
  exact Option.some.inj he
theorem rising_go (l : List S48) (hn : l.length ≤ 9223372036854775807) : ∀ (d i k : Nat) (out : List S48), i + d = l.length → 2 * d + 2 ≤ k → out.length ≤ 60 → risingB out = true → out.Sublist (l.take i) →
    ∃ r, deadeyelaw10_rising.l0 k l out (i : Int) = some r ∧ r.length ≤ 60 ∧ risingB r = true ∧ r.Sublist l
  | 0, i, k, out, hi, hk, hl, hr, hs => by
    obtain ⟨k, rfl⟩ : ∃ m, k = m + 2 := ⟨k - 2, by omega⟩
    simp only [deadeyelaw10_rising.l0, deadeyelaw10_rising.j1]
    rw [if_neg (by omega), if_neg (by decide)]
    exact ⟨out, rfl, hl, hr, hs.trans (List.take_sublist _ _)⟩
  | d + 1, i, k, out, hi, hk, hl, hr, hs => by
    obtain ⟨k, rfl⟩ : ∃ m, k = m + 2 := ⟨k - 2, by omega⟩
    have hlt : i < l.length := by omega
    have hs1 : out.Sublist (l.take (i + 1)) := hs.trans (List.take_sublist_take_left (by omega))
    have hs2 : (out ++ [rd_T48 l (i : Int)]).Sublist (l.take (i + 1)) := by
      rw [List.take_succ_eq_append_getElem hlt, rd48_nat hlt]
      exact hs.append (List.Sublist.refl _)
    simp only [deadeyelaw10_rising.l0, deadeyelaw10_rising.j1]
    rw [if_pos (by omega)]
    by_cases h60 : (out.length : Int) < 60
    · rw [if_pos (decide_eq_true h60), wr hlt hn]
      by_cases h0 : (out.length : Int) = 0
      · rw [if_pos h0, if_pos (by omega), if_pos (by omega), if_pos (by omega)]
        have hnil : out = [] := List.eq_nil_of_length_eq_zero (by omega)
        exact rising_go l hn d (i + 1) k (out ++ [rd_T48 l (i : Int)]) (by omega) (by omega) (by simp; omega) (rising_snoc out _ hr (fun e he => by rw [hnil] at he; cases he)) hs2
      · have hw : wrap64 ((out.length : Int) - 1) = (out.length : Int) - 1 := by unfold wrap64; omega
        rw [if_neg h0, if_pos (by omega), if_pos (by omega), hw, if_pos (by omega), if_pos (by omega)]
        by_cases hgt : (rd_T48 l (i : Int)).f0 > (rd_T48 out ((out.length : Int) - 1)).f0
        · rw [if_pos hgt, if_pos (by omega)]
          exact rising_go l hn d (i + 1) k (out ++ [rd_T48 l (i : Int)]) (by omega) (by omega) (by simp; omega) (rising_snoc out _ hr (fun e he => by rw [← last_rd (by omega) he]; exact hgt)) hs2
        · rw [if_neg hgt]
          exact rising_go l hn d (i + 1) k out (by omega) (by omega) hl hr hs1
    · rw [if_neg (by simp [h60])]
      exact ⟨out, rfl, hl, hr, hs.trans (List.take_sublist _ _)⟩
theorem rising_some (l : List S48) (hn : l.length ≤ 9223372036854775807) (k : Nat) (hk : 2 * l.length + 2 ≤ k) : ∃ r, deadeyelaw10_rising.f k l = some r ∧ r.length ≤ 60 ∧ risingB r = true ∧ r.Sublist l :=
  rising_go l hn l.length 0 k [] (by omega) hk (by simp) rfl (List.nil_sublist _)
end Go.Proofs.Yteeeiaggkdlolaa.Ky
