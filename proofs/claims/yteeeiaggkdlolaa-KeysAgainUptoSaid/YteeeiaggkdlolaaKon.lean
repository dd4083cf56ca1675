/- The bytes of entries: they are told, and how many they are at most. -/
import Derived.Test.YteeeiaggkdlolaaKyo
namespace Go.Proofs.Yteeeiaggkdlolaa.Ky
open Go.RowKit Go.Proofs.YteeeiaggkdlolaaW.PrintWords Go.Proofs.YteeeiaggkdlolaaW.PrintLast Go.Proofs.YteeeiaggkdlolaaW.PrintMore
set_option linter.unusedVariables false
set_option linter.unusedSimpArgs false

theorem u64_range (x : Int) : 0 ≤ IntKind.u64.wrap x ∧ IntKind.u64.wrap x < 18446744073709551616 := by
  have h : IntKind.u64.wrap x = x % 18446744073709551616 := by simp [IntKind.wrap, IntKind.signed, IntKind.bits]
  rw [h]; omega
theorem u64_id {x : Int} (h0 : 0 ≤ x) (h1 : x < 18446744073709551616) : IntKind.u64.wrap x = x := by
  have h : IntKind.u64.wrap x = x % 18446744073709551616 := by simp [IntKind.wrap, IntKind.signed, IntKind.bits]
  rw [h]; omega
theorem num_l0 : ∀ (n k : Nat) (x : Int) (out : List Int), n < k → 0 ≤ x → x < 128 * 128 ^ n → out.length + n + 1 < 140737488355328 → x < 18446744073709551616 → ∃ r, deadeyeref04_Num.l0 k x out = some r ∧ r.length ≤ out.length + n + 1
  | 0, k, x, out, hk, h0, h1, hl, h64 => by
    obtain ⟨k, rfl⟩ : ∃ m, k = m + 1 := ⟨k - 1, by omega⟩
    simp only [deadeyeref04_Num.l0]
    rw [if_neg (by omega), if_pos (by omega)]
    exact ⟨_, rfl, by simp⟩
  | n + 1, k, x, out, hk, h0, h1, hl, h64 => by
    obtain ⟨k, rfl⟩ : ∃ m, k = m + 1 := ⟨k - 1, by omega⟩
    simp only [deadeyeref04_Num.l0]
    by_cases hx : x ≥ 128
    · rw [if_pos hx, if_pos (by omega)]
      have hd : Int.tdiv x 128 = x / 128 := Int.tdiv_eq_ediv_of_nonneg h0
      have hw : IntKind.u64.wrap (Int.tdiv x 128) = x / 128 := by rw [hd]; exact u64_id (by omega) (by omega)
      rw [hw]
      obtain ⟨r, hr, hrl⟩ := num_l0 n k (x / 128) (out ++ [((Int.tmod x 128) + 128) % 256]) (by omega) (by omega) (by rw [Int.pow_succ] at h1; omega) (by simp; omega) (by omega)
      exact ⟨r, hr, by simp at hrl; omega⟩
    · rw [if_neg hx, if_pos (by omega)]
      exact ⟨_, rfl, by simp⟩
theorem num_some (k : Nat) (x : Int) (hk : 12 ≤ k) : ∃ r, deadeyeref04_Num.f k x = some r ∧ r.length ≤ 10 := by
  obtain ⟨k, rfl⟩ : ∃ m, k = m + 1 := ⟨k - 1, by omega⟩
  have key : ∀ y, deadeyeref04_Num.j0 (k + 1) (IntKind.u64.wrap y) = deadeyeref04_Num.l0 k (IntKind.u64.wrap y) [] := fun y => rfl
  have go : ∀ y, ∃ r, deadeyeref04_Num.l0 k (IntKind.u64.wrap y) [] = some r ∧ r.length ≤ 10 := fun y => by
    obtain ⟨h0, h1⟩ := u64_range y
    obtain ⟨r, hr, hl⟩ := num_l0 9 k (IntKind.u64.wrap y) [] (by omega) h0 (by omega) (by simp) h1
    exact ⟨r, hr, by simpa using hl⟩
  unfold deadeyeref04_Num.f
  split
  · rw [key]; exact go _
  · rw [key]; exact go _
theorem nums_l0 (l : List Int) (hn : l.length ≤ 1048576) : ∀ (d i k : Nat) (out : List Int), i + d = l.length → d + 12 < k → out.length + 10 * d < 140737488355328 → ∃ r, deadeyeref07_nums.l0 k l out (i : Int) = some r ∧ r.length ≤ out.length + 10 * d
  | 0, i, k, out, hi, hk, hl => by
    obtain ⟨k, rfl⟩ : ∃ m, k = m + 1 := ⟨k - 1, by omega⟩
    simp only [deadeyeref07_nums.l0]
    rw [if_neg (by omega)]
    exact ⟨_, rfl, by omega⟩
  | d + 1, i, k, out, hi, hk, hl => by
    obtain ⟨k, rfl⟩ : ∃ m, k = m + 1 := ⟨k - 1, by omega⟩
    simp only [deadeyeref07_nums.l0]
    obtain ⟨t, ht, htl⟩ := num_some k (rd l (i : Int)) (by omega)
    have hw : wrap64 ((i : Int) + 1) = ((i + 1 : Nat) : Int) := by unfold wrap64; omega
    rw [if_pos (by omega), if_pos (by omega), ht, Option.bind_some, if_pos (by omega), hw]
    obtain ⟨r, hr, hrl⟩ := nums_l0 l hn d (i + 1) k (out ++ t) (by omega) (by omega) (by simp; omega)
    exact ⟨r, hr, by simp at hrl; omega⟩
theorem nums_some (k : Nat) (l : List Int) (hn : l.length ≤ 1048576) (hk : l.length + 13 ≤ k) : ∃ r, deadeyeref07_nums.f k l = some r ∧ r.length ≤ 10 * l.length := by
  obtain ⟨r, hr, hl⟩ := nums_l0 l hn l.length 0 k [] (by omega) (by omega) (by simp; omega)
  exact ⟨r, hr, by simpa using hl⟩
theorem text_some (k : Nat) (l : List Int) (hn : l.length ≤ 1048576) (hk : 12 ≤ k) : ∃ r, deadeyeref04_Text.f k l = some r ∧ r.length ≤ 10 + l.length := by
  obtain ⟨t, ht, htl⟩ := num_some k (l.length : Int) hk
  unfold deadeyeref04_Text.f
  rw [ht, Option.bind_some, if_pos (by omega)]
  exact ⟨_, rfl, by simp; omega⟩
theorem one_some (a0 a1 a2 a3 : Int) (a4 : ByteArray) (a5 a6 : Int) (l7 : List Int) (h4 : a4.size ≤ 1048576) (h7 : l7.length ≤ 1048576) : ∃ r, deadeyeref07_One.f a0 a1 a2 a3 a4 a5 a6 l7 = some r ∧ r.length ≤ 80 + a4.size + l7.length := by
  obtain ⟨t, ht, htl⟩ := nums_some 20 [a0, a1, a2, a3, a5, wrap64 a6] (by simp) (by simp)
  obtain ⟨u, hu, hul⟩ := text_some 20 (bytesOf a4) (by rw [bytesOf_length]; omega) (by omega)
  obtain ⟨v, hv, hvl⟩ := text_some 20 l7 (by omega) (by omega)
  rw [bytesOf_length] at hul
  have htl' : t.length ≤ 60 := by simpa using htl
  unfold deadeyeref07_One.f
  rw [ht, Option.bind_some, hu, Option.bind_some, if_pos ⟨h4, by omega⟩, hv, Option.bind_some, if_pos (by simp; omega)]
  exact ⟨_, rfl, by simp; omega⟩
end Go.Proofs.Yteeeiaggkdlolaa.Ky
