/- What counts of rising entries: keys.Live and the reference's Live tell the same; the bytes of entries; rising. -/
import Derived.Test.YteeeiaggkdlolaaKyr
import Derived.Test.YteeeiaggkdlolaaKon
import Derived.Test.YteeeiaggkdlolaaKf30
import Derived.Test.YteeeiaggkdlolaaKf31
namespace Go.Proofs.Yteeeiaggkdlolaa.Ky
open Go.RowKit Go.Sort Go.Proofs.YteeeiaggkdlolaaW.PrintWords Go.Proofs.YteeeiaggkdlolaaW.PrintLast Go.Proofs.YteeeiaggkdlolaaW.PrintMore
set_option linter.unusedVariables false
set_option linter.unusedSimpArgs false

/-! ### rising -/
theorem rising_snoc : ∀ (out : List S48) (y : S48), risingB out = true → (∀ e, out.getLast? = some e → e.f0 < y.f0) → risingB (out ++ [y]) = true
  | [], y, _, _ => rfl
  | [x], y, _, h => by
    have := h x rfl
    show (decide (x.f0 < y.f0) && risingB [y]) = true
    simp [risingB, this]
  | x :: z :: r, y, hr, h => by
    have h1 : (decide (x.f0 < z.f0) && risingB (z :: r)) = true := hr
    rw [Bool.and_eq_true] at h1
    have ih := rising_snoc (z :: r) y h1.2 (fun e he => h e (by rw [List.getLast?_cons_cons]; exact he))
    show (decide (x.f0 < z.f0) && risingB (z :: r ++ [y])) = true
    rw [h1.1]
    exact ih
theorem last_rd {out : List S48} (h : 0 < out.length) {e : S48} (he : out.getLast? = some e) : rd_T48 out ((out.length : Int) - 1) = e := by
  have e1 : ((out.length : Int) - 1) = ((out.length - 1 : Nat) : Int) := by omega
  rw [e1, rd48_nat (by omega)]
  rw [List.getLast?_eq_getElem?] at he
  rw [List.getElem?_eq_getElem (by omega)] at he
  exact Option.some.inj he
theorem rising_go (l : List S48) (hn : l.length ≤ 9223372036854775807) : ∀ (d i k : Nat) (out : List S48), i + d = l.length → 2 * d + 2 ≤ k → out.length ≤ 60 → risingB out = true → out.Sublist (l.take i) →
    ∃ r, deadeyelaw10_rising.l0 k l out (i : Int) = some r ∧ r.length ≤ 60 ∧ risingB r = true ∧ r.Sublist l
  | 0, i, k, out, hi, hk, hl, hr, hs => by
    obtain ⟨k, rfl⟩ : ∃ m, k = m + 2 := ⟨k - 2, by omega⟩
    simp only [deadeyelaw10_rising.l0, deadeyelaw10_rising.j1]
    rw [if_neg (by omega), if_neg (by decide)]
    exact ⟨out, rfl, hl, hr, hs.trans (List.take_sublist _ _)⟩
  | d + 1, i, k, out, hi, hk, hl, hr, hs => by
    obtain ⟨k, rfl⟩ : ∃ m, k = m + 2 := ⟨k - 2, by omega⟩
    have hlt : i < l.length := by omega
    have hs1 : out.Sublist (l.take (i + 1)) := hs.trans (List.take_sublist_take_left (by omega))
    have hs2 : (out ++ [rd_T48 l (i : Int)]).Sublist (l.take (i + 1)) := by
      rw [List.take_succ_eq_append_getElem hlt, rd48_nat hlt]
      exact hs.append (List.Sublist.refl _)
    simp only [deadeyelaw10_rising.l0, deadeyelaw10_rising.j1]
    rw [if_pos (by omega)]
    by_cases h60 : (out.length : Int) < 60
    · rw [if_pos (decide_eq_true h60), wr hlt hn]
      by_cases h0 : (out.length : Int) = 0
      · rw [if_pos h0, if_pos (by omega), if_pos (by omega), if_pos (by omega)]
        have hnil : out = [] := List.eq_nil_of_length_eq_zero (by omega)
        exact rising_go l hn d (i + 1) k (out ++ [rd_T48 l (i : Int)]) (by omega) (by omega) (by simp; omega) (rising_snoc out _ hr (fun e he => by rw [hnil] at he; cases he)) hs2
      · have hw : wrap64 ((out.length : Int) - 1) = (out.length : Int) - 1 := by unfold wrap64; omega
        rw [if_neg h0, if_pos (by omega), if_pos (by omega), hw, if_pos (by omega), if_pos (by omega)]
        by_cases hgt : (rd_T48 l (i : Int)).f0 > (rd_T48 out ((out.length : Int) - 1)).f0
        · rw [if_pos hgt, if_pos (by omega)]
          exact rising_go l hn d (i + 1) k (out ++ [rd_T48 l (i : Int)]) (by omega) (by omega) (by simp; omega) (rising_snoc out _ hr (fun e he => by rw [← last_rd (by omega) he]; exact hgt)) hs2
        · rw [if_neg hgt]
          exact rising_go l hn d (i + 1) k out (by omega) (by omega) hl hr hs1
    · rw [if_neg (by simp [h60])]
      exact ⟨out, rfl, hl, hr, hs.trans (List.take_sublist _ _)⟩
theorem rising_some (l : List S48) (hn : l.length ≤ 9223372036854775807) (k : Nat) (hk : 2 * l.length + 2 ≤ k) : ∃ r, deadeyelaw10_rising.f k l = some r ∧ r.length ≤ 60 ∧ risingB r = true ∧ r.Sublist l :=
  rising_go l hn l.length 0 k [] (by omega) hk (by simp) rfl (List.nil_sublist _)

/-! ### the bytes of entries -/
theorem many_l0 (l : List S48) (hl : l.length ≤ 1000) (hb : ∀ e ∈ l, e.f4.size ≤ 1048576 ∧ e.f7.length ≤ 1048576) : ∀ (d i k : Nat) (out : List Int), i + d = l.length → d < k → out.length + 2097232 * d < 140737488355328 → ∃ r, deadeyeref07_Many.l0 k l out (i : Int) = some r
  | 0, i, k, out, hi, hk, ho => by
    obtain ⟨k, rfl⟩ : ∃ m, k = m + 1 := ⟨k - 1, by omega⟩
    simp only [deadeyeref07_Many.l0]
    rw [if_neg (by omega)]
    exact ⟨out, rfl⟩
  | d + 1, i, k, out, hi, hk, ho => by
    obtain ⟨k, rfl⟩ : ∃ m, k = m + 1 := ⟨k - 1, by omega⟩
    have hlt : i < l.length := by omega
    obtain ⟨b1, b2⟩ := hb l[i] (List.getElem_mem hlt)
    rw [← rd48_nat hlt] at b1 b2
    obtain ⟨t, ht, htl⟩ := one_some (rd_T48 l i).f0 (rd_T48 l i).f1 (rd_T48 l i).f2 (rd_T48 l i).f3 (rd_T48 l i).f4 (rd_T48 l i).f5 (rd_T48 l i).f6 (rd_T48 l i).f7 b1 b2
    simp only [deadeyeref07_Many.l0]
    rw [if_pos (by omega), if_pos (by omega), ht, Option.bind_some, if_pos (by omega), wr hlt (by omega)]
    exact many_l0 l hl hb d (i + 1) k (out ++ t) (by omega) (by omega) (by simp; omega)
theorem many_some (l : List S48) (hl : l.length ≤ 1000) (hb : ∀ e ∈ l, e.f4.size ≤ 1048576 ∧ e.f7.length ≤ 1048576) (k : Nat) (hk : l.length + 20 ≤ k) : ∃ r, deadeyeref07_Many.f k l = some r := by
  obtain ⟨t, ht, htl⟩ := nums_some k [(l.length : Int)] (by simp) (by simp; omega)
  have htl' : t.length ≤ 10 := by simpa using htl
  unfold deadeyeref07_Many.f
  rw [ht, Option.bind_some]
  exact many_l0 l hl hb l.length 0 k t (by omega) (by omega) (by omega)
theorem sameAll_self (l : List S48) (hl : l.length ≤ 1000) (hb : ∀ e ∈ l, e.f4.size ≤ 1048576 ∧ e.f7.length ≤ 1048576) (k : Nat) (hk : l.length + 20 ≤ k) : deadeyeref07_SameAll.f k l l = some true := by
  obtain ⟨r, hr⟩ := many_some l hl hb k hk
  unfold deadeyeref07_SameAll.f
  rw [hr, Option.bind_some, Option.bind_some]
  simp

/-! ### what counts -/
theorem fnd_st1 (l : List S48) (last : Int) (key : List UInt8) : ∀ n, (st1 l last n key = none ∧ ∀ e, fnd l key last n = some e → e.f3 ≠ 1) ∨ ∃ i, i < n ∧ st1 l last n key = some i ∧ fnd l key last n = some (rd_T48 l i) ∧ (rd_T48 l i).f3 = 1
  | 0 => .inl ⟨rfl, fun e h => by cases h⟩
  | n + 1 => by
    have ih := fnd_st1 l last key n
    have keep : isW key last (rd_T48 l n) = false → st1 l last (n + 1) key = st1 l last n key → (st1 l last (n + 1) key = none ∧ ∀ e, fnd l key last (n + 1) = some e → e.f3 ≠ 1) ∨ ∃ i, i < n + 1 ∧ st1 l last (n + 1) key = some i ∧ fnd l key last (n + 1) = some (rd_T48 l i) ∧ (rd_T48 l i).f3 = 1 := by
      intro hw hs
      rw [hs, fnd, if_neg (by rw [hw]; decide)]
      rcases ih with h | ⟨i, h1, h2⟩
      · exact .inl h
      · exact .inr ⟨i, by omega, h2⟩
    by_cases h0 : last < (rd_T48 l n).f0
    · exact keep (by unfold isW; simp; intros; omega) (by rw [st1, if_pos h0])
    · by_cases hk : key = bs (rd_T48 l n).f4
      · by_cases h1 : (rd_T48 l n).f3 = 1
        · refine .inr ⟨n, by omega, by rw [st1, if_neg h0, if_pos h1, if_pos hk], ?_, h1⟩
          rw [fnd, if_pos (by unfold isW; exact decide_eq_true ⟨hk.symm, by omega, .inl h1⟩)]
        · by_cases h2 : (rd_T48 l n).f3 = 2
          · refine .inl ⟨by rw [st1, if_neg h0, if_neg h1, if_pos h2, if_pos hk], fun e he => ?_⟩
            rw [fnd, if_pos (by unfold isW; exact decide_eq_true ⟨hk.symm, by omega, .inr h2⟩)] at he
            cases he
            exact h1
          · exact keep (by unfold isW; simp [h1, h2]) (by rw [st1, if_neg h0, if_neg h1, if_neg h2])
      · refine keep (by unfold isW; simp; intro h; exact absurd h.symm hk) ?_
        rw [st1, if_neg h0]
        by_cases a1 : (rd_T48 l n).f3 = 1
        · rw [if_pos a1, if_neg hk]
        · rw [if_neg a1]
          by_cases a2 : (rd_T48 l n).f3 = 2
          · rw [if_pos a2, if_neg hk]
          · rw [if_neg a2]
theorem st2_iff (l : List S48) (last c : Int) (i : Nat) (hc : (rd_T48 l i).f1 = c) (h0 : ¬ last < (rd_T48 l i).f0) : ∀ n, i < n → (st2 l last n c = some i ↔ ∀ j, i < j → j < n → ¬ ((rd_T48 l j).f0 ≤ last ∧ (rd_T48 l j).f1 = c))
  | 0, hn => by omega
  | n + 1, hn => by
    rcases Nat.lt_or_ge i n with hin | hin
    · have ih := st2_iff l last c i hc h0 n hin
      by_cases h1 : last < (rd_T48 l n).f0
      · rw [st2, if_pos h1, ih]
        constructor
        · intro h j hj hjn
          rcases Nat.lt_or_ge j n with q | q
          · exact h j hj q
          · obtain rfl : j = n := by omega
            omega
        · exact fun h j hj hjn => h j hj (by omega)
      · by_cases h2 : c = (rd_T48 l n).f1
        · rw [st2, if_neg h1, if_pos h2]
          constructor
          · intro h; injection h with h; omega
          · intro h
            exact absurd ⟨by omega, h2.symm⟩ (h n hin (by omega))
        · rw [st2, if_neg h1, if_neg h2, ih]
          constructor
          · intro h j hj hjn
            rcases Nat.lt_or_ge j n with q | q
            · exact h j hj q
            · obtain rfl : j = n := by omega
              exact fun hh => h2 hh.2.symm
          · exact fun h j hj hjn => h j hj (by omega)
    · obtain rfl : i = n := by omega
      rw [st2, if_neg h0, if_pos hc.symm]
      exact ⟨fun _ j hj hjn => by omega, fun _ => rfl⟩
theorem laterB_iff (l : List S48) (last c : Int) (i : Nat) : laterB last c (l.drop i) = true ↔ ∃ j, i ≤ j ∧ j < l.length ∧ (rd_T48 l j).f0 ≤ last ∧ (rd_T48 l j).f1 = c := by
  unfold laterB
  rw [List.any_eq_true]
  constructor
  · rintro ⟨y, hy, hb⟩
    obtain ⟨n, hn, rfl⟩ := List.mem_iff_getElem.1 hy
    rw [List.length_drop] at hn
    rw [List.getElem_drop] at hb
    refine ⟨i + n, by omega, by omega, ?_⟩
    rw [rd48_nat (show i + n < l.length by omega)]
    simpa using hb
  · rintro ⟨j, hij, hj, h0, h1⟩
    refine ⟨l[j], ?_, by rw [← rd48_nat hj]; simp [h0, h1]⟩
    rw [List.mem_iff_getElem]
    refine ⟨j - i, by rw [List.length_drop]; omega, ?_⟩
    rw [List.getElem_drop]
    congr 1
    omega
theorem live_at_eq (l : List S48) (last : Int) (hr : risingB l = true) (i : Nat) (hi : i < l.length) : liveAt l last i = rlAt l last i := by
  unfold liveAt rlAt
  by_cases h0 : last < (rd_T48 l i).f0
  · rw [if_pos h0, if_neg (fun h => by have := (st1_at h).2.2.1; omega), if_neg (fun h => by have := (st2_at h).2.2; omega)]
  · rw [if_neg h0]
    have hput : putB (fndT l last i) (rd_T48 l i).f0 (rd_T48 l i).f3 = true ↔ st1 l last l.length (bs (rd_T48 l i).f4) = some i := by
      unfold fndT
      rcases fnd_st1 l last (bs (rd_T48 l i).f4) l.length with ⟨h1, h2⟩ | ⟨j, hj, h1, h2, h3⟩
      · rw [h1]
        constructor
        · intro h
          cases hf : fnd l (bs (rd_T48 l i).f4) last l.length with
          | none => rw [hf] at h; simp [putB, tup] at h
          | some e =>
            rw [hf] at h
            have := h2 e hf
            simp [putB, tup] at h
            exact absurd h.1.1 this
        · intro h; cases h
      · rw [h1, h2]
        constructor
        · intro h
          simp only [putB, tup, Bool.and_eq_true, beq_iff_eq, Bool.true_and] at h
          rw [rd_inj hr hj hi h.1.2]
        · intro h
          injection h with h
          subst h
          simp [putB, tup, h3]
    by_cases hp : st1 l last l.length (bs (rd_T48 l i).f4) = some i
    · rw [if_pos hp, if_pos (hput.2 hp)]
    · rw [if_neg hp, if_neg (fun h => hp (hput.1 h))]
      have h2 := st2_iff l last (rd_T48 l i).f1 i rfl h0 l.length hi
      have h3 := laterB_iff l last (rd_T48 l i).f1 (i + 1)
      by_cases hq : st2 l last l.length (rd_T48 l i).f1 = some i
      · rw [if_pos hq, if_neg (fun h => by obtain ⟨j, j1, j2, j3⟩ := h3.1 h; exact h2.1 hq j (by omega) j2 j3)]
      · rw [if_neg hq, if_pos]
        refine h3.2 ?_
        refine Classical.byContradiction (fun hh => hq (h2.2 (fun j j1 j2 j3 => hh ⟨j, by omega, j2, j3⟩)))
theorem filterMap_ext' {α β : Type} {f g : α → Option β} : ∀ l : List α, (∀ x ∈ l, f x = g x) → l.filterMap f = l.filterMap g
  | [], _ => rfl
  | x :: l, h => by
    have h1 := h x (by simp)
    have h2 := filterMap_ext' (f := f) (g := g) l (fun y hy => h y (List.mem_cons_of_mem _ hy))
    rw [List.filterMap_cons, List.filterMap_cons, h1, h2]
theorem liveList_eq (l : List S48) (last : Int) (hr : risingB l = true) : liveList l last = (List.range l.length).filterMap (rlAt l last) :=
  filterMap_ext' _ (fun i hi => live_at_eq l last hr i (List.mem_range.1 hi))
theorem liveList_mem {l : List S48} {last : Int} {e : S48} (h : e ∈ liveList l last) : ∃ x ∈ l, e = x ∨ e = trim48 x := by
  unfold liveList at h
  rw [List.mem_filterMap] at h
  obtain ⟨i, hi, h⟩ := h
  have hi := List.mem_range.1 hi
  refine ⟨rd_T48 l i, by rw [rd48_nat hi]; exact List.getElem_mem _, ?_⟩
  unfold liveAt at h
  split at h
  · cases h; exact .inl rfl
  · split at h
    · cases h; exact .inr rfl
    · cases h
theorem liveList_length (l : List S48) (last : Int) : (liveList l last).length ≤ l.length := by
  unfold liveList
  exact Nat.le_trans (List.length_filterMap_le _ _) (by simp)
theorem okE_of {l m : List S48} (hs : m.Sublist l) (hsz : (l.map sz48).sum ≤ 1048576) (hG : ∀ e ∈ l, (Lit.int .i64 e.f1).wf = true) : okE m = true := by
  refine List.all_eq_true.2 (fun e he => ?_)
  have he' := hs.subset he
  have := (sz_mem hsz he').1
  rw [Bool.and_eq_true]
  exact ⟨decide_eq_true (by unfold maxLen; omega), hG e he'⟩
end Go.Proofs.Yteeeiaggkdlolaa.Ky
