/- Names, texts, and what counts of rising entries. -/
import Derived.Test.YteeeiaggkdlolaaKvk
import Derived.Test.YteeeiaggkdlolaaKf26
import Derived.Test.YteeeiaggkdlolaaKf31
namespace Go.Proofs.Yteeeiaggkdlolaa.Ky
open Go.RowKit Go.Sort Go.Proofs.YteeeiaggkdlolaaW.PrintWords Go.Proofs.YteeeiaggkdlolaaW.PrintLast Go.Proofs.YteeeiaggkdlolaaW.PrintMore
set_option linter.unusedVariables false
set_option linter.unusedSimpArgs false

def isPut (l : List S48) (last : Int) (x : List UInt8) (n : Nat) : Bool := match fnd l x last n with | some e => decide (e.f3 = 1) | none => false
theorem nameSet_spec (l : List S48) (last : Int) : ∀ n, n ≤ l.length → (nameSet last (l.take n)).Nodup ∧ ∀ x, x ∈ nameSet last (l.take n) ↔ isPut l last x n = true
  | 0, _ => by simp [nameSet, isPut, fnd]
  | n + 1, hn => by
    obtain ⟨ih1, ih2⟩ := nameSet_spec l last n (by omega)
    have e : nameSet last (l.take (n + 1)) = nameStep last (nameSet last (l.take n)) (rd_T48 l n) := by
      unfold nameSet
      rw [List.take_succ_eq_append_getElem (by omega), List.foldl_append]
      simp [rd_T48, List.getD_eq_getElem?_getD, List.getElem?_eq_getElem (show n < l.length by omega)]
    rw [e]
    generalize nameSet last (l.take n) = S at *
    have hP : ∀ x, isPut l last x (n + 1) = if isW x last (rd_T48 l n) = true then decide ((rd_T48 l n).f3 = 1) else isPut l last x n := by
      intro x; unfold isPut; rw [fnd]; by_cases hw : isW x last (rd_T48 l n) = true
      · simp [hw]
      · simp [hw]
    unfold nameStep
    by_cases h0 : last < (rd_T48 l n).f0
    · rw [if_pos h0]
      refine ⟨ih1, fun x => ?_⟩
      rw [hP, if_neg (by unfold isW; simp; intros; omega)]
      exact ih2 x
    · rw [if_neg h0]
      by_cases h1 : (rd_T48 l n).f3 = 1
      · rw [if_pos h1]
        refine ⟨List.nodup_cons.2 ⟨by simp, ih1.filter _⟩, fun x => ?_⟩
        rw [List.mem_cons, mem_cut, hP]
        by_cases hx : x = bs (rd_T48 l n).f4
        · rw [if_pos (by unfold isW; exact decide_eq_true ⟨hx.symm, by omega, .inl h1⟩)]
          simp [hx, h1]
        · rw [if_neg (by unfold isW; simp; intro h; exact absurd h.symm hx)]
          simp [hx, ih2]
      · rw [if_neg h1]
        by_cases h2 : (rd_T48 l n).f3 = 2
        · rw [if_pos h2]
          refine ⟨ih1.filter _, fun x => ?_⟩
          rw [mem_cut, hP]
          by_cases hx : x = bs (rd_T48 l n).f4
          · rw [if_pos (by unfold isW; exact decide_eq_true ⟨hx.symm, by omega, .inr h2⟩)]
            simp [hx, h1]
          · rw [if_neg (by unfold isW; simp; intro h; exact absurd h.symm hx)]
            simp [hx, ih2]
        · rw [if_neg h2]
          refine ⟨ih1, fun x => ?_⟩
          rw [hP, if_neg (by unfold isW; simp; intros; omega)]
          exact ih2 x
theorem ltne {a b : List UInt8} (h : a ≤ b) (hn : a ≠ b) : a < b := Decidable.byContradiction (fun hh => hn (List.le_antisymm h (List.not_lt.1 hh)))
theorem sorted_ext : ∀ {a b : List (List UInt8)}, a.Pairwise (· < ·) → b.Pairwise (· < ·) → (∀ x, x ∈ a ↔ x ∈ b) → a = b := by
  intro a b ha hb h
  have na : a.Nodup := ha.imp (fun {x y} hxy e => by subst e; exact absurd hxy (List.lt_irrefl x))
  have nb : b.Nodup := hb.imp (fun {x y} hxy e => by subst e; exact absurd hxy (List.lt_irrefl x))
  have hp : a.Perm b := (List.perm_ext_iff_of_nodup na nb).2 h
  exact List.Perm.eq_of_pairwise (le := (· < ·)) (fun x y _ _ h1 h2 => absurd (List.lt_trans h1 h2) (List.lt_irrefl x)) ha hb hp
theorem strict_of_le {a : List (List UInt8)} (h : a.Pairwise (· ≤ ·)) (hn : a.Nodup) : a.Pairwise (· < ·) := by
  refine (h.and hn).imp (fun {x y} hxy => ?_)
  rcases hxy with ⟨h1, h2⟩
  exact ltne h1 h2
theorem texts_go (a b : List ByteArray) (h : a.map bs = b.map bs) (hn : a.length ≤ 9223372036854775807) : ∀ (d i k : Nat), i + d = a.length → d < k → deadeyeref10_Texts.l0 k a b (i : Int) = some true
  | 0, i, k, hi, hk => by
    obtain ⟨k, rfl, _⟩ := succ_of hk
    simp only [deadeyeref10_Texts.l0]
    rw [if_neg (by omega)]
  | d + 1, i, k, hi, hk => by
    obtain ⟨k, rfl, hk⟩ := succ_of hk
    have hlt : i < a.length := by omega
    have hl : a.length = b.length := by simpa using congrArg List.length h
    have hb : i < b.length := by omega
    simp only [deadeyeref10_Texts.l0]
    rw [if_pos (by omega), if_pos (by omega), if_pos (by omega), wr hlt hn, if_pos ?_]
    · exact texts_go a b h hn d (i + 1) k (by omega) (by omega)
    · rw [eq_key]
      have := congrArg (fun z => z[i]?) h
      simpa [rdOf, List.getD_eq_getElem?_getD, List.getElem?_eq_getElem hlt, List.getElem?_eq_getElem hb] using this
theorem texts_eq (a b : List ByteArray) (h : a.map bs = b.map bs) (hn : a.length ≤ 9223372036854775807) (k : Nat) (hk : a.length < k) : deadeyeref10_Texts.f k a b = some true := by
  have hl : a.length = b.length := by simpa using congrArg List.length h
  unfold deadeyeref10_Texts.f
  rw [if_pos (by omega)]
  exact texts_go a b h hn a.length 0 k (by omega) hk
theorem many_l0 (l : List S48) (hl : l.length ≤ 1000) (hb : ∀ e ∈ l, e.f4.size ≤ 1048576 ∧ e.f7.length ≤ 1048576) : ∀ (d i k : Nat) (out : List Int), i + d = l.length → d < k → out.length + 2097232 * d < 140737488355328 → ∃ r, deadeyeref07_Many.l0 k l out (i : Int) = some r
  | 0, i, k, out, hi, hk, ho => by
    obtain ⟨k, rfl⟩ : ∃ m, k = m + 1 := ⟨k - 1, by omega⟩
    simp only [deadeyeref07_Many.l0]
    rw [if_neg (by omega)]
    exact ⟨out, rfl⟩
  | d + 1, i, k, out, hi, hk, ho => by
    obtain ⟨k, rfl⟩ : ∃ m, k = m + 1 := ⟨k - 1, by omega⟩
    have hlt : i < l.length := by omega
    obtain ⟨b1, b2⟩ := hb l[i] (List.getElem_mem hlt)
    rw [← rd48_nat hlt] at b1 b2
    obtain ⟨t, ht, htl⟩ := one_some (rd_T48 l i).f0 (rd_T48 l i).f1 (rd_T48 l i).f2 (rd_T48 l i).f3 (rd_T48 l i).f4 (rd_T48 l i).f5 (rd_T48 l i).f6 (rd_T48 l i).f7 b1 b2
    simp only [deadeyeref07_Many.l0]
    rw [if_pos (by omega), if_pos (by omega), ht, Option.bind_some, if_pos (by omega), wr hlt (by omega)]
    exact many_l0 l hl hb d (i + 1) k (out ++ t) (by omega) (by omega) (by simp; omega)
theorem many_some (l : List S48) (hl : l.length ≤ 1000) (hb : ∀ e ∈ l, e.f4.size ≤ 1048576 ∧ e.f7.length ≤ 1048576) (k : Nat) (hk : l.length + 20 ≤ k) : ∃ r, deadeyeref07_Many.f k l = some r := by
  obtain ⟨t, ht, htl⟩ := nums_some k [(l.length : Int)] (by simp) (by simp; omega)
  have htl' : t.length ≤ 10 := by simpa using htl
  unfold deadeyeref07_Many.f
  rw [ht, Option.bind_some]
  exact many_l0 l hl hb l.length 0 k t (by omega) (by omega) (by omega)
theorem sameAll_self (l : List S48) (hl : l.length ≤ 1000) (hb : ∀ e ∈ l, e.f4.size ≤ 1048576 ∧ e.f7.length ≤ 1048576) (k : Nat) (hk : l.length + 20 ≤ k) : deadeyeref07_SameAll.f k l l = some true := by
  obtain ⟨r, hr⟩ := many_some l hl hb k hk
  unfold deadeyeref07_SameAll.f
  rw [hr, Option.bind_some, Option.bind_some]
  simp
theorem fnd_st1 (l : List S48) (last : Int) (key : List UInt8) : ∀ n, (st1 l last n key = none ∧ ∀ e, fnd l key last n = some e → e.f3 ≠ 1) ∨ ∃ i, i < n ∧ st1 l last n key = some i ∧ fnd l key last n = some (rd_T48 l i) ∧ (rd_T48 l i).f3 = 1
  | 0 => .inl ⟨rfl, fun e h => by cases h⟩
  | n + 1 => by
    have ih := fnd_st1 l last key n
    have keep : isW key last (rd_T48 l n) = false → st1 l last (n + 1) key = st1 l last n key → (st1 l last (n + 1) key = none ∧ ∀ e, fnd l key last (n + 1) = some e → e.f3 ≠ 1) ∨ ∃ i, i < n + 1 ∧ st1 l last (n + 1) key = some i ∧ fnd l key last (n + 1) = some (rd_T48 l i) ∧ (rd_T48 l i).f3 = 1 := by
      intro hw hs
      rw [hs, fnd, if_neg (by rw [hw]; decide)]
      rcases ih with h | ⟨i, h1, h2⟩
      · exact .inl h
      · exact .inr ⟨i, by omega, h2⟩
    by_cases h0 : last < (rd_T48 l n).f0
    · exact keep (by unfold isW; simp; intros; omega) (by rw [st1, if_pos h0])
    · by_cases hk : key = bs (rd_T48 l n).f4
      · by_cases h1 : (rd_T48 l n).f3 = 1
        · refine .inr ⟨n, by omega, by rw [st1, if_neg h0, if_pos h1, if_pos hk], ?_, h1⟩
          rw [fnd, if_pos (by unfold isW; exact decide_eq_true ⟨hk.symm, by omega, .inl h1⟩)]
        · by_cases h2 : (rd_T48 l n).f3 = 2
          · refine .inl ⟨by rw [st1, if_neg h0, if_neg h1, if_pos h2, if_pos hk], fun e he => ?_⟩
            rw [fnd, if_pos (by unfold isW; exact decide_eq_true ⟨hk.symm, by omega, .inr h2⟩)] at he
            cases he
            exact h1
          · exact keep (by unfold isW; simp [h1, h2]) (by rw [st1, if_neg h0, if_neg h1, if_neg h2])
      · refine keep (by unfold isW; simp; intro h; exact absurd h.symm hk) ?_
        rw [st1, if_neg h0]
        by_cases a1 : (rd_T48 l n).f3 = 1
        · rw [if_pos a1, if_neg hk]
        · rw [if_neg a1]
          by_cases a2 : (rd_T48 l n).f3 = 2
          · rw [if_pos a2, if_neg hk]
          · rw [if_neg a2]
theorem st2_iff (l : List S48) (last c : Int) (i : Nat) (hc : (rd_T48 l i).f1 = c) (h0 : ¬ last < (rd_T48 l i).f0) : ∀ n, i < n → (st2 l last n c = some i ↔ ∀ j, i < j → j < n → ¬ ((rd_T48 l j).f0 ≤ last ∧ (rd_T48 l j).f1 = c))
  | 0, hn => by omega
  | n + 1, hn => by
    rcases Nat.lt_or_ge i n with hin | hin
    · have ih := st2_iff l last c i hc h0 n hin
      by_cases h1 : last < (rd_T48 l n).f0
      · rw [st2, if_pos h1, ih]
        constructor
        · intro h j hj hjn
          rcases Nat.lt_or_ge j n with q | q
          · exact h j hj q
          · obtain rfl : j = n := by omega
            omega
        · exact fun h j hj hjn => h j hj (by omega)
      · by_cases h2 : c = (rd_T48 l n).f1
        · rw [st2, if_neg h1, if_pos h2]
          constructor
          · intro h; injection h with h; omega
          · intro h
            exact absurd ⟨by omega, h2.symm⟩ (h n hin (by omega))
        · rw [st2, if_neg h1, if_neg h2, ih]
          constructor
          · intro h j hj hjn
            rcases Nat.lt_or_ge j n with q | q
            · exact h j hj q
            · obtain rfl : j = n := by omega
              exact fun hh => h2 hh.2.symm
          · exact fun h j hj hjn => h j hj (by omega)
    · obtain rfl : i = n := by omega
      rw [st2, if_neg h0, if_pos hc.symm]
      exact ⟨fun _ j hj hjn => by omega, fun _ => rfl⟩
theorem filterMap_ext' {α β : Type} {f g : α → Option β} : ∀ l : List α, (∀ x ∈ l, f x = g x) → l.filterMap f = l.filterMap g
  | [], _ => rfl
  | x :: l, h => by
    have h1 := h x (by simp)
    have h2 := filterMap_ext' (f := f) (g := g) l (fun y hy => h y (List.mem_cons_of_mem _ hy))
    rw [List.filterMap_cons, List.filterMap_cons, h1, h2]
theorem liveList_mem {l : List S48} {last : Int} {e : S48} (h : e ∈ liveList l last) : ∃ x ∈ l, e = x ∨ e = trim48 x := by
  unfold liveList at h
  rw [List.mem_filterMap] at h
  obtain ⟨i, hi, h⟩ := h
  have hi := List.mem_range.1 hi
  refine ⟨rd_T48 l i, by rw [rd48_nat hi]; exact List.getElem_mem _, ?_⟩
  unfold liveAt at h
  split at h
  · cases h; exact .inl rfl
  · split at h
    · cases h; exact .inr rfl
    · cases h
theorem liveList_length (l : List S48) (last : Int) : (liveList l last).length ≤ l.length := by
  unfold liveList
  exact Nat.le_trans (List.length_filterMap_le _ _) (by simp)
end Go.Proofs.Yteeeiaggkdlolaa.Ky
