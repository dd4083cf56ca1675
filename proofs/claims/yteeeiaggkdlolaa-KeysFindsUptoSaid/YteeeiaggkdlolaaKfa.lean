/- KeysFinds is true of what the printed functions answer. -/
import Derived.Test.YteeeiaggkdlolaaKf7
import Derived.Test.YteeeiaggkdlolaaKon
namespace Go.Proofs.Yteeeiaggkdlolaa.Ky
open Go.RowKit Go.Sort Go.Proofs.YteeeiaggkdlolaaW.PrintWords Go.Proofs.YteeeiaggkdlolaaW.PrintLast Go.Proofs.YteeeiaggkdlolaaW.PrintMore
set_option linter.unusedVariables false
set_option linter.unusedSimpArgs false

theorem wr {i n : Nat} (h : i < n) (hn : n ≤ 9223372036854775807) : wrap64 ((i : Int) + 1) = ((i + 1 : Nat) : Int) := by unfold wrap64; omega
theorem rd48_nat {l : List S48} {i : Nat} (h : i < l.length) : rd_T48 l (i : Int) = l[i] := by simp [rd_T48, List.getD_eq_getElem?_getD, List.getElem?_eq_getElem h]
theorem succ_of {d k : Nat} (h : d < k) : ∃ m, k = m + 1 ∧ d ≤ m := ⟨k - 1, by omega, by omega⟩
theorem awake_20 : deadeyelaw10_awake.f 20 = some true := by decide +kernel
theorem awake_eq (k : Nat) (h : 20 ≤ k) : deadeyelaw10_awake.f k = some true := by
  induction k with
  | zero => omega
  | succ k ih =>
    rcases Nat.lt_or_ge 20 (k + 1) with h1 | h1
    · exact deadeyelaw10_awake.mono k _ (ih (by omega))
    · have : k + 1 = 20 := by omega
      rw [this]; exact awake_20

/-! ### Find -/
def isW (key : List UInt8) (last : Int) (e : S48) : Bool := decide (bs e.f4 = key ∧ e.f0 ≤ last ∧ (e.f3 = 1 ∨ e.f3 = 2))
def fnd (l : List S48) (key : List UInt8) (last : Int) : Nat → Option S48
  | 0 => none
  | i + 1 => if isW key last (rd_T48 l i) = true then some (rd_T48 l i) else fnd l key last i
def tup : Option S48 → (Int × Int × Int × Int × ByteArray × Int × Int × List Int × Bool)
  | some e => (e.f0, e.f1, e.f2, e.f3, e.f4, e.f5, e.f6, e.f7, true)
  | none => (0, 0, 0, 0, (⟨#[]⟩ : ByteArray), 0, 0, ([] : List Int), false)
theorem eq_key {a b : ByteArray} : a.toList = b.toList ↔ bs a = bs b := by rw [ByteArray.toList_eq, ByteArray.toList_eq]
theorem isW_true {key : ByteArray} {last : Int} {y : S48} (h4 : y.f4.toList = key.toList) (h0 : y.f0 ≤ last) (h : y.f3 = 1 ∨ y.f3 = 2) : isW (bs key) last y = true := by
  unfold isW; exact decide_eq_true ⟨eq_key.1 h4, h0, h⟩
theorem isW_false {key : ByteArray} {last : Int} {y : S48} (h : ¬ (y.f4.toList = key.toList ∧ y.f0 ≤ last ∧ (y.f3 = 1 ∨ y.f3 = 2))) : isW (bs key) last y = false := by
  unfold isW; exact decide_eq_false (fun hh => h ⟨eq_key.2 hh.1, hh.2⟩)
theorem fnd_yes {l : List S48} {key : ByteArray} {last : Int} {i : Nat} (h : isW (bs key) last (rd_T48 l i) = true) : fnd l (bs key) last (i + 1) = some (rd_T48 l i) := by unfold fnd; rw [if_pos h]
theorem fnd_no {l : List S48} {key : ByteArray} {last : Int} {i : Nat} (h : isW (bs key) last (rd_T48 l i) = false) : fnd l (bs key) last (i + 1) = fnd l (bs key) last i := by rw [fnd, if_neg (by rw [h]; decide)]

theorem keysFind_go (l : List S48) (key : ByteArray) (last : Int) (hn : l.length ≤ 9223372036854775807) : ∀ (i k : Nat), i ≤ l.length → i < k → keys_Find.l0 k l key last ((i : Int) - 1) = some (tup (fnd l (bs key) last i))
  | 0, k, hi, hk => by
    obtain ⟨k, rfl, _⟩ := succ_of hk
    simp only [keys_Find.l0]
    rw [if_neg (by omega)]; rfl
  | i + 1, k, hi, hk => by
    obtain ⟨k, rfl, hk⟩ := succ_of hk
    have ih := keysFind_go l key last hn i k (by omega) (by omega)
    have hx : ((i + 1 : Nat) : Int) - 1 = (i : Int) := by omega
    have hw : wrap64 ((i : Int) - 1) = (i : Int) - 1 := by unfold wrap64; omega
    rw [hx]
    simp only [keys_Find.l0]
    rw [if_pos (by omega), if_pos (by omega), if_pos (by omega), hw]
    by_cases h4 : (rd_T48 l i).f4.toList = key.toList
    · by_cases h0 : (rd_T48 l i).f0 ≤ last
      · by_cases h1 : (rd_T48 l i).f3 = 1
        · rw [if_pos h4, if_pos h0, if_pos h1, fnd_yes (isW_true h4 h0 (.inl h1))]; rfl
        · by_cases h2 : (rd_T48 l i).f3 = 2
          · rw [if_pos h4, if_pos h0, if_neg h1, if_pos h2, fnd_yes (isW_true h4 h0 (.inr h2))]; rfl
          · rw [if_pos h4, if_pos h0, if_neg h1, if_neg h2, fnd_no (isW_false (fun h => h.2.2.elim h1 h2))]; exact ih
      · rw [if_pos h4, if_neg h0, fnd_no (isW_false (fun h => h0 h.2.1))]; exact ih
    · rw [if_neg h4, fnd_no (isW_false (fun h => h4 h.1))]; exact ih
theorem keysFind_eq (l : List S48) (key : ByteArray) (last : Int) (k : Nat) (hn : l.length ≤ 9223372036854775807) (hk : l.length < k) : keys_Find.f k l key last = some (tup (fnd l (bs key) last l.length)) := by
  have hw : wrap64 ((l.length : Int) - 1) = (l.length : Int) - 1 := by unfold wrap64; omega
  unfold keys_Find.f
  rw [hw]
  exact keysFind_go l key last hn l.length k (Nat.le_refl _) hk

def rf (k : Nat) (l : List S48) (key : ByteArray) (last : Int) (i : Nat) (o : Option S48) := deadeyeref10_Find.l0 k l key last (tup o).2.2.2.2.2.2.2.2 (i : Int) (tup o).1 (tup o).2.1 (tup o).2.2.1 (tup o).2.2.2.1 (tup o).2.2.2.2.1 (tup o).2.2.2.2.2.1 (tup o).2.2.2.2.2.2.1 (tup o).2.2.2.2.2.2.2.1
theorem refFind_go (l : List S48) (key : ByteArray) (last : Int) (hn : l.length ≤ 9223372036854775807) : ∀ (d i k : Nat), i + d = l.length → d < k → rf k l key last i (fnd l (bs key) last i) = some (tup (fnd l (bs key) last l.length))
  | 0, i, k, hi, hk => by
    obtain ⟨k, rfl, _⟩ := succ_of hk
    obtain rfl : i = l.length := by omega
    unfold rf
    simp only [deadeyeref10_Find.l0]
    rw [if_neg (by omega)]
  | d + 1, i, k, hi, hk => by
    obtain ⟨k, rfl, hk⟩ := succ_of hk
    have hlt : i < l.length := by omega
    have ih := refFind_go l key last hn d (i + 1) k (by omega) (by omega)
    unfold rf
    simp only [deadeyeref10_Find.l0]
    rw [if_pos (by omega), if_pos (by omega), wr hlt hn]
    by_cases h4 : (rd_T48 l i).f4.toList = key.toList
    · by_cases h0 : (rd_T48 l i).f0 ≤ last
      · by_cases h1 : (rd_T48 l i).f3 = 1
        · rw [if_pos h4, if_pos h0, if_pos h1]; rw [fnd_yes (isW_true h4 h0 (.inl h1))] at ih; exact ih
        · by_cases h2 : (rd_T48 l i).f3 = 2
          · rw [if_pos h4, if_pos h0, if_neg h1, if_pos h2]; rw [fnd_yes (isW_true h4 h0 (.inr h2))] at ih; exact ih
          · rw [if_pos h4, if_pos h0, if_neg h1, if_neg h2]; rw [fnd_no (isW_false (fun h => h.2.2.elim h1 h2))] at ih; exact ih
      · rw [if_pos h4, if_neg h0]; rw [fnd_no (isW_false (fun h => h0 h.2.1))] at ih; exact ih
    · rw [if_neg h4]; rw [fnd_no (isW_false (fun h => h4 h.1))] at ih; exact ih
theorem refFind_eq (l : List S48) (key : ByteArray) (last : Int) (k : Nat) (hn : l.length ≤ 9223372036854775807) (hk : l.length < k) : deadeyeref10_Find.f k l key last = some (tup (fnd l (bs key) last l.length)) :=
  refFind_go l key last hn l.length 0 k (by omega) hk

/-! ### Names -/
def isPut (l : List S48) (last : Int) (x : List UInt8) (n : Nat) : Bool := match fnd l x last n with | some e => decide (e.f3 = 1) | none => false
theorem nameSet_spec (l : List S48) (last : Int) : ∀ n, n ≤ l.length → (nameSet last (l.take n)).Nodup ∧ ∀ x, x ∈ nameSet last (l.take n) ↔ isPut l last x n = true
  | 0, _ => by simp [nameSet, isPut, fnd]
  | n + 1, hn => by
    obtain ⟨ih1, ih2⟩ := nameSet_spec l last n (by omega)
    have e : nameSet last (l.take (n + 1)) = nameStep last (nameSet last (l.take n)) (rd_T48 l n) := by
      unfold nameSet
      rw [List.take_succ_eq_append_getElem (by omega), List.foldl_append]
      simp [rd_T48, List.getD_eq_getElem?_getD, List.getElem?_eq_getElem (show n < l.length by omega)]
    rw [e]
    generalize nameSet last (l.take n) = S at *
    have hP : ∀ x, isPut l last x (n + 1) = if isW x last (rd_T48 l n) = true then decide ((rd_T48 l n).f3 = 1) else isPut l last x n := by
      intro x; unfold isPut; rw [fnd]; by_cases hw : isW x last (rd_T48 l n) = true
      · simp [hw]
      · simp [hw]
    unfold nameStep
    by_cases h0 : last < (rd_T48 l n).f0
    · rw [if_pos h0]
      refine ⟨ih1, fun x => ?_⟩
      rw [hP, if_neg (by unfold isW; simp; intros; omega)]
      exact ih2 x
    · rw [if_neg h0]
      by_cases h1 : (rd_T48 l n).f3 = 1
      · rw [if_pos h1]
        refine ⟨List.nodup_cons.2 ⟨by simp, ih1.filter _⟩, fun x => ?_⟩
        rw [List.mem_cons, mem_cut, hP]
        by_cases hx : x = bs (rd_T48 l n).f4
        · rw [if_pos (by unfold isW; exact decide_eq_true ⟨hx.symm, by omega, .inl h1⟩)]
          simp [hx, h1]
        · rw [if_neg (by unfold isW; simp; intro h; exact absurd h.symm hx)]
          simp [hx, ih2]
      · rw [if_neg h1]
        by_cases h2 : (rd_T48 l n).f3 = 2
        · rw [if_pos h2]
          refine ⟨ih1.filter _, fun x => ?_⟩
          rw [mem_cut, hP]
          by_cases hx : x = bs (rd_T48 l n).f4
          · rw [if_pos (by unfold isW; exact decide_eq_true ⟨hx.symm, by omega, .inr h2⟩)]
            simp [hx, h1]
          · rw [if_neg (by unfold isW; simp; intro h; exact absurd h.symm hx)]
            simp [hx, ih2]
        · rw [if_neg h2]
          refine ⟨ih1, fun x => ?_⟩
          rw [hP, if_neg (by unfold isW; simp; intros; omega)]
          exact ih2 x

theorem ltne {a b : List UInt8} (h : a ≤ b) (hn : a ≠ b) : a < b := Decidable.byContradiction (fun hh => hn (List.le_antisymm h (List.not_lt.1 hh)))
theorem lt_iff_bytes (a b : ByteArray) : Op.bytesLess a.toList b.toList = decide (bs a < bs b) := by rw [bytesLess_eq, ByteArray.toList_eq, ByteArray.toList_eq]
theorem sorted_ext : ∀ {a b : List (List UInt8)}, a.Pairwise (· < ·) → b.Pairwise (· < ·) → (∀ x, x ∈ a ↔ x ∈ b) → a = b := by
  intro a b ha hb h
  have na : a.Nodup := ha.imp (fun {x y} hxy e => by subst e; exact absurd hxy (List.lt_irrefl x))
  have nb : b.Nodup := hb.imp (fun {x y} hxy e => by subst e; exact absurd hxy (List.lt_irrefl x))
  have hp : a.Perm b := (List.perm_ext_iff_of_nodup na nb).2 h
  exact List.Perm.eq_of_pairwise (le := (· < ·)) (fun x y _ _ h1 h2 => absurd (List.lt_trans h1 h2) (List.lt_irrefl x)) ha hb hp
theorem strict_of_le {a : List (List UInt8)} (h : a.Pairwise (· ≤ ·)) (hn : a.Nodup) : a.Pairwise (· < ·) := by
  refine (h.and hn).imp (fun {x y} hxy => ?_)
  rcases hxy with ⟨h1, h2⟩
  exact ltne h1 h2

/-- where a key stands among rising ones -/
theorem rnScan_spec (key : ByteArray) : ∀ (out : List ByteArray) (k a : Int) (t : Bool), (out.map bs).Pairwise (· < ·) → (∀ o ∈ out, a ≤ k) →
    (rnScan key out k a t).2 = (t || decide (bs key ∈ out.map bs)) ∧
    (rnScan key out k a t).1 = if (out.takeWhile (fun o => decide (bs o < bs key))) = [] then a else k + (out.takeWhile (fun o => decide (bs o < bs key))).length
  | [], k, a, t, _, _ => by simp [rnScan]
  | o :: rest, k, a, t, hs, ha => by
    have hs' := List.pairwise_cons.1 hs
    unfold rnScan
    rw [lt_iff_bytes]
    have e2 : (o.toList == key.toList) = decide (bs o = bs key) := by
      rw [ByteArray.toList_eq, ByteArray.toList_eq, Bool.eq_iff_iff]
      simp only [beq_iff_eq, decide_eq_true_eq]
    rw [e2]
    have hak := ha o (by simp)
    have hmem : (t || decide (bs o = bs key) || decide (bs key ∈ rest.map bs)) = (t || decide (bs key ∈ (o :: rest).map bs)) := by
      rw [Bool.or_assoc]
      congr 1
      rw [Bool.eq_iff_iff]
      simp only [Bool.or_eq_true, decide_eq_true_eq, List.map_cons, List.mem_cons]
      constructor
      · rintro (e | e)
        · exact .inl e.symm
        · exact .inr e
      · rintro (e | e)
        · exact .inl e.symm
        · exact .inr e
    by_cases h : bs o < bs key
    · have ih := rnScan_spec key rest (k + 1) (k + 1) (t || decide (bs o = bs key)) hs'.2 (fun _ _ => by omega)
      have htw : (o :: rest).takeWhile (fun o => decide (bs o < bs key)) = o :: rest.takeWhile (fun o => decide (bs o < bs key)) := by rw [List.takeWhile_cons, if_pos (by simp [h])]
      rw [if_pos (by simp [h]), ih.1, ih.2, htw]
      generalize rest.takeWhile (fun o => decide (bs o < bs key)) = T
      refine ⟨hmem, ?_⟩
      rw [if_neg (by simp : ¬ (o :: T) = [])]
      by_cases hT : T = []
      · rw [if_pos hT, hT]; simp
      · rw [if_neg hT, List.length_cons]; omega
    · have hno : ∀ x ∈ rest.map bs, ¬ x < bs key := by
        intro x hx hlt
        exact h (List.lt_trans (hs'.1 x hx) hlt)
      have ih := rnScan_spec key rest (k + 1) a (t || decide (bs o = bs key)) hs'.2 (fun _ _ => by omega)
      have htw : rest.takeWhile (fun o => decide (bs o < bs key)) = [] := by
        cases rest with
        | nil => rfl
        | cons r rs => rw [List.takeWhile_cons, if_neg (by have := hno (bs r) (by simp); simp [this])]
      have htw2 : (o :: rest).takeWhile (fun o => decide (bs o < bs key)) = [] := by rw [List.takeWhile_cons, if_neg (by simp [h])]
      rw [if_neg (by simp [h]), ih.1, ih.2, htw, htw2]
      exact ⟨hmem, by rw [if_pos rfl, if_pos rfl]⟩
theorem takeWhile_split {α : Type} (p : α → Bool) : ∀ l : List α, l.take (l.takeWhile p).length = l.takeWhile p ∧ l.drop (l.takeWhile p).length = l.dropWhile p
  | [] => by simp
  | x :: l => by
    by_cases h : p x = true
    · simp [List.takeWhile_cons, List.dropWhile_cons, h, takeWhile_split p l]
    · simp [List.takeWhile_cons, List.dropWhile_cons, h]
/-- a key put among rising ones -/
theorem insert_sorted (key : ByteArray) : ∀ out : List ByteArray, (out.map bs).Pairwise (· < ·) → bs key ∉ out.map bs →
    ((out.takeWhile (fun o => decide (bs o < bs key)) ++ [key] ++ out.dropWhile (fun o => decide (bs o < bs key))).map bs).Pairwise (· < ·)
  | [], _, _ => by simp
  | o :: rest, hs, hn => by
    have hs' := List.pairwise_cons.1 hs
    have hn' : bs key ≠ bs o ∧ bs key ∉ rest.map bs := by
      constructor
      · intro e; exact hn (by rw [e]; simp)
      · intro e; exact hn (by rw [List.map_cons]; exact List.mem_cons_of_mem _ e)
    by_cases h : bs o < bs key
    · have ih := insert_sorted key rest hs'.2 hn'.2
      simp only [List.takeWhile_cons, List.dropWhile_cons, h, decide_true, if_true, List.cons_append, List.map_cons]
      refine List.pairwise_cons.2 ⟨fun x hx => ?_, by simpa using ih⟩
      simp only [List.map_append, List.mem_append, List.map_cons, List.map_nil, List.mem_singleton] at hx
      rcases hx with (hx | hx) | hx
      · obtain ⟨y, hy, rfl⟩ := List.mem_map.1 hx
        exact hs'.1 _ (List.mem_map.2 ⟨y, (List.takeWhile_sublist _).subset hy, rfl⟩)
      · rw [hx]; exact h
      · obtain ⟨y, hy, rfl⟩ := List.mem_map.1 hx
        exact hs'.1 _ (List.mem_map.2 ⟨y, (List.dropWhile_sublist _).subset hy, rfl⟩)
    · have hlt : bs key < bs o := ltne (List.not_lt.1 h) hn'.1
      simp only [List.takeWhile_cons, List.dropWhile_cons, h, decide_false, Bool.false_eq_true, if_false, List.nil_append, List.singleton_append, List.map_cons]
      refine List.pairwise_cons.2 ⟨fun x hx => ?_, hs⟩
      rcases List.mem_cons.1 hx with rfl | hx
      · exact hlt
      · exact List.lt_trans hlt (hs'.1 x hx)
theorem mem_insert (key : ByteArray) (out : List ByteArray) (x : List UInt8) : x ∈ (out.takeWhile (fun o => decide (bs o < bs key)) ++ [key] ++ out.dropWhile (fun o => decide (bs o < bs key))).map bs ↔ x ∈ out.map bs ∨ x = bs key := by
  have e : out.map bs = (out.takeWhile (fun o => decide (bs o < bs key))).map bs ++ (out.dropWhile (fun o => decide (bs o < bs key))).map bs := by rw [← List.map_append, List.takeWhile_append_dropWhile]
  rw [e, List.map_append, List.map_append, List.mem_append, List.mem_append, List.mem_append]
  simp only [List.map_cons, List.map_nil, List.mem_singleton]
  constructor
  · rintro ((h | h) | h)
    · exact .inl (.inl h)
    · exact .inr h
    · exact .inl (.inr h)
  · rintro ((h | h) | h)
    · exact .inl (.inl h)
    · exact .inr h
    · exact .inl (.inr h)

theorem rnGo_spec (l : List S48) (last : Int) (hn : l.length ≤ 9223372036854775807) : ∀ (d i : Nat) (out : List ByteArray), i + d = l.length → (out.map bs).Pairwise (· < ·) → (∀ x, x ∈ out.map bs ↔ isPut l last x l.length = true ∧ ∃ j, j < i ∧ bs (rd_T48 l j).f4 = x) →
    ∃ o, rnGo l last (l.drop i) out = some o ∧ (o.map bs).Pairwise (· < ·) ∧ ∀ x, x ∈ o.map bs ↔ isPut l last x l.length = true ∧ ∃ j, j < l.length ∧ bs (rd_T48 l j).f4 = x
  | 0, i, out, hi, hs, hm => by
    obtain rfl : i = l.length := by omega
    exact ⟨out, by rw [List.drop_length]; rfl, hs, hm⟩
  | d + 1, i, out, hi, hs, hm => by
    have hlt : i < l.length := by omega
    rw [List.drop_eq_getElem_cons hlt, ← rd48_nat hlt]
    unfold rnGo rnStep
    rw [refFind_eq l _ last (l.length + 1) hn (by omega), Option.bind_some]
    obtain ⟨hsc2, hsc1⟩ := rnScan_spec (rd_T48 l i).f4 out 0 0 false hs (fun _ _ => Int.le_refl _)
    have hP : ((tup (fnd l (bs (rd_T48 l i).f4) last l.length)).2.2.2.2.2.2.2.2 = true ∧ (tup (fnd l (bs (rd_T48 l i).f4) last l.length)).2.2.2.1 = 1) ↔ isPut l last (bs (rd_T48 l i).f4) l.length = true := by
      unfold isPut
      cases fnd l (bs (rd_T48 l i).f4) last l.length with
      | none => simp [tup]
      | some e => simp [tup]
    have more : ∀ x, (isPut l last x l.length = true ∧ ∃ j, j < i + 1 ∧ bs (rd_T48 l j).f4 = x) ↔ (isPut l last x l.length = true ∧ ∃ j, j < i ∧ bs (rd_T48 l j).f4 = x) ∨ (isPut l last x l.length = true ∧ x = bs (rd_T48 l i).f4) := by
      intro x
      constructor
      · rintro ⟨h1, j, hj, e⟩
        rcases Nat.lt_or_ge j i with hji | hji
        · exact .inl ⟨h1, j, hji, e⟩
        · obtain rfl : j = i := by omega
          exact .inr ⟨h1, e.symm⟩
      · rintro (⟨h1, j, hj, e⟩ | ⟨h1, e⟩)
        · exact ⟨h1, j, by omega, e⟩
        · exact ⟨h1, i, by omega, e.symm⟩
    by_cases hput : isPut l last (bs (rd_T48 l i).f4) l.length = true
    · rw [if_pos (hP.2 hput)]
      by_cases hin : bs (rd_T48 l i).f4 ∈ out.map bs
      · rw [if_pos (by rw [hsc2]; simp [hin]), Option.bind_some]
        refine rnGo_spec l last hn d (i + 1) out (by omega) hs (fun x => ?_)
        rw [more, ← hm]
        constructor
        · exact .inl
        · rintro (h | ⟨_, rfl⟩)
          · exact h
          · exact hin
      · rw [if_neg (by rw [hsc2]; simp only [Bool.false_or, decide_eq_true_eq]; exact hin), Option.bind_some]
        have hat : (rnScan (rd_T48 l i).f4 out 0 0 false).1.toNat = (out.takeWhile (fun o => decide (bs o < bs (rd_T48 l i).f4))).length := by
          rw [hsc1]
          split
          · rename_i h; rw [h]; rfl
          · omega
        rw [hat, (takeWhile_split _ out).1, (takeWhile_split _ out).2]
        refine rnGo_spec l last hn d (i + 1) _ (by omega) (insert_sorted _ out hs hin) (fun x => ?_)
        rw [more, ← hm, mem_insert]
        constructor
        · rintro (h | h)
          · exact .inl h
          · exact .inr ⟨h ▸ hput, h⟩
        · rintro (h | ⟨_, h⟩)
          · exact .inl h
          · exact .inr h
    · rw [if_neg (fun h => hput (hP.1 h)), Option.bind_some]
      refine rnGo_spec l last hn d (i + 1) out (by omega) hs (fun x => ?_)
      rw [more, ← hm]
      constructor
      · exact .inl
      · rintro (h | ⟨h1, rfl⟩)
        · exact h
        · exact absurd h1 hput
theorem isPut_key {l : List S48} {last : Int} {x : List UInt8} : ∀ {n : Nat}, isPut l last x n = true → ∃ j, j < n ∧ bs (rd_T48 l j).f4 = x
  | 0, h => by simp [isPut, fnd] at h
  | n + 1, h => by
    unfold isPut at h
    rw [fnd] at h
    by_cases hw : isW x last (rd_T48 l n) = true
    · unfold isW at hw
      exact ⟨n, by omega, (of_decide_eq_true hw).1⟩
    · rw [if_neg hw] at h
      obtain ⟨j, hj, e⟩ := isPut_key (n := n) h
      exact ⟨j, by omega, e⟩
theorem names_eq (l : List S48) (last : Int) (hn : l.length < 1099511627776) (hk : smallKeys l = true) : ∃ r s, keys_Names.f l last = some r ∧ deadeyeref10_Names.f l last = some s ∧ r.map bs = s.map bs := by
  obtain ⟨o, ho, hs, hm⟩ := rnGo_spec l last (by omega) l.length 0 [] (by omega) List.Pairwise.nil (fun x => by simp)
  obtain ⟨n1, n2⟩ := nameSet_spec l last l.length (Nat.le_refl _)
  rw [List.take_length] at n1 n2
  refine ⟨_, o, by unfold keys_Names.f; rw [if_pos ⟨hn, hk⟩], by unfold deadeyeref10_Names.f; rw [if_pos hn]; simpa using ho, ?_⟩
  have e : ((isortB (nameSet last l)).map (fun x => (⟨x.toArray⟩ : ByteArray))).map bs = isortB (nameSet last l) := by
    rw [List.map_map]
    refine List.map_id'' (fun x => ?_) _
    simp [bs]
  rw [e]
  refine sorted_ext (strict_of_le (isortB_sorted _) ((isortB_perm _).nodup_iff.2 n1)) hs (fun x => ?_)
  rw [(isortB_perm _).mem_iff, n2, hm]
  exact ⟨fun h => ⟨h, isPut_key h⟩, fun h => h.1⟩

/-! ### Texts -/
theorem texts_go (a b : List ByteArray) (h : a.map bs = b.map bs) (hn : a.length ≤ 9223372036854775807) : ∀ (d i k : Nat), i + d = a.length → d < k → deadeyeref10_Texts.l0 k a b (i : Int) = some true
  | 0, i, k, hi, hk => by
    obtain ⟨k, rfl, _⟩ := succ_of hk
    simp only [deadeyeref10_Texts.l0]
    rw [if_neg (by omega)]
  | d + 1, i, k, hi, hk => by
    obtain ⟨k, rfl, hk⟩ := succ_of hk
    have hlt : i < a.length := by omega
    have hl : a.length = b.length := by simpa using congrArg List.length h
    have hb : i < b.length := by omega
    simp only [deadeyeref10_Texts.l0]
    rw [if_pos (by omega), if_pos (by omega), if_pos (by omega), wr hlt hn, if_pos ?_]
    · exact texts_go a b h hn d (i + 1) k (by omega) (by omega)
    · rw [eq_key]
      have := congrArg (fun z => z[i]?) h
      simpa [rdOf, List.getD_eq_getElem?_getD, List.getElem?_eq_getElem hlt, List.getElem?_eq_getElem hb] using this
theorem texts_eq (a b : List ByteArray) (h : a.map bs = b.map bs) (hn : a.length ≤ 9223372036854775807) (k : Nat) (hk : a.length < k) : deadeyeref10_Texts.f k a b = some true := by
  have hl : a.length = b.length := by simpa using congrArg List.length h
  unfold deadeyeref10_Texts.f
  rw [if_pos (by omega)]
  exact texts_go a b h hn a.length 0 k (by omega) hk

/-! ### the sizes -/
def sz48 (e : S48) : Nat := 1 + (1 + (1 + (1 + (e.f4.size + 1 + (1 + (1 + ((e.f7.map fun _ => 1).sum + 1)))))))
theorem sum_ones : ∀ l : List Int, (l.map fun _ => 1).sum = l.length
  | [] => rfl
  | x :: l => by rw [List.map_cons, List.sum_cons, sum_ones l, List.length_cons]; omega
theorem mem_sum {α : Type} (f : α → Nat) : ∀ (l : List α) (x : α), x ∈ l → f x ≤ (l.map f).sum
  | y :: l, x, h => by
    rw [List.map_cons, List.sum_cons]
    rcases List.mem_cons.1 h with rfl | h
    · omega
    · have := mem_sum f l x h; omega
theorem len_sum : ∀ l : List S48, l.length ≤ (l.map sz48).sum
  | [] => by simp
  | x :: l => by rw [List.map_cons, List.sum_cons, List.length_cons]; have h0 := len_sum l; have h1 : 1 ≤ sz48 x := (by unfold sz48; omega); omega
theorem sz_mem {l : List S48} (h : (l.map sz48).sum ≤ 1048576) {e : S48} (he : e ∈ l) : e.f4.size ≤ 1048576 ∧ e.f7.length ≤ 1048576 := by
  have h1 := mem_sum sz48 l e he
  have h2 : e.f4.size + e.f7.length ≤ sz48 e := by unfold sz48; rw [sum_ones]; omega
  omega
theorem fnd_mem {l : List S48} {key : List UInt8} {last : Int} : ∀ {n : Nat} {e : S48}, n ≤ l.length → fnd l key last n = some e → e ∈ l
  | 0, e, hn, h => by cases h
  | n + 1, e, hn, h => by
    unfold fnd at h
    split at h
    · cases h; rw [rd48_nat (by omega)]; exact List.getElem_mem _
    · exact fnd_mem (by omega) h
theorem same_self (o : Option S48) (h : ∀ e, o = some e → e.f4.size ≤ 1048576 ∧ e.f7.length ≤ 1048576) :
    deadeyeref07_Same.f (tup o).1 (tup o).2.1 (tup o).2.2.1 (tup o).2.2.2.1 (tup o).2.2.2.2.1 (tup o).2.2.2.2.2.1 (tup o).2.2.2.2.2.2.1 (tup o).2.2.2.2.2.2.2.1 (tup o).1 (tup o).2.1 (tup o).2.2.1 (tup o).2.2.2.1 (tup o).2.2.2.2.1 (tup o).2.2.2.2.2.1 (tup o).2.2.2.2.2.2.1 (tup o).2.2.2.2.2.2.2.1 = some true := by
  obtain ⟨r, hr, _⟩ := one_some (tup o).1 (tup o).2.1 (tup o).2.2.1 (tup o).2.2.2.1 (tup o).2.2.2.2.1 (tup o).2.2.2.2.2.1 (tup o).2.2.2.2.2.2.1 (tup o).2.2.2.2.2.2.2.1
    (by cases o with | none => exact Nat.zero_le _ | some e => exact (h e rfl).1) (by cases o with | none => exact Nat.zero_le _ | some e => exact (h e rfl).2)
  unfold deadeyeref07_Same.f
  rw [hr, Option.bind_some, Option.bind_some]
  simp
theorem smallKeys_of {l : List S48} (h : (l.map sz48).sum ≤ 1048576) : smallKeys l = true := by
  refine List.all_eq_true.2 (fun e he => decide_eq_true ?_)
  have := (sz_mem h he).1
  unfold maxLen; omega
theorem take_sum (l : List S48) (n : Nat) : ((l.take n).map sz48).sum ≤ (l.map sz48).sum := by
  have e : l.map sz48 = (l.take n).map sz48 ++ (l.drop n).map sz48 := by rw [← List.map_append, List.take_append_drop]
  rw [e, List.sum_append]; omega
theorem KeysFinds_true (l : List S48) (key : ByteArray) (last : Int) (hsz : (l.map sz48).sum ≤ 1048576) : ∃ k, deadeyelaw10_KeysFinds.f k l key last = some true := by
  refine ⟨1000, ?_⟩
  have go : ∀ m : List S48, m.length ≤ 60 → (m.map sz48).sum ≤ 1048576 → deadeyelaw10_KeysFinds.j0 1000 m key last = some true := by
    intro m hm hs
    obtain ⟨r, s, hr, hS, hrs⟩ := names_eq m last (by omega) (smallKeys_of hs)
    have hrl : r.length ≤ 60 := by
      have h1 : r.length = s.length := by simpa using congrArg List.length hrs
      unfold keys_Names.f at hr
      rw [if_pos ⟨by omega, smallKeys_of hs⟩] at hr
      obtain rfl := Option.some.inj hr
      rw [List.length_map, (isortB_perm _).length_eq]
      have hle : ∀ (l : List S48) (S : List (List UInt8)), (l.foldl (nameStep last) S).length ≤ S.length + l.length := by
        intro l
        induction l with
        | nil => intro S; simp
        | cons e l ih =>
          intro S
          rw [List.foldl_cons, List.length_cons]
          refine Nat.le_trans (ih _) ?_
          have hf := List.length_filter_le (fun y => !decide (y = bs e.f4)) S
          have : (nameStep last S e).length ≤ S.length + 1 := by
            unfold nameStep
            split
            · omega
            · split
              · rw [List.length_cons]; omega
              · split <;> omega
          omega
      have := hle m []
      unfold nameSet
      simp at this ⊢
      omega
    show (keys_Find.f 999 m key last).bind _ = _
    rw [keysFind_eq m key last 999 (by omega) (by omega), Option.bind_some, refFind_eq m key last 999 (by omega) (by omega), Option.bind_some, awake_eq 999 (by omega), Option.bind_some]
    rw [if_pos rfl, if_pos (by simp), same_self _ (fun e he => sz_mem hs (fnd_mem (Nat.le_refl _) he)), Option.bind_some, if_pos rfl, hr, Option.bind_some, hS, Option.bind_some, texts_eq r s hrs (by omega) 999 (by omega)]
    rfl
  unfold deadeyelaw10_KeysFinds.f
  by_cases h : (l.length : Int) > 60
  · rw [if_pos h, if_pos (by omega)]
    exact go _ (by rw [List.length_take]; omega) (Nat.le_trans (take_sum l 60) hsz)
  · rw [if_neg h]
    exact go _ (by omega) hsz

end Go.Proofs.Yteeeiaggkdlolaa.Ky
