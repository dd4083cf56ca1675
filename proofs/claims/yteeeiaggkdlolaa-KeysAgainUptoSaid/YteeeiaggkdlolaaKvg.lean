/- What counts of rising entries tells the same keys, blobs and last numbers as all do, and is what counts of itself. -/
import Derived.Test.YteeeiaggkdlolaaKvn
import Derived.Test.YteeeiaggkdlolaaKf29
namespace Go.Proofs.Yteeeiaggkdlolaa.Ky
open Go.RowKit Go.Sort Go.Proofs.YteeeiaggkdlolaaW.PrintWords Go.Proofs.YteeeiaggkdlolaaW.PrintLast Go.Proofs.YteeeiaggkdlolaaW.PrintMore
set_option linter.unusedVariables false
set_option linter.unusedSimpArgs false

def numStep (c : Int) (p : Int × Int) (e : S48) : Int × Int := if e.f1 = c ∧ p.1 < e.f2 then (e.f2, e.f0) else p
theorem num_scan (l : List S48) (c : Int) (hn : l.length ≤ 9223372036854775807) : ∀ (d i k : Nat) (a b : Int), i + d = l.length → d < k → keys_Num.l0 k c a b l (l.length : Int) i = some ((l.drop i).foldl (numStep c) (a, b))
  | 0, i, k, a, b, hi, hk => by
    obtain ⟨k, rfl, _⟩ := succ_of hk
    simp only [keys_Num.l0]
    rw [if_neg (by omega), List.drop_of_length_le (by omega)]; rfl
  | d + 1, i, k, a, b, hi, hk => by
    obtain ⟨k, rfl, hk⟩ := succ_of hk
    have hlt : i < l.length := by omega
    simp only [keys_Num.l0]
    rw [if_pos (by omega), if_pos (by omega), if_pos (by omega), rd48_nat hlt, wr hlt hn, List.drop_eq_getElem_cons hlt, List.foldl_cons]
    by_cases h1 : l[i].f1 = c
    · by_cases h2 : l[i].f2 > a
      · rw [if_pos h1, if_pos h2, num_scan l c hn d (i + 1) k _ _ (by omega) (by omega)]
        unfold numStep
        rw [if_pos ⟨h1, h2⟩]
      · rw [if_pos h1, if_neg h2, num_scan l c hn d (i + 1) k _ _ (by omega) (by omega)]
        congr 2
        unfold numStep
        rw [if_neg (fun h => h2 h.2)]
    · rw [if_neg h1, num_scan l c hn d (i + 1) k _ _ (by omega) (by omega)]
      congr 2
      unfold numStep
      rw [if_neg (fun h => h1 h.1)]
theorem num_eq (l : List S48) (c : Int) (k : Nat) (hn : l.length ≤ 9223372036854775807) (hk : l.length < k) : keys_Num.f k l c = some (l.foldl (numStep c) (0, 0)) := by
  unfold keys_Num.f
  have := num_scan l c hn l.length 0 k 0 0 (by omega) hk
  simpa using this
theorem num_spec (c : Int) : ∀ (l : List S48) (p : Int × Int), p.1 ≤ (l.foldl (numStep c) p).1 ∧ (∀ e ∈ l, e.f1 = c → e.f2 ≤ (l.foldl (numStep c) p).1) ∧ ((l.foldl (numStep c) p).1 = p.1 ∨ ∃ e ∈ l, e.f1 = c ∧ e.f2 = (l.foldl (numStep c) p).1)
  | [], p => ⟨Int.le_refl _, by simp, .inl rfl⟩
  | x :: l, p => by
    obtain ⟨h1, h2, h3⟩ := num_spec c l (numStep c p x)
    rw [List.foldl_cons]
    generalize (l.foldl (numStep c) (numStep c p x)).1 = r at *
    unfold numStep at h1 h3
    by_cases hx : x.f1 = c ∧ p.1 < x.f2
    · rw [if_pos hx] at h1 h3
      simp only at h1 h3
      refine ⟨by omega, fun e he hc => ?_, ?_⟩
      · rcases List.mem_cons.1 he with rfl | he
        · omega
        · exact h2 e he hc
      · rcases h3 with h3 | ⟨e, he, h3⟩
        · exact .inr ⟨x, by simp, hx.1, h3.symm⟩
        · exact .inr ⟨e, List.mem_cons_of_mem _ he, h3⟩
    · rw [if_neg hx] at h1 h3
      refine ⟨h1, fun e he hc => ?_, ?_⟩
      · rcases List.mem_cons.1 he with rfl | he
        · have : ¬ p.1 < e.f2 := fun h => hx ⟨hc, h⟩
          omega
        · exact h2 e he hc
      · rcases h3 with h3 | ⟨e, he, h3⟩
        · exact .inl h3
        · exact .inr ⟨e, List.mem_cons_of_mem _ he, h3⟩
theorem rising_pair : ∀ l : List S48, risingB l = true ↔ l.Pairwise (fun a b => a.f0 < b.f0)
  | [] => by simp [risingB]
  | [x] => by simp [risingB]
  | x :: y :: r => by
    have ih := rising_pair (y :: r)
    have e : risingB (x :: y :: r) = (decide (x.f0 < y.f0) && risingB (y :: r)) := rfl
    rw [e, Bool.and_eq_true, ih, List.pairwise_cons (a := x)]
    constructor
    · rintro ⟨h1, h2⟩
      have h1 := of_decide_eq_true h1
      refine ⟨fun z hz => ?_, h2⟩
      rcases List.mem_cons.1 hz with rfl | hz
      · exact h1
      · have := (List.pairwise_cons.1 h2).1 z hz
        omega
    · rintro ⟨h1, h2⟩
      exact ⟨decide_eq_true (h1 y (by simp)), h2⟩
theorem rising_eq {m : List S48} (hr : risingB m = true) {a b : S48} (ha : a ∈ m) (hb : b ∈ m) (h : a.f0 = b.f0) : a = b := by
  obtain ⟨i, hi, rfl⟩ := List.mem_iff_getElem.1 ha
  obtain ⟨j, hj, rfl⟩ := List.mem_iff_getElem.1 hb
  have := rd_inj hr hi hj (by rw [rd48_nat hi, rd48_nat hj]; exact h)
  subst this
  rfl
theorem fnd_at {l : List S48} {key : List UInt8} {last : Int} : ∀ {n : Nat} {e : S48}, fnd l key last n = some e → ∃ i, i < n ∧ e = rd_T48 l i ∧ isW key last e = true ∧ ∀ j, i < j → j < n → isW key last (rd_T48 l j) = false
  | 0, e, h => by cases h
  | n + 1, e, h => by
    unfold fnd at h
    by_cases hw : isW key last (rd_T48 l n) = true
    · rw [if_pos hw] at h
      cases h
      exact ⟨n, by omega, rfl, hw, fun j h1 h2 => by omega⟩
    · rw [if_neg hw] at h
      obtain ⟨i, h1, h2, h3, h4⟩ := fnd_at h
      refine ⟨i, by omega, h2, h3, fun j j1 j2 => ?_⟩
      rcases Nat.lt_or_ge j n with q | q
      · exact h4 j j1 q
      · obtain rfl : j = n := by omega
        simpa using hw
theorem fnd_none {l : List S48} {key : List UInt8} {last : Int} : ∀ {n : Nat}, fnd l key last n = none → ∀ j, j < n → isW key last (rd_T48 l j) = false
  | 0, h, j, hj => by omega
  | n + 1, h, j, hj => by
    unfold fnd at h
    by_cases hw : isW key last (rd_T48 l n) = true
    · rw [if_pos hw] at h; cases h
    · rw [if_neg hw] at h
      rcases Nat.lt_or_ge j n with q | q
      · exact fnd_none h j q
      · obtain rfl : j = n := by omega
        simpa using hw
theorem fnd_max {m : List S48} (hr : risingB m = true) {key : List UInt8} {last : Int} {e : S48} (h : fnd m key last m.length = some e) : e ∈ m ∧ isW key last e = true ∧ ∀ x ∈ m, isW key last x = true → x.f0 ≤ e.f0 := by
  obtain ⟨i, hi, rfl, hw, hj⟩ := fnd_at h
  refine ⟨by rw [rd48_nat hi]; exact List.getElem_mem _, hw, fun x hx hxw => ?_⟩
  obtain ⟨j, hjl, rfl⟩ := List.mem_iff_getElem.1 hx
  rw [← rd48_nat hjl] at hxw ⊢
  rcases Nat.lt_trichotomy j i with q | q | q
  · have := rising_lt hr q hi; omega
  · subst q; exact Int.le_refl _
  · rw [hj j q hjl] at hxw; cases hxw
theorem fnd_nomem {m : List S48} {key : List UInt8} {last : Int} (h : fnd m key last m.length = none) : ∀ x ∈ m, isW key last x = false := by
  intro x hx
  obtain ⟨j, hjl, rfl⟩ := List.mem_iff_getElem.1 hx
  rw [← rd48_nat hjl]
  exact fnd_none h j hjl
def keptE (m : List S48) (last : Int) (e : S48) : Prop := e.f0 ≤ last ∧ e.f3 = 1 ∧ ∀ x ∈ m, isW (bs e.f4) last x = true → x.f0 ≤ e.f0
def lastE (m : List S48) (last : Int) (e : S48) : Prop := e.f0 ≤ last ∧ ∀ x ∈ m, x.f0 ≤ last → x.f1 = e.f1 → x.f0 ≤ e.f0
open Classical in
noncomputable def liveE (m : List S48) (last : Int) (e : S48) : Option S48 := if keptE m last e then some e else if lastE m last e then some (trim48 e) else none
theorem isW_self {last : Int} {e : S48} (h0 : e.f0 ≤ last) (h3 : e.f3 = 1) : isW (bs e.f4) last e = true := by unfold isW; exact decide_eq_true ⟨rfl, h0, .inl h3⟩
theorem st1_kept {m : List S48} (hr : risingB m = true) {last : Int} {i : Nat} (hi : i < m.length) : st1 m last m.length (bs (rd_T48 m i).f4) = some i ↔ keptE m last (rd_T48 m i) := by
  have hmem : rd_T48 m i ∈ m := by rw [rd48_nat hi]; exact List.getElem_mem _
  rcases fnd_st1 m last (bs (rd_T48 m i).f4) m.length with ⟨h1, h2⟩ | ⟨j, hj, h1, h2, h3⟩
  · rw [h1]
    constructor
    · intro h; cases h
    · rintro ⟨k0, k3, kx⟩
      exfalso
      cases hf : fnd m (bs (rd_T48 m i).f4) last m.length with
      | none => have := fnd_nomem hf _ hmem; rw [isW_self k0 k3] at this; cases this
      | some e =>
        obtain ⟨e1, e2, e3⟩ := fnd_max hr hf
        have a := e3 _ hmem (isW_self k0 k3)
        have b := kx e e1 e2
        have := rising_eq hr e1 hmem (by omega)
        rw [this] at hf
        exact h2 _ hf k3
  · rw [h1]
    obtain ⟨e1, e2, e3⟩ := fnd_max hr h2
    constructor
    · intro h
      injection h with h
      subst h
      have hw := e2
      unfold isW at hw
      exact ⟨(of_decide_eq_true hw).2.1, h3, e3⟩
    · rintro ⟨k0, k3, kx⟩
      have a := e3 _ hmem (isW_self k0 k3)
      have b := kx _ e1 e2
      rw [rd_inj hr hj hi (by omega)]
theorem st2_last {m : List S48} (hr : risingB m = true) {last : Int} {i : Nat} (hi : i < m.length) : st2 m last m.length (rd_T48 m i).f1 = some i ↔ lastE m last (rd_T48 m i) := by
  by_cases h0 : last < (rd_T48 m i).f0
  · constructor
    · intro h; have := (st2_at h).2.2; omega
    · intro h; have := h.1; omega
  · rw [st2_iff m last (rd_T48 m i).f1 i rfl h0 m.length hi]
    constructor
    · intro h
      refine ⟨by omega, fun x hx hx0 hx1 => ?_⟩
      obtain ⟨j, hjl, rfl⟩ := List.mem_iff_getElem.1 hx
      rw [← rd48_nat hjl] at hx0 hx1 ⊢
      rcases Nat.lt_trichotomy j i with q | q | q
      · have := rising_lt hr q hi; omega
      · subst q; exact Int.le_refl _
      · exact absurd ⟨hx0, hx1⟩ (h j q hjl)
    · rintro ⟨_, h⟩ j j1 j2 ⟨j3, j4⟩
      have := h (rd_T48 m j) (by rw [rd48_nat j2]; exact List.getElem_mem _) j3 j4
      have := rising_lt hr j1 j2
      omega
theorem map_rd (m : List S48) : (List.range m.length).map (fun i : Nat => rd_T48 m i) = m := by
  refine List.ext_getElem (by simp) (fun i h1 h2 => ?_)
  rw [List.getElem_map, List.getElem_range, rd48_nat h2]
theorem liveList_E {m : List S48} (hr : risingB m = true) (last : Int) : liveList m last = m.filterMap (liveE m last) := by
  have e : m.filterMap (liveE m last) = ((List.range m.length).map (fun i : Nat => rd_T48 m i)).filterMap (liveE m last) := by rw [map_rd]
  rw [e, List.filterMap_map]
  unfold liveList
  refine filterMap_ext' _ (fun i hi => ?_)
  have hi := List.mem_range.1 hi
  unfold liveAt
  show _ = liveE m last (rd_T48 m i)
  unfold liveE
  have h1 := st1_kept hr (last := last) hi
  have h2 := st2_last hr (last := last) hi
  by_cases c1 : keptE m last (rd_T48 m i)
  · rw [if_pos c1, if_pos (h1.2 c1)]
  · rw [if_neg c1, if_neg (fun h => c1 (h1.1 h))]
    by_cases c2 : lastE m last (rd_T48 m i)
    · rw [if_pos c2, if_pos (h2.2 c2)]
    · rw [if_neg c2, if_neg (fun h => c2 (h2.1 h))]
theorem liveE_cases {m : List S48} {last : Int} {e y : S48} (h : liveE m last e = some y) : (keptE m last e ∧ y = e) ∨ (¬ keptE m last e ∧ lastE m last e ∧ y = trim48 e) := by
  unfold liveE at h
  by_cases c1 : keptE m last e
  · rw [if_pos c1] at h; cases h; exact .inl ⟨c1, rfl⟩
  · rw [if_neg c1] at h
    by_cases c2 : lastE m last e
    · rw [if_pos c2] at h; cases h; exact .inr ⟨c1, c2, rfl⟩
    · rw [if_neg c2] at h; cases h
theorem liveE_same {m : List S48} {last : Int} {e y : S48} (h : liveE m last e = some y) : y.f0 = e.f0 ∧ y.f1 = e.f1 ∧ y.f2 = e.f2 := by
  rcases liveE_cases h with ⟨_, rfl⟩ | ⟨_, _, rfl⟩
  · exact ⟨rfl, rfl, rfl⟩
  · exact ⟨rfl, rfl, rfl⟩
theorem isW_trim {key : List UInt8} {last : Int} {e : S48} : isW key last (trim48 e) = false := by unfold isW trim48; simp
/-- An entry that counts as a write is one of all. -/
theorem live_W {m : List S48} {key : List UInt8} {last : Int} {y : S48} (hy : y ∈ m.filterMap (liveE m last)) (hw : isW key last y = true) : y ∈ m ∧ keptE m last y := by
  obtain ⟨e, he, h⟩ := List.mem_filterMap.1 hy
  rcases liveE_cases h with ⟨h1, rfl⟩ | ⟨_, _, rfl⟩
  · exact ⟨he, h1⟩
  · rw [isW_trim] at hw; cases hw
theorem live_kept {m : List S48} {last : Int} {e : S48} (he : e ∈ m) (h : keptE m last e) : e ∈ m.filterMap (liveE m last) :=
  List.mem_filterMap.2 ⟨e, he, by unfold liveE; rw [if_pos h]⟩
theorem live_rising {m : List S48} (hr : risingB m = true) (last : Int) : risingB (m.filterMap (liveE m last)) = true := by
  rw [rising_pair] at hr ⊢
  refine List.Pairwise.filterMap _ (fun a a' h b hb b' hb' => ?_) hr
  have h1 := (liveE_same hb).1
  have h2 := (liveE_same hb').1
  omega
theorem filterMap_self {α : Type} {f : α → Option α} : ∀ l : List α, (∀ x ∈ l, f x = some x) → l.filterMap f = l
  | [], _ => rfl
  | x :: l, h => by rw [List.filterMap_cons, h x (by simp), filterMap_self l (fun y hy => h y (List.mem_cons_of_mem _ hy))]
theorem live_again {m : List S48} (hr : risingB m = true) (last : Int) : liveList (liveList m last) last = liveList m last := by
  rw [liveList_E hr]
  rw [liveList_E (live_rising hr last)]
  refine filterMap_self _ (fun y hy => ?_)
  obtain ⟨e, he, h⟩ := List.mem_filterMap.1 hy
  rcases liveE_cases h with ⟨h1, rfl⟩ | ⟨h0, h1, rfl⟩
  · unfold liveE
    rw [if_pos]
    exact ⟨h1.1, h1.2.1, fun x hx hw => h1.2.2 x (live_W hx hw).1 hw⟩
  · unfold liveE
    rw [if_neg (fun hk => by have := hk.2.1; simp [trim48] at this), if_pos]
    · rfl
    · refine ⟨h1.1, fun x hx hx0 hx1 => ?_⟩
      obtain ⟨e', he', h'⟩ := List.mem_filterMap.1 hx
      obtain ⟨q0, q1, q2⟩ := liveE_same h'
      have := h1.2 e' he' (by omega) (by rw [← q1]; exact hx1)
      show x.f0 ≤ e.f0
      omega
theorem live_find {m : List S48} (hr : risingB m = true) (last : Int) (key : List UInt8) : fnd (liveList m last) key last (liveList m last).length = match fnd m key last m.length with | some e => if e.f3 = 1 then some e else none | none => none := by
  rw [liveList_E hr]
  have hrX := live_rising hr last
  cases hX : fnd (m.filterMap (liveE m last)) key last (m.filterMap (liveE m last)).length with
  | none =>
    have hn := fnd_nomem hX
    cases hm : fnd m key last m.length with
    | none => rfl
    | some e =>
      obtain ⟨e1, e2, e3⟩ := fnd_max hr hm
      by_cases h3 : e.f3 = 1
      · exfalso
        have hk : bs e.f4 = key := by unfold isW at e2; exact (of_decide_eq_true e2).1
        have h0 : e.f0 ≤ last := by unfold isW at e2; exact (of_decide_eq_true e2).2.1
        have := hn e (live_kept e1 ⟨h0, h3, by rw [hk]; exact e3⟩)
        rw [e2] at this; cases this
      · simp [h3]
  | some y =>
    obtain ⟨y1, y2, y3⟩ := fnd_max hrX hX
    obtain ⟨z1, z2⟩ := live_W y1 y2
    have hk : bs y.f4 = key := by unfold isW at y2; exact (of_decide_eq_true y2).1
    cases hm : fnd m key last m.length with
    | none => have := fnd_nomem hm y z1; rw [y2] at this; cases this
    | some e =>
      obtain ⟨e1, e2, e3⟩ := fnd_max hr hm
      have a := e3 y z1 y2
      have b := z2.2.2 e e1 (by rw [hk]; exact e2)
      have := rising_eq hr z1 e1 (by omega)
      subst this
      simp [z2.2.1]
theorem exists_max (p : S48 → Prop) : ∀ l : List S48, (∃ e ∈ l, p e) → ∃ z ∈ l, p z ∧ ∀ x ∈ l, p x → x.f0 ≤ z.f0
  | [], h => by obtain ⟨e, he, _⟩ := h; cases he
  | x :: l, h => by
    by_cases hl : ∃ e ∈ l, p e
    · obtain ⟨z, hz, hp, hm⟩ := exists_max p l hl
      by_cases hx : p x ∧ z.f0 < x.f0
      · refine ⟨x, by simp, hx.1, fun y hy hpy => ?_⟩
        rcases List.mem_cons.1 hy with rfl | hy
        · exact Int.le_refl _
        · have := hm y hy hpy; omega
      · refine ⟨z, List.mem_cons_of_mem _ hz, hp, fun y hy hpy => ?_⟩
        rcases List.mem_cons.1 hy with rfl | hy
        · have : ¬ z.f0 < y.f0 := fun h => hx ⟨hpy, h⟩
          omega
        · exact hm y hy hpy
    · obtain ⟨e, he, hpe⟩ := h
      rcases List.mem_cons.1 he with rfl | he
      · refine ⟨e, by simp, hpe, fun y hy hpy => ?_⟩
        rcases List.mem_cons.1 hy with rfl | hy
        · exact Int.le_refl _
        · exact absurd ⟨y, hy, hpy⟩ hl
      · exact absurd ⟨e, he, hpe⟩ hl
theorem live_num {m : List S48} (hr : risingB m = true) (last c : Int) (hlast : ∀ e ∈ m, e.f0 ≤ last) (hnum : ∀ e ∈ m, ∀ z ∈ m, e.f1 = z.f1 → e.f0 < z.f0 → e.f2 < z.f2) : (m.foldl (numStep c) (0, 0)).1 = ((liveList m last).foldl (numStep c) (0, 0)).1 := by
  rw [liveList_E hr]
  obtain ⟨a1, a2, a3⟩ := num_spec c m (0, 0)
  obtain ⟨b1, b2, b3⟩ := num_spec c (m.filterMap (liveE m last)) (0, 0)
  generalize (m.foldl (numStep c) (0, 0)).1 = M at *
  generalize ((m.filterMap (liveE m last)).foldl (numStep c) (0, 0)).1 = N at *
  simp only at a1 a3 b1 b3
  have h1 : N ≤ M := by
    rcases b3 with b3 | ⟨y, hy, y1, y2⟩
    · omega
    · obtain ⟨e, he, h⟩ := List.mem_filterMap.1 hy
      obtain ⟨q0, q1, q2⟩ := liveE_same h
      have := a2 e he (by rw [← q1]; exact y1)
      omega
  have h2 : M ≤ N := by
    rcases a3 with a3 | ⟨e, he, e1, e2⟩
    · omega
    · obtain ⟨z, hz, zc, zm⟩ := exists_max (fun x => x.f1 = c) m ⟨e, he, e1⟩
      have hle : e.f2 ≤ z.f2 := by
        have q := zm e he e1
        by_cases hq : e.f0 = z.f0
        · rw [rising_eq hr he hz hq]; exact Int.le_refl _
        · have := hnum e he z hz (by rw [e1]; exact zc.symm) (by omega)
          omega
      have hL : lastE m last z := ⟨hlast z hz, fun x hx _ hx1 => zm x hx (by rw [hx1]; exact zc)⟩
      obtain ⟨y, hy⟩ : ∃ y, liveE m last z = some y := by
        unfold liveE
        by_cases c1 : keptE m last z
        · exact ⟨z, by rw [if_pos c1]⟩
        · exact ⟨trim48 z, by rw [if_neg c1, if_pos hL]⟩
      obtain ⟨q0, q1, q2⟩ := liveE_same hy
      have := b2 y (List.mem_filterMap.2 ⟨z, hz, hy⟩) (by rw [q1]; exact zc)
      omega
  omega
theorem live_names {m : List S48} (hr : risingB m = true) (last : Int) : isortB (nameSet last (liveList m last)) = isortB (nameSet last m) := by
  obtain ⟨n1, n2⟩ := nameSet_spec m last m.length (Nat.le_refl _)
  obtain ⟨x1, x2⟩ := nameSet_spec (liveList m last) last (liveList m last).length (Nat.le_refl _)
  rw [List.take_length] at n1 n2 x1 x2
  refine sorted_ext (strict_of_le (isortB_sorted _) ((isortB_perm _).nodup_iff.2 x1)) (strict_of_le (isortB_sorted _) ((isortB_perm _).nodup_iff.2 n1)) (fun x => ?_)
  rw [(isortB_perm _).mem_iff, (isortB_perm _).mem_iff, n2, x2]
  unfold isPut
  rw [live_find hr]
  cases fnd m x last m.length with
  | none => rfl
  | some e => by_cases h : e.f3 = 1 <;> simp [h]
theorem nameSet_len (last : Int) (m : List S48) : (nameSet last m).length ≤ m.length := by
  have hle : ∀ (l : List S48) (S : List (List UInt8)), (l.foldl (nameStep last) S).length ≤ S.length + l.length := by
    intro l
    induction l with
    | nil => intro S; simp
    | cons e l ih =>
      intro S
      rw [List.foldl_cons, List.length_cons]
      refine Nat.le_trans (ih _) ?_
      have hf := List.length_filter_le (fun y => !decide (y = bs e.f4)) S
      have : (nameStep last S e).length ≤ S.length + 1 := by
        unfold nameStep
        split
        · omega
        · split
          · rw [List.length_cons]; omega
          · split <;> omega
      omega
  have := hle m []
  unfold nameSet
  simpa using this
end Go.Proofs.Yteeeiaggkdlolaa.Ky
