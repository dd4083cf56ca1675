/- keys.Live: the entries that count: walked by hand: two maps that the call makes, what the one holds, what the other holds beside it, sorted by their numbers. -/
import Derived.Test.YteeeiaggkdlolaaKyw
import Derived.Lib.SlKeysI
namespace Go.Proofs.Yteeeiaggkdlolaa.Ky
open Go.RowKit Go.Maps Go.Sort Go.Shelf Go.WideMaps Go.Proofs.YteeeiaggkdlolaaW.PrintWords Go.Proofs.YteeeiaggkdlolaaW.PrintLast Go.Proofs.YteeeiaggkdlolaaW.PrintMore
set_option linter.unusedVariables false
set_option linter.unusedSimpArgs false
set_option linter.unusedSectionVars false

theorem law3 : Keyed Try.prog 3 := int_keyed Try.underlying3

/-! ### the plain words -/
def st1 (l : List S48) (last : Int) : Nat → List UInt8 → Option Nat
  | 0, _ => none
  | k + 1, key =>
    if last < (rd_T48 l k).f0 then st1 l last k key
    else if (rd_T48 l k).f3 = 1 then (if key = bs (rd_T48 l k).f4 then some k else st1 l last k key)
    else if (rd_T48 l k).f3 = 2 then (if key = bs (rd_T48 l k).f4 then none else st1 l last k key)
    else st1 l last k key
def st2 (l : List S48) (last : Int) : Nat → Int → Option Nat
  | 0, _ => none
  | k + 1, c =>
    if last < (rd_T48 l k).f0 then st2 l last k c
    else if c = (rd_T48 l k).f1 then some k else st2 l last k c
def okE (l : List S48) : Bool := l.all (fun e => decide (e.f4.size ≤ maxLen) && (Lit.int .i64 e.f1).wf)
def risingB : List S48 → Bool
  | [] => true
  | [_] => true
  | x :: y :: r => decide (x.f0 < y.f0) && risingB (y :: r)
def trim48 (e : S48) : S48 := ⟨e.f0, e.f1, e.f2, 0, ⟨#[]⟩, 0, 0, []⟩
def liveAt (l : List S48) (last : Int) (i : Nat) : Option S48 :=
  if st1 l last l.length (bs (rd_T48 l i).f4) = some i then some (rd_T48 l i)
  else if st2 l last l.length (rd_T48 l i).f1 = some i then some (trim48 (rd_T48 l i)) else none
def liveList (l : List S48) (last : Int) : List S48 := (List.range l.length).filterMap (liveAt l last)
def keys_Live.f (l0 : List (S48)) (a1 : Int) : Option ((List (S48))) :=
  if l0.length < 549755813888 ∧ okE l0 = true ∧ risingB l0 = true then some (liveList l0 a1) else none

/-! ### what the maps hold -/
def Rel1 (f : List UInt8 → Option Nat) (ev : Nat → V8) (D : DataW V8) : Prop := IsMap D ∧ ∀ x z, D.atKey (.string x) z = match f x with | some i => .held (ev i) | none => z
def Rel2 (f : Int → Option Nat) (ev : Nat → V8) (D : DataW V8) : Prop := IsMap D ∧ ∀ x z, D.atKey (.int .i64 x) z = match f x with | some i => .held (ev i) | none => z
theorem rel1_put {f : List UInt8 → Option Nat} {ev : Nat → V8} {D : DataW V8} (h : Rel1 f ev D) (k : List UInt8) (i : Nat) : Rel1 (fun x => if x = k then some i else f x) ev (D.put (.string k) (.held (ev i))) := by
  refine ⟨h.1.put _ _, fun x z => ?_⟩
  by_cases hx : x = k
  · subst hx
    simp only [if_true]
    exact atKey_put_same h.1 (show WideAt.IsKeyLit (.string x) from trivial) _ _
  · simp only [hx, if_false]
    rw [atKey_put_other (by simpa using hx)]
    exact h.2 x z
theorem rel1_del {f : List UInt8 → Option Nat} {ev : Nat → V8} {D : DataW V8} (h : Rel1 f ev D) (k : List UInt8) : Rel1 (fun x => if x = k then none else f x) ev (D.del (.string k)) := by
  refine ⟨h.1.del _, fun x z => ?_⟩
  by_cases hx : x = k
  · subst hx
    simp only [if_true]
    exact atKey_del_same _
  · simp only [hx, if_false]
    rw [atKey_del_other (by simpa using hx)]
    exact h.2 x z
theorem rel2_put {f : Int → Option Nat} {ev : Nat → V8} {D : DataW V8} (h : Rel2 f ev D) (k : Int) (i : Nat) : Rel2 (fun x => if x = k then some i else f x) ev (D.put (.int .i64 k) (.held (ev i))) := by
  refine ⟨h.1.put _ _, fun x z => ?_⟩
  by_cases hx : x = k
  · subst hx
    simp only [if_true]
    exact atKey_put_same h.1 (show WideAt.IsKeyLit (.int .i64 x) from trivial) _ _
  · simp only [hx, if_false]
    rw [atKey_put_other (by simpa using hx)]
    exact h.2 x z

/-- Each entry's cells: the numbers are the row's, the fragment's place is told once for all. -/
def EvOf (w : World) (P : Nat → Prop) (l : List S48) (ev : Nat → V8) : Prop := ∀ i, i < l.length → ev i = ⟨(rd_T48 l i).f0, (rd_T48 l i).f1, (rd_T48 l i).f2, (rd_T48 l i).f3, (rd_T48 l i).f4, (rd_T48 l i).f5, (rd_T48 l i).f6, (ev i).A, (rd_T48 l i).f7.length, (ev i).c⟩ ∧ (rd_T48 l i).f7.length ≤ (ev i).c ∧ Kd.F (Kd.int .u8) w P (ev i).A (rd_T48 l i).f7.length (rd_T48 l i).f7

theorem st1_succ {l : List S48} {last : Int} {k : Nat} {y : V8} (h0 : y.f0 = (rd_T48 l k).f0) (h3 : y.f3 = (rd_T48 l k).f3) (h4 : y.f4 = (rd_T48 l k).f4) : st1 l last (k + 1) = fun key =>
    if last < y.f0 then st1 l last k key
    else if y.f3 = 1 then (if key = bs y.f4 then some k else st1 l last k key)
    else if y.f3 = 2 then (if key = bs y.f4 then none else st1 l last k key)
    else st1 l last k key := by
  funext key
  rw [h0, h3, h4]
  rfl
theorem st2_succ {l : List S48} {last : Int} {k : Nat} {y : V8} (h0 : y.f0 = (rd_T48 l k).f0) (h1 : y.f1 = (rd_T48 l k).f1) : st2 l last (k + 1) = fun c =>
    if last < y.f0 then st2 l last k c
    else if c = y.f1 then some k else st2 l last k c := by
  funext c
  rw [h0, h1]
  rfl
theorem okE_at {l : List S48} (h : okE l = true) {k : Nat} (hk : k < l.length) : (rd_T48 l k).f4.size ≤ maxLen ∧ (Lit.int .i64 (rd_T48 l k).f1).wf = true := by
  have := List.all_eq_true.1 h l[k] (List.getElem_mem hk)
  simpa [rd_T48, List.getD_eq_getElem?_getD, List.getElem?_eq_getElem hk] using this
theorem st2_at {l : List S48} {last : Int} {c : Int} : ∀ {k i : Nat}, st2 l last k c = some i → i < k ∧ (rd_T48 l i).f1 = c ∧ (rd_T48 l i).f0 ≤ last
  | 0, i, h => by cases h
  | k + 1, i, h => by
    unfold st2 at h
    split at h
    · have := st2_at h; exact ⟨by omega, this.2⟩
    · rename_i h0
      split at h
      · rename_i h1
        obtain rfl := Option.some.inj h
        exact ⟨by omega, h1.symm, by omega⟩
      · have := st2_at h; exact ⟨by omega, this.2⟩
theorem st1_at {l : List S48} {last : Int} {key : List UInt8} : ∀ {k i : Nat}, st1 l last k key = some i → i < k ∧ bs (rd_T48 l i).f4 = key ∧ (rd_T48 l i).f0 ≤ last ∧ (rd_T48 l i).f3 = 1
  | 0, i, h => by cases h
  | k + 1, i, h => by
    unfold st1 at h
    split at h
    · have := st1_at h; exact ⟨by omega, this.2⟩
    · rename_i h0
      split at h
      · rename_i h3
        split at h
        · rename_i h1
          obtain rfl := Option.some.inj h
          exact ⟨by omega, h1.symm, by omega, h3⟩
        · have := st1_at h; exact ⟨by omega, this.2⟩
      · split at h
        · split at h
          · cases h
          · have := st1_at h; exact ⟨by omega, this.2⟩
        · have := st1_at h; exact ⟨by omega, this.2⟩
theorem rising_lt : ∀ {l : List S48}, risingB l = true → ∀ {i j : Nat}, i < j → j < l.length → (rd_T48 l i).f0 < (rd_T48 l j).f0
  | [], _, i, j, hij, hj => by simp at hj
  | [x], _, i, j, hij, hj => by simp at hj; omega
  | x :: y :: r, h, i, j, hij, hj => by
    simp only [risingB, Bool.and_eq_true, decide_eq_true_eq] at h
    have ih := fun {i j : Nat} => @rising_lt (y :: r) h.2 i j
    have e : ∀ k : Nat, rd_T48 (x :: y :: r) ((k + 1 : Nat) : Int) = rd_T48 (y :: r) (k : Int) := fun k => by simp [rd_T48]
    cases j with
    | zero => omega
    | succ j =>
      cases i with
      | zero =>
        rw [e]
        have e0 : rd_T48 (x :: y :: r) ((0 : Nat) : Int) = x := rfl
        rw [e0]
        cases j with
        | zero => exact h.1
        | succ j =>
          have := ih (i := 0) (j := j + 1) (by omega) (by simpa using hj)
          have e1 : rd_T48 (y :: r) ((0 : Nat) : Int) = y := rfl
          rw [e1] at this
          omega
      | succ i =>
        rw [e, e]
        exact ih (by omega) (by simpa using hj)
theorem ranges_drew {P : Program} {k : TypeId} {R : Value → Option (DataW V8 × List MemPlace)} {w : World} {b r n : Nat} {D : DataW V8} {left : Lit → Bool} {cnt : Nat} (h : w.ranges P k R b r n D left cnt) : w.drew.ranges P k R b r n D left cnt := h
def z8 : V8 := ⟨0, 0, 0, 0, ⟨#[]⟩, 0, 0, none, 0, 0⟩
def tr8 (y : V8) : V8 := ⟨y.f0, y.f1, y.f2, 0, ⟨#[]⟩, 0, 0, none, 0, 0⟩
def more (l : List S48) (last : Int) (ev : Nat → V8) (c : Int) : Option V8 :=
  match st2 l last l.length c with
  | some i => if st1 l last l.length (bs (rd_T48 l i).f4) = some i then none else some (tr8 (ev i))
  | none => none
theorem lookup8 {P : Program} (w : World) {ops : Array Oper} {rest : List Oper} {o : Oper} {a : Act} {Q : Exit → Act → World → Prop} (hg : o.guard = none) (m x : Operand) (t : TypeId) (hop : o.op = Op.lookup t m x true)
    (k e : TypeId) (K : Keyed P k) (ht : P.underlying t = some (.map k e)) {z : Value} (hz : (zeroValue e).run P w = .ok z w) (zy : V8) (hzy : z = mk8 zy) (b n : Nat) (D : DataW V8)
    (hm : a.eval m = .map (some b)) (hown : w.ownsMap P k R8 b n D) (key : Value) (kl : Lit) (hx : a.eval x = key) (hkey : keyOf P k key = some kl) (y : V8) (hat : D.atKey kl (.held zy) = .held y) (bb : Bool) (hbb : Maps.has D kl = bb)
    (hK : wpList P ops Q rest (a.put o.dst (.tuple #[.agg #[.int .i64 y.f0, .int .i64 y.f1, .int .i64 y.f2, .int .i64 y.f3, .string y.f4, .int .i64 y.f5, .int .u32 y.f6, .slice y.A y.n y.c], .bool bb])) w) :
    wpList P ops Q (o :: rest) a w := by
  subst hbb
  refine wpList_lookup_own_ok w hg m x t hop k e K ht R8 hz (.held zy) [] (by rw [hzy]; exact R8_mk zy) b n D hm hown key kl hx hkey ?_
  intro v ps hv
  rw [hat] at hv
  obtain ⟨c, rfl, hc⟩ := R8_inv hv
  simp only [Prod.mk.injEq, DataW.held.injEq] at hc
  obtain ⟨rfl, _⟩ := hc
  exact hK
/-- The row's list, told in cells. -/
def liveV (l : List S48) (last : Int) (ev : Nat → V8) (i : Nat) : Option V8 :=
  if st1 l last l.length (bs (rd_T48 l i).f4) = some i then some (ev i)
  else if st2 l last l.length (rd_T48 l i).f1 = some i then some (tr8 (ev i)) else none
def Pair8 (W : World) (ok : Nat → Prop) (x : S48) (y : V8) : Prop := Kd.FK k48 W ok x (enc8 y)
theorem N_of_k8 {w : World} {base : Nat} {ok : Nat → Prop} {v : Value} {vs : List V8} {xs : List S48} (h : Kd.R k8 48 w base (fun _ => True) v vs) (hok : ∀ k, v.ownBlock = some k → ok k) (hl : vs.length = xs.length) (hp : ∀ (j : Nat) (x : S48) (y : V8), xs[j]? = some x → vs[j]? = some y → Kd.FK k48 w (fun k => ok k ∧ some k ≠ v.ownBlock) x (enc8 y)) : Kd.N k48 48 w base ok v xs := by
  obtain ⟨_, inner, ho, hr⟩ := h
  refine ⟨hok, vs.map enc8, by simpa using hl, ⟨fun k hk => hk.symm, inner, by rw [List.length_map]; exact ho, ?_⟩, ?_⟩
  · refine ⟨by rw [List.length_map]; exact hr.1, fun j p hj => ?_⟩
    rw [List.getElem?_map] at hj
    obtain ⟨q, hq, rfl⟩ := Option.map_eq_some_iff.1 hj
    have this : (inner.drop (j * 8)).take 8 = enc8 q := k8_openM (hr.2 j q hq)
    refine ⟨this, ?_, ?_⟩
    · show ((inner.drop (j * 8)).take 8).length = 8
      rw [this]; rfl
    · show ∀ u ∈ (inner.drop (j * 8)).take 8, u.oneCell' = true
      rw [this]; intro u hu; simp [enc8] at hu; rcases hu with rfl | rfl | rfl | rfl | rfl | rfl | rfl | rfl <;> rfl
  · intro j x c hx hc
    rw [List.getElem?_map] at hc
    obtain ⟨q, hq, rfl⟩ := Option.map_eq_some_iff.1 hc
    exact hp j x q hx hq
theorem rd_inj {l : List S48} (hr : risingB l = true) {i j : Nat} (hi : i < l.length) (hj : j < l.length) (h : (rd_T48 l i).f0 = (rd_T48 l j).f0) : i = j := by
  rcases Nat.lt_trichotomy i j with h1 | h1 | h1
  · have := rising_lt hr h1 hj; omega
  · exact h1
  · have := rising_lt hr h1 hi; omega
theorem live_perm {l : List S48} {last : Int} {ev : Nat → V8} {D1 D2 : DataW V8} {ss : List (List UInt8)} {vs us : List V8} {cs : List Int} (hr : risingB l = true)
    (h0 : ∀ i, i < l.length → (ev i).f0 = (rd_T48 l i).f0 ∧ (ev i).f1 = (rd_T48 l i).f1 ∧ (ev i).f4 = (rd_T48 l i).f4)
    (hV : Vals D1 (fun _ => false) ss vs) (hR1 : Rel1 (st1 l last l.length) ev D1) (hC : CollectedI D2 (fun _ => false) cs) (hR2 : Rel2 (st2 l last l.length) ev D2)
    (hp : us.Perm (vs ++ cs.filterMap (more l last ev))) (hs : us.Pairwise (fun x y => x.f0 ≤ y.f0)) : us = (List.range l.length).filterMap (liveV l last ev) := by
  -- what is in the first part
  have m1 : ∀ (a : Nat) (ha : a < vs.length), ∃ i, i < l.length ∧ st1 l last l.length (bs (rd_T48 l i).f4) = some i ∧ vs[a] = ev i ∧ ∃ hb : a < ss.length, bs (vs[a]).f4 = ss[a] := by
    intro a ha
    have hb : a < ss.length := by have := hV.2.1; omega
    have h1 := hV.2.2 a hb ha .nil
    have h2 := hR1.2 ss[a] .nil
    cases hq : st1 l last l.length ss[a] with
    | none => rw [hq] at h2; have := h2.symm.trans h1; cases this
    | some i =>
      rw [hq] at h2
      have h3 := h2.symm.trans h1
      obtain ⟨h4, h5, _, _⟩ := st1_at hq
      have h6 : ev i = vs[a] := by injection h3
      exact ⟨i, h4, by rw [h5]; exact hq, h6.symm, hb, by rw [← h6, (h0 i h4).2.2]; exact h5⟩
  have m2 : ∀ y, y ∈ cs.filterMap (more l last ev) → ∃ i, i < l.length ∧ st1 l last l.length (bs (rd_T48 l i).f4) ≠ some i ∧ st2 l last l.length (rd_T48 l i).f1 = some i ∧ y = tr8 (ev i) := by
    intro y hy
    obtain ⟨c, _, hc⟩ := List.mem_filterMap.1 hy
    unfold more at hc
    cases hq : st2 l last l.length c with
    | none => rw [hq] at hc; cases hc
    | some i =>
      rw [hq] at hc
      simp only at hc
      split at hc
      · cases hc
      · rename_i hne
        obtain ⟨h4, h5, _⟩ := st2_at hq
        exact ⟨i, h4, hne, by rw [h5]; exact hq, (Option.some.inj hc).symm⟩
  have n1 : vs.Nodup := by
    refine List.pairwise_iff_getElem.2 (fun a b ha hb hab e => ?_)
    obtain ⟨_, _, _, _, ha', h1⟩ := m1 a ha
    obtain ⟨_, _, _, _, hb', h2⟩ := m1 b hb
    have h3 : ss[a] = ss[b] := by rw [← h1, ← h2, e]
    exact (List.pairwise_iff_getElem.1 hV.1.1 a b ha' hb' hab) h3
  have n2 : (cs.filterMap (more l last ev)).Nodup := by
    have key : ∀ c y, more l last ev c = some y → y.f1 = c := by
      intro c y hc
      unfold more at hc
      cases hq : st2 l last l.length c with
      | none => rw [hq] at hc; cases hc
      | some i =>
        rw [hq] at hc
        simp only at hc
        split at hc
        · cases hc
        · obtain ⟨h4, h5, _⟩ := st2_at hq
          rw [← Option.some.inj hc]
          show (ev i).f1 = c
          rw [(h0 i h4).2.1]
          exact h5
    refine List.Pairwise.filterMap _ (fun c c' hne y hy y' hy' e => hne ?_) hC.1
    rw [← key c y hy, ← key c' y' hy', e]
  have k1 : ∀ y, y ∈ vs → ∃ i, i < l.length ∧ st1 l last l.length (bs (rd_T48 l i).f4) = some i ∧ y = ev i := by
    intro y hy
    obtain ⟨a, ha, rfl⟩ := List.mem_iff_getElem.1 hy
    obtain ⟨i, h1, h2, h3, _⟩ := m1 a ha
    exact ⟨i, h1, h2, h3⟩
  have nu : (vs ++ cs.filterMap (more l last ev)).Nodup := by
    refine List.nodup_append.2 ⟨n1, n2, fun x hx y hy e => ?_⟩
    obtain ⟨i, h1, h2, h3⟩ := k1 x hx
    obtain ⟨i', h1', h2', _, h3'⟩ := m2 y hy
    have : i = i' := rd_inj hr h1 h1' (by
      rw [← (h0 i h1).1, ← (h0 i' h1').1, ← h3, e, h3']
      rfl)
    subst this
    exact h2' h2
  have hf : ∀ i, i < l.length → ∀ y, liveV l last ev i = some y → y.f0 = (rd_T48 l i).f0 := by
    intro i hi y hy
    unfold liveV at hy
    split at hy
    · rw [← Option.some.inj hy]; exact (h0 i hi).1
    · split at hy
      · rw [← Option.some.inj hy]; exact (h0 i hi).1
      · cases hy
  have hT : ((List.range l.length).filterMap (liveV l last ev)).Pairwise (fun x y => x.f0 < y.f0) := by
    have hrg : (List.range l.length).Pairwise (fun i j => i < j ∧ i < l.length ∧ j < l.length) := by
      refine List.pairwise_iff_getElem.2 (fun a b ha hb hab => ?_)
      simp at ha hb ⊢
      exact ⟨hab, ha, hb⟩
    refine List.Pairwise.filterMap _ (fun i j hij y hy y' hy' => ?_) hrg
    rw [hf i hij.2.1 y hy, hf j hij.2.2 y' hy']
    exact rising_lt hr hij.1 hij.2.2
  have hperm : us.Perm ((List.range l.length).filterMap (liveV l last ev)) := by
    refine hp.trans ((List.perm_ext_iff_of_nodup nu (hT.imp (fun {a b} h e => by rw [e] at h; omega))).2 fun y => ?_)
    rw [List.mem_append]
    constructor
    · rintro (hy | hy)
      · obtain ⟨i, h1, h2, rfl⟩ := k1 y hy
        exact List.mem_filterMap.2 ⟨i, List.mem_range.2 h1, by unfold liveV; rw [if_pos h2]⟩
      · obtain ⟨i, h1, h2, h3, rfl⟩ := m2 y hy
        exact List.mem_filterMap.2 ⟨i, List.mem_range.2 h1, by unfold liveV; rw [if_neg h2, if_pos h3]⟩
    · intro hy
      obtain ⟨i, hi, hy⟩ := List.mem_filterMap.1 hy
      have hi := List.mem_range.1 hi
      unfold liveV at hy
      split at hy
      · rename_i h1
        obtain rfl := Option.some.inj hy
        have hh : has D1 (.string (bs (rd_T48 l i).f4)) = true := has_true_of_atKey (y := .held (ev i)) (fun z => by rw [hR1.2, h1])
        have hm := (hV.1.2 _).2 ⟨hh, rfl⟩
        obtain ⟨a, ha, hae⟩ := List.mem_iff_getElem.1 hm
        have ha' : a < vs.length := by have := hV.2.1; omega
        have h2 := hV.2.2 a ha ha' .nil
        rw [hae, hR1.2, h1] at h2
        have h3 : ev i = vs[a] := by injection h2
        exact .inl (by rw [h3]; exact List.getElem_mem ha')
      · rename_i h1
        split at hy
        · rename_i h2
          obtain rfl := Option.some.inj hy
          have hh : has D2 (.int .i64 (rd_T48 l i).f1) = true := has_true_of_atKey (y := .held (ev i)) (fun z => by rw [hR2.2, h2])
          have hm := (hC.2 _).2 ⟨hh, rfl⟩
          exact .inr (List.mem_filterMap.2 ⟨_, hm, by unfold more; rw [h2]; simp only; rw [if_neg h1]⟩)
        · cases hy
  exact List.Perm.eq_of_pairwise (le := fun x y : V8 => x.f0 ≤ y.f0) (fun a b ha hb h1 h2 => by
    have ha' := hperm.mem_iff.1 ha
    obtain ⟨p, hp1, rfl⟩ := List.mem_iff_getElem.1 ha'
    obtain ⟨q, hq1, rfl⟩ := List.mem_iff_getElem.1 hb
    rcases Nat.lt_trichotomy p q with h | h | h
    · have := List.pairwise_iff_getElem.1 hT p q hp1 hq1 h; omega
    · subst h; rfl
    · have := List.pairwise_iff_getElem.1 hT q p hq1 hp1 h; omega) hs (hT.imp (fun h => Int.le_of_lt h)) hperm
theorem zip_filterMap {α β : Type} {f : Nat → Option α} {g : Nat → Option β} {Rr : α → β → Prop} : ∀ L : List Nat, (∀ i ∈ L, (f i = none ∧ g i = none) ∨ ∃ x y, f i = some x ∧ g i = some y ∧ Rr x y) → (L.filterMap g).length = (L.filterMap f).length ∧ ∀ (j : Nat) (x : α) (y : β), (L.filterMap f)[j]? = some x → (L.filterMap g)[j]? = some y → Rr x y
  | [], _ => ⟨rfl, fun j x y h => by cases h⟩
  | i :: L, h => by
    obtain ⟨ih1, ih2⟩ := zip_filterMap (f := f) (g := g) (Rr := Rr) L (fun k hk => h k (List.mem_cons_of_mem _ hk))
    rcases h i List.mem_cons_self with ⟨h1, h2⟩ | ⟨x, y, h1, h2, h3⟩
    · rw [List.filterMap_cons_none h1, List.filterMap_cons_none h2]
      exact ⟨ih1, ih2⟩
    · rw [List.filterMap_cons_some h1, List.filterMap_cons_some h2]
      refine ⟨by simp [ih1], fun j x' y' hx hy => ?_⟩
      cases j with
      | zero =>
        obtain rfl := Option.some.inj hx
        obtain rfl := Option.some.inj hy
        exact h3
      | succ j => exact ih2 j x' y' hx hy
/-- The cells of entry i as they lie. -/
def CellsAt (W : World) (ad : Addr) (x : V8) : Prop := W.cell? ad = some (.int .i64 x.f0) ∧ W.cell? ⟨ad.block, ad.off + 1, none⟩ = some (.int .i64 x.f1) ∧ W.cell? ⟨ad.block, ad.off + 2, none⟩ = some (.int .i64 x.f2) ∧ W.cell? ⟨ad.block, ad.off + 3, none⟩ = some (.int .i64 x.f3) ∧ W.cell? ⟨ad.block, ad.off + 4, none⟩ = some (.string x.f4) ∧ W.cell? ⟨ad.block, ad.off + 5, none⟩ = some (.int .i64 x.f5) ∧ W.cell? ⟨ad.block, ad.off + 6, none⟩ = some (.int .u32 x.f6) ∧ W.cell? ⟨ad.block, ad.off + 7, none⟩ = some (.slice x.A x.n x.c)
theorem cells8 {W : World} {g : Nat} {y : V8} (h : W.heap[g]? = some (.cells #[.int .i64 y.f0, .int .i64 y.f1, .int .i64 y.f2, .int .i64 y.f3, .string y.f4, .int .i64 y.f5, .int .u32 y.f6, .slice y.A y.n y.c] 48 (0, 0))) : W.cell? ⟨g, 0, none⟩ = some (.int .i64 y.f0) ∧ W.cell? ⟨g, 1, none⟩ = some (.int .i64 y.f1) ∧ W.cell? ⟨g, 2, none⟩ = some (.int .i64 y.f2) ∧ W.cell? ⟨g, 3, none⟩ = some (.int .i64 y.f3) ∧ W.cell? ⟨g, 4, none⟩ = some (.string y.f4) ∧ W.cell? ⟨g, 5, none⟩ = some (.int .i64 y.f5) ∧ W.cell? ⟨g, 6, none⟩ = some (.int .u32 y.f6) ∧ W.cell? ⟨g, 7, none⟩ = some (.slice y.A y.n y.c) :=
  ⟨(blk_cell h 0).trans rfl, (blk_cell h 1).trans rfl, (blk_cell h 2).trans rfl, (blk_cell h 3).trans rfl, (blk_cell h 4).trans rfl, (blk_cell h 5).trans rfl, (blk_cell h 6).trans rfl, (blk_cell h 7).trans rfl⟩
theorem exists_ev {w : World} {P : Nat → Prop} {A : Option Addr} {l : List S48} (hF : Kd.F k48 w P A l.length l) : ∃ ev : Nat → V8, EvOf w P l ev ∧ ∀ i, i < l.length → ∃ ad, A = some ad ∧ CellsAt w (ad.add (i * 8)) (ev i) := by
  have key : ∀ i, ∃ x : V8, i < l.length → (x = ⟨(rd_T48 l i).f0, (rd_T48 l i).f1, (rd_T48 l i).f2, (rd_T48 l i).f3, (rd_T48 l i).f4, (rd_T48 l i).f5, (rd_T48 l i).f6, x.A, (rd_T48 l i).f7.length, x.c⟩ ∧ (rd_T48 l i).f7.length ≤ x.c ∧ Kd.F (Kd.int .u8) w P x.A (rd_T48 l i).f7.length (rd_T48 l i).f7) ∧ ∃ ad, A = some ad ∧ CellsAt w (ad.add (i * 8)) x := by
    intro i
    by_cases hi : i < l.length
    · obtain ⟨ad, c, e, _, hK, hc0, _⟩ := Kd.F_get hF z48 (i : Int) (by omega) (by omega)
      have hc : ∀ j u, c[j]? = some u → w.cell? (ad.add (i * 8 + j)) = some u := hc0
      obtain ⟨A7, c7, rfl, l7, g7⟩ := k48_openF hK
      refine ⟨⟨(rd_T48 l i).f0, (rd_T48 l i).f1, (rd_T48 l i).f2, (rd_T48 l i).f3, (rd_T48 l i).f4, (rd_T48 l i).f5, (rd_T48 l i).f6, A7, (rd_T48 l i).f7.length, c7⟩, fun _ => ⟨⟨rfl, l7, g7⟩, ad, e, ?_⟩⟩
      exact ⟨hc 0 _ rfl, by rw [← add_field _ _ 1 (by omega)]; exact hc 1 _ rfl, by rw [← add_field _ _ 2 (by omega)]; exact hc 2 _ rfl, by rw [← add_field _ _ 3 (by omega)]; exact hc 3 _ rfl, by rw [← add_field _ _ 4 (by omega)]; exact hc 4 _ rfl, by rw [← add_field _ _ 5 (by omega)]; exact hc 5 _ rfl, by rw [← add_field _ _ 6 (by omega)]; exact hc 6 _ rfl, by rw [← add_field _ _ 7 (by omega)]; exact hc 7 _ rfl⟩
    · exact ⟨default, fun h => absurd h hi⟩
  obtain ⟨ev, hev⟩ := Classical.axiomOfChoice key
  exact ⟨ev, fun i hi => (hev i hi).1, fun i hi => (hev i hi).2⟩
theorem CellsAt.below {w W : World} {ad : Addr} {x : V8} (h : CellsAt w ad x) (hb : Below w.heap.size w W) : CellsAt W ad x :=
  ⟨pw_cell_below hb h.1, pw_cell_below hb h.2.1, pw_cell_below hb h.2.2.1, pw_cell_below hb h.2.2.2.1, pw_cell_below hb h.2.2.2.2.1, pw_cell_below hb h.2.2.2.2.2.1, pw_cell_below hb h.2.2.2.2.2.2.1, pw_cell_below hb h.2.2.2.2.2.2.2⟩

set_option maxRecDepth 100000 in
set_option maxHeartbeats 8000000 in
theorem keys_Live.calls (P0_ : Nat → Prop) (A0 : Option Addr) (c0 : Nat) (l0 : List (S48)) (a1 : Int) (r : List (S48)) (w : World) (hs0 : Kd.V k48 48 w w.heap.size (fun k_ => P0_ k_) (.slice A0 l0.length c0) l0) (h : keys_Live.f l0 a1 = some r) :
    Calls Try.prog 32 #[.slice A0 l0.length c0, .int .i64 a1] w fun e w' => ∃ v0_ : Value, e = .returned (v0_) ∧ Kd.N k48 48 w' w.heap.size (fun k_ => (P0_ k_ ∨ w.heap.size ≤ k_)) v0_ r ∧ Below w.heap.size w w' := by
  unfold keys_Live.f at h
  split at h
  case isFalse => cases h
  rename_i hg
  obtain rfl := Option.some.inj h
  clear h
  have HL := Aside0.mk hg.1
  have HS := Aside0.mk hg.2.1
  have HRI := Aside0.mk hg.2.2
  clear hg
  have hF := (Kd.V_at hs0).2.2
  have hC := (Kd.F_now hF).2.1
  have HF := Aside0.mk hF
  have hcs := (Kd.V_at hs0).2.1
  obtain ⟨ev, hev, hcells⟩ := exists_ev hF
  have HE := Aside0.mk hev
  have HX := Aside0.mk hcells
  clear hs0 hF hev hcells
  have hmm := @run_makeMap Try.prog
  go_enter Try.func32, Try.ntmps32
  go_wp2
  go_loopw [18] (fun i wr => ∃ (k : Nat) (D1 D2 : DataW V8), k ≤ l0.length ∧ i = .int .i64 k ∧ Aside0 (Rel1 (st1 l0 a1 k) ev D1) ∧ Aside0 (Rel2 (st2 l0 a1 k) ev D2) ∧ Aside0 (wr.ownsMap Try.prog 9 R8 w.heap.size k D1) ∧ Aside0 (wr.ownsMap Try.prog 3 R8 (w.heap.size + 1) k D2) ∧ Aside0 (Below w.heap.size w wr)) (fun i _ => l0.length - (intOf i).toNat)
  case atStart =>
    refine ⟨0, .map [], .map [], Nat.zero_le _, rfl, ⟨⟨isMap_empty, fun x z => rfl⟩⟩, ⟨⟨isMap_empty, fun x z => rfl⟩⟩, ⟨(World.ownsMap_made _ _ _ _).alloc _⟩, ⟨by have := World.ownsMap_made (w.alloc (.map #[] 0)) Try.prog 3 R8; simpa using this⟩, ⟨((Below.refl _ _).alloc (Nat.le_refl _) _).alloc (by simp) _⟩⟩
  case round =>
    obtain ⟨k, D1, D2, hk, rfl, HR1, HR2, HO1, HO2, HB⟩ := hrel
    by_cases hlt : k < l0.length
    · obtain ⟨ad, e, hxk⟩ := HX.out k hlt
      cases e
      obtain ⟨hx0, hx1, hx2, hx3, hx4, hx5, hx6, hx7⟩ := hxk.below HB.out
      obtain ⟨hek, hlk, hFk⟩ := HE.out k hlt
      have e0 : (ev k).f0 = (rd_T48 l0 k).f0 := by rw [hek]
      have e1 : (ev k).f1 = (rd_T48 l0 k).f1 := by rw [hek]
      have e3 : (ev k).f3 = (rd_T48 l0 k).f3 := by rw [hek]
      have e4 : (ev k).f4 = (rd_T48 l0 k).f4 := by rw [hek]
      have HT1 := Aside0.mk (st1_succ (last := a1) e0 e3 e4)
      have HT2 := Aside0.mk (st2_succ (last := a1) e0 e1)
      obtain ⟨hk4, hk1⟩ := okE_at HS.out hlt
      rw [← e4] at hk4
      rw [← e1] at hk1
      clear e0 e1 e3 e4 hek hlk hFk
      obtain ⟨y, hy⟩ : ∃ y, ev k = y := ⟨_, rfl⟩
      rw [hy] at hx0 hx1 hx2 hx3 hx4 hx5 hx6 hx7 hk4 hk1 HT1 HT2
      have HY := Aside0.mk hy
      clear hy
      have hkey4 : keyOf Try.prog 9 (.string y.f4) = some (.string (bs y.f4)) := keyOf_string_mk Try.underlying9 hk4
      have hkey1 : keyOf Try.prog 3 (.int .i64 y.f1) = some (.int .i64 y.f1) := keyOf_int_mk Try.underlying3 hk1
      have hval : R8 (.agg #[.int .i64 y.f0, .int .i64 y.f1, .int .i64 y.f2, .int .i64 y.f3, .string y.f4, .int .i64 y.f5, .int .u32 y.f6, .slice y.A y.n y.c]) = some (.held y, []) := R8_mk y
      have hlt' : decide ((k : Int) < (l0.length : Int)) = true := decide_eq_true (by omega)
      have hkm : k < maxLen := by have := HL.out; unfold maxLen; omega
      have HKM := Aside0.mk hkm
      clear hkm hk4 hk1
      by_cases hb1 : a1 < y.f0
      · have hb1' : decide (a1 < y.f0) = true := decide_eq_true hb1
        go_wp2
        go_roundw
        case rel => exact ⟨k + 1, D1, D2, by omega, by go_num, ⟨by rw [HT1.out]; simp only [if_pos hb1]; exact HR1.out⟩, ⟨by rw [HT2.out]; simp only [if_pos hb1]; exact HR2.out⟩, ⟨(HO1.out.alloc _).mono (by omega)⟩, ⟨(HO2.out.alloc _).mono (by omega)⟩, ⟨HB.out.alloc HB.out.size _⟩⟩
        case measure => simp [intOf]; omega
      · have hb1' : decide (a1 < y.f0) = false := decide_eq_false hb1
        by_cases hb2 : y.f3 = 1
        · have hb2' : (y.f3 == 1) = true := beq_iff_eq.mpr hb2
          have HQ2 := Aside0.mk hb2
          clear hb2
          go_wp2_with (first
            | (at_mapUpdate; refine wpList_mapUpdate_own _ rfl _ _ _ 78 rfl 3 48 law3 Try.underlying78 R8 (w.heap.size + 1) k D2 rfl (HO2.out.alloc _) HKM.out _ _ _ rfl rfl hkey1 _ [] hval ?_; intro w1 hown1 hgrow1; have hlt2_ := HO2.out.lt; have hbk_ := blk_grown (blk_new wr _) hgrow1 (by simp only [ne_eq, Option.some.injEq]; omega); obtain ⟨hm0, hm1, hm2, hm3, hm4, hm5, hm6, hm7⟩ := cells8 hbk_; have HBK := Aside0.mk hbk_; have HO11 := Aside0.mk ((HO1.out.alloc _).kept hgrow1 (by simp)); have HO21 := Aside0.mk hown1; have HB1 := Aside0.mk ((HB.out.alloc HB.out.size _).grown hgrow1 (HB.out.alloc HB.out.size _).size (fun j hj => by cases hj; exact Nat.le_succ _)); clear hown1 hgrow1 hbk_ hlt2_)
            | (at_mapUpdate; refine wpList_mapUpdate_own _ rfl _ _ _ 77 rfl 9 48 law9 Try.underlying77 R8 w.heap.size k D1 rfl HO11.out HKM.out _ _ _ rfl rfl hkey4 _ [] hval ?_; intro w2 hown2 hgrow2; have HO12 := Aside0.mk hown2; have HO22 := Aside0.mk (HO21.out.kept hgrow2 (by simp)); have HB2 := Aside0.mk (HB1.out.grown hgrow2 HB1.out.size (fun j hj => by cases hj; exact Nat.le_refl _)); clear hown2 hgrow2)
            | go_in)
          go_roundw
          case rel => exact ⟨k + 1, _, _, by omega, by go_num, ⟨by rw [HT1.out]; simp only [if_neg hb1, if_pos HQ2.out]; rw [← HY.out]; exact rel1_put HR1.out _ _⟩, ⟨by rw [HT2.out]; simp only [if_neg hb1]; rw [← HY.out]; exact rel2_put HR2.out _ _⟩, ⟨HO12.out⟩, ⟨HO22.out⟩, ⟨HB2.out⟩⟩
          case measure => simp [intOf]; omega
        · have hb2' : (y.f3 == 1) = false := beq_eq_false_iff_ne.mpr hb2
          by_cases hb3 : y.f3 = 2
          · have hb3' : (y.f3 == 2) = true := beq_iff_eq.mpr hb3
            have HQ2 := Aside0.mk hb2
            have HQ3 := Aside0.mk hb3
            clear hb2 hb3
            go_wp2_with (first
              | (at_mapUpdate; refine wpList_mapUpdate_own _ rfl _ _ _ 78 rfl 3 48 law3 Try.underlying78 R8 (w.heap.size + 1) k D2 rfl (HO2.out.alloc _) HKM.out _ _ _ rfl rfl hkey1 _ [] hval ?_; intro w1 hown1 hgrow1; have hlt2_ := HO2.out.lt; have hbk_ := blk_grown (blk_new wr _) hgrow1 (by simp only [ne_eq, Option.some.injEq]; omega); obtain ⟨hm0, hm1, hm2, hm3, hm4, hm5, hm6, hm7⟩ := cells8 hbk_; have HBK := Aside0.mk hbk_; have HO11 := Aside0.mk ((HO1.out.alloc _).kept hgrow1 (by simp)); have HO21 := Aside0.mk hown1; have HB1 := Aside0.mk ((HB.out.alloc HB.out.size _).grown hgrow1 (HB.out.alloc HB.out.size _).size (fun j hj => by cases hj; exact Nat.le_succ _)); clear hown1 hgrow1 hbk_ hlt2_)
              | (at_delete; refine wpList_delete_own _ rfl _ _ 77 9 rfl 48 law9 Try.underlying77 R8 w.heap.size k D1 rfl HO11.out _ _ rfl hkey4 ?_; intro w2 hown2 hturn2; have HO12 := Aside0.mk hown2; have HO22 := Aside0.mk (HO21.out.kept hturn2.grown (by simp)); have HB2 := Aside0.mk (HB1.out.grown hturn2.grown HB1.out.size (fun j hj => by cases hj; exact Nat.le_refl _)); clear hown2 hturn2)
              | go_in)
            go_roundw
            case rel => exact ⟨k + 1, _, _, by omega, by go_num, ⟨by rw [HT1.out]; simp only [if_neg hb1, if_neg HQ2.out, if_pos HQ3.out]; exact rel1_del HR1.out _⟩, ⟨by rw [HT2.out]; simp only [if_neg hb1]; rw [← HY.out]; exact rel2_put HR2.out _ _⟩, ⟨HO12.out.mono (by omega)⟩, ⟨HO22.out⟩, ⟨HB2.out⟩⟩
            case measure => simp [intOf]; omega
          · have hb3' : (y.f3 == 2) = false := beq_eq_false_iff_ne.mpr hb3
            have HQ2 := Aside0.mk hb2
            have HQ3 := Aside0.mk hb3
            clear hb2 hb3
            go_wp2_with (first
              | (at_mapUpdate; refine wpList_mapUpdate_own _ rfl _ _ _ 78 rfl 3 48 law3 Try.underlying78 R8 (w.heap.size + 1) k D2 rfl (HO2.out.alloc _) HKM.out _ _ _ rfl rfl hkey1 _ [] hval ?_; intro w1 hown1 hgrow1; have hlt2_ := HO2.out.lt; have hbk_ := blk_grown (blk_new wr _) hgrow1 (by simp only [ne_eq, Option.some.injEq]; omega); obtain ⟨hm0, hm1, hm2, hm3, hm4, hm5, hm6, hm7⟩ := cells8 hbk_; have HBK := Aside0.mk hbk_; have HO11 := Aside0.mk ((HO1.out.alloc _).kept hgrow1 (by simp)); have HO21 := Aside0.mk hown1; have HB1 := Aside0.mk ((HB.out.alloc HB.out.size _).grown hgrow1 (HB.out.alloc HB.out.size _).size (fun j hj => by cases hj; exact Nat.le_succ _)); clear hown1 hgrow1 hbk_ hlt2_)
              | go_in)
            go_roundw
            case rel => exact ⟨k + 1, _, _, by omega, by go_num, ⟨by rw [HT1.out]; simp only [if_neg hb1, if_neg HQ2.out, if_neg HQ3.out]; exact HR1.out⟩, ⟨by rw [HT2.out]; simp only [if_neg hb1]; rw [← HY.out]; exact rel2_put HR2.out _ _⟩, ⟨HO11.out.mono (by omega)⟩, ⟨HO21.out⟩, ⟨HB1.out⟩⟩
            case measure => simp [intOf]; omega
    · have hlt' : decide ((k : Int) < (l0.length : Int)) = false := decide_eq_false (by omega)
      have hkl : k = l0.length := by omega
      subst hkl
      have hn1 := HL.out
      go_wp2_with (first
        | (go_at_call 46; refine (values46 _ _ _ _ HO1.out (by have := HL.out; omega)).mono ?_; rintro e w1 ⟨v, ss, vs, rfl, hV, hR, hb⟩; have HV := Aside0.mk hV; have HW := Aside0.mk hR; have HG1 := Aside0.mk (show wr.grownBy w1 none from ⟨hb.os, hb.tape, hb.output, hb.size, fun i hi _ => hb.block i hi⟩); have HB1 := Aside0.mk (below_step HB.out hb); clear hV hR hb)
        | (at_range; refine wpList_range_own _ rfl _ 78 rfl 3 48 law3 Try.underlying78 R8 (w.heap.size + 1) l0.length D2 rfl (HO2.out.kept HG1.out (by simp)) ?_; intro w2 hrg hg hs; have HRG := Aside0.mk hrg; have HG2 := Aside0.mk hg; clear hrg hg hs)
        | go_in)
      go_frame
      have hlo2 := HO2.out.lt
      have hs1 := HG1.out.size
      have hW2 : Kd.R k8 48 w2 w.heap.size (fun k_ => w.heap.size + 1 < k_ ∧ k_ ≠ w1.heap.size) v vs := Kd.R_lower (Kd.R_grown (Kd.R_mono (Kd.R_bound HW.out) (fun k_ h => ⟨by have := h.2.1; omega, by have := h.2.2.1; omega⟩)) HG2.out (fun k hk e => by cases e)) HB.out.size
      have HW2 := Aside0.mk hW2
      have HD1 := Aside0.mk ((HO1.out.kept HG1.out (by simp)).kept HG2.out (by simp))
      have HB2 := Aside0.mk (HB1.out.grown HG2.out HB1.out.size (fun j hj => by cases hj))
      have hvl : vs.length ≤ l0.length := by
        have h1 := (Collected.perm HV.out.1 HO1.out law9 Try.underlying9 (fun _ => rfl)).length_eq
        have h2 := HV.out.2.1
        have h3 := HO1.out.size_le
        have h4 : (strKeys D1).length = Maps.size D1 := by cases D1 <;> simp [strKeys, Maps.size]
        omega
      have hsz2 : Maps.size D2 ≤ l0.length := HO2.out.size_le
      have HVL := Aside0.mk hvl
      clear hW2 hvl
      go_loopw [9] (fun v wr => ∃ (left : Lit → Bool) (cnt : Nat) (cs : List Int) (us : List V8), wr.ranges Try.prog 3 R8 (w.heap.size + 1) w1.heap.size l0.length D2 left cnt ∧ Aside0 (CollectedI D2 left cs) ∧ Aside0 (us = vs ++ cs.filterMap (more l0 a1 ev)) ∧ us.length + cnt ≤ l0.length + l0.length ∧ Aside0 (Kd.R k8 48 wr w.heap.size (fun k_ => w.heap.size + 1 < k_ ∧ k_ ≠ w1.heap.size) v us) ∧ Aside0 (wr.ownsMap Try.prog 9 R8 w.heap.size l0.length D1) ∧ Aside0 (Below w.heap.size w wr))
        (fun _ wr => wr.rangeLeft (w.heap.size + 1) w1.heap.size)
      case atStart => exact ⟨_, _, [], vs, HRG.out, ⟨CollectedI.start D2⟩, ⟨by simp⟩, by have := HVL.out; omega, HW2, HD1, HB2⟩
      case round =>
        obtain ⟨left, cnt, cs, us, hrg, HC, HU, hcn, HO, HO1, HB⟩ := hrel
        obtain ⟨Ao, co, ev1⟩ := Kd.R_slice HO.out
        subst ev1
        have HRG := Aside0.mk hrg
        go_wp2_with (first
          | (at_next; refine wpList_next_ranges (H := V8) _ rfl _ rfl 3 law3 R8 (Value.int .i64) mk8 (fun key kl hkey => by obtain ⟨x, hx, _⟩ := Maps.keyOf_int_inv Try.underlying3 hkey; exact ⟨x, hx⟩) (fun v y hv => by obtain ⟨c, hc, _⟩ := R8_inv hv; exact ⟨c, hc⟩) (w.heap.size + 1) w1.heap.size l0.length _ _ _ rfl HRG.out ?_ ?_)
          | go_in)
        · intro hz hl0
          have hHC : CollectedI D2 (fun _ => false) cs := by rw [← show left = fun _ => false from funext hl0]; exact HC.out
          have HHC := Aside0.mk hHC
          have HUL := Aside0.mk (show us.length < 1099511627776 by have := HL.out; omega)
          clear hHC
          go_wp2_with (first
            | (go_at_call 47; refine (sort47 _ us wr w.heap.size (Kd.R_mono HO.out (fun _ _ => trivial)) HUL.out).mono ?_; rintro e w5 ⟨rfl, us', hp5, hs5, hR5, hg5⟩; have HP5 := Aside0.mk hp5; have HS5 := Aside0.mk hs5; have HR5 := Aside0.mk hR5; have HG5 := Aside0.mk hg5; clear hp5 hs5 hR5 hg5)
            | go_in)
          go_ret
          have hB5 : Below w.heap.size w w5 := HB.out.grown HG5.out HB.out.size (fun j hj => (Kd.R_base HO.out) j hj)
          have hp := HP5.out
          rw [HU.out] at hp
          have hus := live_perm HRI.out (fun i hi => ⟨by rw [(HE.out i hi).1], by rw [(HE.out i hi).1], by rw [(HE.out i hi).1]⟩) HV.out HR1.out HHC.out HR2.out hp HS5.out
          refine ⟨_, rfl, ?_, hB5⟩
          have hR5 := HR5.out
          rw [hus] at hR5
          have hbase := Kd.R_base HO.out
          obtain ⟨z1, z2⟩ := zip_filterMap (f := liveAt l0 a1) (g := liveV l0 a1 ev) (Rr := fun x y => Kd.FK k48 w5 (fun k_ => (P0_ k_ ∨ w.heap.size ≤ k_) ∧ some k_ ≠ (Value.slice Ao us.length co).ownBlock) x (enc8 y)) (List.range l0.length) (fun i hi => by
            have hi := List.mem_range.1 hi
            obtain ⟨he, hle, hFi⟩ := HE.out i hi
            have hFi5 : Kd.F (Kd.int .u8) w5 (fun k_ => (P0_ k_ ∨ w.heap.size ≤ k_) ∧ some k_ ≠ (Value.slice Ao us.length co).ownBlock) (ev i).A (rd_T48 l0 i).f7.length (rd_T48 l0 i).f7 :=
              Kd.F_mono (Kd.F_below (Kd.F_bound hFi) hB5) (fun k_ hk => ⟨.inl hk.1, fun e => by have := hbase k_ e.symm; have := hk.2; omega⟩)
            unfold liveAt liveV
            by_cases c1 : st1 l0 a1 l0.length (bs (rd_T48 l0 i).f4) = some i
            · rw [if_pos c1, if_pos c1]
              refine .inr ⟨_, _, rfl, rfl, ?_⟩
              rw [he]
              exact k48_mkF w5 _ (rd_T48 l0 i) hle hFi5
            · rw [if_neg c1, if_neg c1]
              by_cases c2 : st2 l0 a1 l0.length (rd_T48 l0 i).f1 = some i
              · rw [if_pos c2, if_pos c2]
                refine .inr ⟨_, _, rfl, rfl, ?_⟩
                rw [he]
                exact k48_mkF w5 _ (trim48 (rd_T48 l0 i)) (Nat.le_refl _) (Kd.F_nil _ _ _)
              · rw [if_neg c2, if_neg c2]
                exact .inl ⟨rfl, rfl⟩)
          exact N_of_k8 hR5 (fun k hk => .inr (hbase k hk)) z1 z2
        · intro x c kl y1 y2 w3 cnt1 hkey hlk hR hat hrg1 hlt hg1 hs1 hen
          obtain ⟨c', ec, ey⟩ := R8_inv hR
          simp only [Prod.mk.injEq] at ey
          obtain ⟨rfl, rfl⟩ := ey
          obtain rfl := mk8_inj ec
          obtain ⟨x', ex, rfl, hwx⟩ := Maps.keyOf_int_inv Try.underlying3 hkey
          cases ex
          obtain ⟨i, hi, hic⟩ : ∃ i, st2 l0 a1 l0.length x = some i ∧ ev i = c := by
            have h2 := HR2.out.2 x
            cases hq : st2 l0 a1 l0.length x with
            | none =>
              rw [hq] at h2
              have := (h2 .nil).symm.trans (hat .nil)
              cases this
            | some i =>
              rw [hq] at h2
              have := (h2 .nil).symm.trans (hat .nil)
              cases this
              exact ⟨i, rfl, rfl⟩
          obtain ⟨hin, hi1, hi0⟩ := st2_at hi
          obtain ⟨hei, _, _⟩ := HE.out i hin
          have e0 : c.f0 = (rd_T48 l0 i).f0 := by rw [← hic, hei]
          have e3 : c.f3 = (rd_T48 l0 i).f3 := by rw [← hic, hei]
          have e4 : c.f4 = (rd_T48 l0 i).f4 := by rw [← hic, hei]
          have hkey4 : keyOf Try.prog 9 (.string c.f4) = some (.string (bs c.f4)) := keyOf_string_mk Try.underlying9 (by rw [e4]; exact (okE_at HS.out hin).1)
          have HC1 := Aside0.mk (HC.out.step hlk hat)
          have hO1 : Kd.R k8 48 w3 w.heap.size (fun k_ => w.heap.size + 1 < k_ ∧ k_ ≠ w1.heap.size) (.slice Ao us.length co) us := Kd.R_grown HO.out hg1 (fun k hk e => by cases e; exact hk.2 rfl)
          have HO3 := Aside0.mk hO1
          have HB3 := Aside0.mk (HB.out.grown hg1 HB.out.size (fun j hj => by cases hj; exact HB1.out.size))
          have HD3 := Aside0.mk (HO1.out.kept hg1 (by simp only [ne_eq, Option.some.injEq]; omega))
          have HRG3 := Aside0.mk hrg1
          have hw3 : w1.heap.size < w3.heap.size := hrg1.lt
          have hs1' : w.heap.size + 1 < w1.heap.size := by omega
          have hat1 := HR1.out.2 (bs c.f4)
          rw [e4] at hat1
          have hkey5 : keyOf Try.prog 9 (.string c.f4) = some (.string (bs (rd_T48 l0 i).f4)) := by rw [hkey4, e4]
          have HMO := Aside0.mk (show more l0 a1 ev x = if st1 l0 a1 l0.length (bs (rd_T48 l0 i).f4) = some i then none else some (tr8 c) by unfold more; rw [hi]; simp only [hic])
          clear hO1 hrg1 hg1 hs1 hlk hR hat hkey ec hei hi hwx
          have HI := Aside0.mk (show (rd_T48 l0 i).f0 = c.f0 from e0.symm)
          cases hj : st1 l0 a1 l0.length (bs (rd_T48 l0 i).f4) with
          | none =>
            rw [hj] at hat1
            have hh : Maps.has D1 (.string (bs (rd_T48 l0 i).f4)) = false := has_false_of_atKey hat1
            have HJ := Aside0.mk hj
            have HAT := Aside0.mk (hat1 (.held z8))
            have HHA := Aside0.mk hh
            clear hj hat1 hh e0 e3 e4 hi0 hi1 hkey4
            unfold mk8 at hen ⊢
            go_wp2_with (first
              | (at_lookup; refine lookup8 _ rfl _ _ 77 rfl 9 48 law9 Try.underlying77 (Try.zeroValue48 _) z8 rfl w.heap.size l0.length D1 rfl (HD3.out.alloc _) _ _ rfl hkey5 z8 HAT.out false HHA.out ?_)
              | (at_builtin; refine Kd.R_append k8 (w0 := w) w.heap.size rfl (.tmp 73) (.tmp 81) 44 48 (.agg #[(.int .i64 0), (.int .i64 0), (.int .i64 0), (.int .i64 0), (.string ⟨#[]⟩), (.int .i64 0), (.int .u32 0), (.slice none 0 0)]) 88 rfl Try.underlying44 info48 rfl (by decide) (by omega) (.slice Ao us.length co) us (tr8 c) (enc8 (tr8 c)) (fun k_ => w.heap.size + 1 < k_ ∧ k_ ≠ w1.heap.size) (fun k_ => (w.heap.size + 1 < k_ ∧ k_ ≠ w1.heap.size) ∧ some k_ ≠ (Value.slice Ao us.length co).ownBlock) rfl ?hx_ (k8_mkM _ _ _ _) (fun _ hk => hk) ?af (by (with_reducible repeat (first | apply Kd.R_alloc | apply Kd.R_drewN | apply Kd.R_drew)); exact HO3.out) (by repeat (first | exact HB3.out | apply below_alloc | apply pw_below_drewN | apply below_drew1 | apply below_drew)) ?sz_ ?al ?_; (case hx_ => show Value.slice (some ⟨w3.heap.size + 1 + 1, 0, none⟩) 1 1 = _; simp); (case af => intro k hk; simp at hk; omega); (case sz_ => simp; omega); (case al => have := HL.out; omega); intro v4 w4 ho hb hg hat4; have HO4 := Aside0.mk ho; have HB4 := Aside0.mk hb; have HD4 := Aside0.mk (((HD3.out.alloc _).alloc _).kept hg (fun e => by have := HO3.out.1 _ e.symm; omega)); have HRG4 := Aside0.mk (((HRG3.out.alloc _).alloc _).kept hg (fun e => by have := HO3.out.1 _ e.symm; omega) (fun e => by have := HO3.out.1 _ e.symm; omega)); clear ho hb hg hat4)
              | go_in)
            go_roundw
            case rel => exact ⟨_, cnt1, cs ++ [x], us ++ [tr8 c], HRG4.out, HC1, ⟨by rw [List.filterMap_append, ← List.append_assoc, ← HU.out]; simp only [List.filterMap_cons, List.filterMap_nil, HMO.out]; rw [if_neg (by rw [HJ.out]; simp)]⟩, by simp; omega, HO4, HD4, HB4⟩
            case measure => rw [HRG4.out.left_eq, hrg.left_eq]; exact hlt
          | some j =>
            rw [hj] at hat1
            replace hat1 : ∀ z, D1.atKey (.string (bs (rd_T48 l0 i).f4)) z = .held (ev j) := hat1
            have hh : Maps.has D1 (.string (bs (rd_T48 l0 i).f4)) = true := has_true_of_atKey hat1
            have HHA := Aside0.mk hh
            by_cases hji : j = i
            · subst hji
              have hf3 := (st1_at hj).2.2.2
              rw [hic] at hat1
              have HAT := Aside0.mk (hat1 (.held z8))
              have HJ := Aside0.mk hj
              have q1 : (c.f0 != c.f0) = false := by simp
              have q2 : (c.f3 != 1) = false := by rw [e3, hf3]; rfl
              clear hj hat1 hh e0 e3 e4 hi0 hi1 hkey4 hf3
              unfold mk8 at hen ⊢
              go_wp2_with (first
                | (at_lookup; refine lookup8 _ rfl _ _ 77 rfl 9 48 law9 Try.underlying77 (Try.zeroValue48 _) z8 rfl w.heap.size l0.length D1 rfl (HD3.out.alloc _) _ _ rfl hkey5 c HAT.out true HHA.out ?_)
                | go_in)
              go_roundw
              case rel => exact ⟨_, cnt1, cs ++ [x], us, (HRG3.out.alloc _).alloc _, HC1, ⟨by rw [List.filterMap_append, ← List.append_assoc, ← HU.out]; simp only [List.filterMap_cons, List.filterMap_nil, HMO.out]; rw [if_pos HJ.out]; simp⟩, by omega, ⟨Kd.R_alloc (Kd.R_alloc HO3.out _) _⟩, ⟨(HD3.out.alloc _).alloc _⟩, ⟨below_alloc (below_alloc HB3.out _) _⟩⟩
              case measure => rw [((HRG3.out.alloc _).alloc _).left_eq, hrg.left_eq]; exact hlt
            · have hjn := (st1_at hj).1
              have hne : (ev j).f0 ≠ c.f0 := by
                have h1 : (ev j).f0 = (rd_T48 l0 j).f0 := by rw [(HE.out j hjn).1]
                rw [h1, e0]
                rcases Nat.lt_or_gt_of_ne hji with h | h
                · have := rising_lt HRI.out h hin; omega
                · have := rising_lt HRI.out h hjn; omega
              have HAT := Aside0.mk (hat1 (.held z8))
              have HJ := Aside0.mk hj
              have HJI := Aside0.mk hji
              generalize ev j = y at HAT hne
              have q1 : (y.f0 != c.f0) = true := bne_iff_ne.mpr hne
              clear hj hat1 hh e0 e3 e4 hi0 hi1 hkey4 hne hji
              unfold mk8 at hen ⊢
              go_wp2_with (first
                | (at_lookup; refine lookup8 _ rfl _ _ 77 rfl 9 48 law9 Try.underlying77 (Try.zeroValue48 _) z8 rfl w.heap.size l0.length D1 rfl (HD3.out.alloc _) _ _ rfl hkey5 y HAT.out true HHA.out ?_)
                | (at_builtin; refine Kd.R_append k8 (w0 := w) w.heap.size rfl (.tmp 73) (.tmp 81) 44 48 (.agg #[(.int .i64 0), (.int .i64 0), (.int .i64 0), (.int .i64 0), (.string ⟨#[]⟩), (.int .i64 0), (.int .u32 0), (.slice none 0 0)]) 88 rfl Try.underlying44 info48 rfl (by decide) (by omega) (.slice Ao us.length co) us (tr8 c) (enc8 (tr8 c)) (fun k_ => w.heap.size + 1 < k_ ∧ k_ ≠ w1.heap.size) (fun k_ => (w.heap.size + 1 < k_ ∧ k_ ≠ w1.heap.size) ∧ some k_ ≠ (Value.slice Ao us.length co).ownBlock) rfl ?hx_ (k8_mkM _ _ _ _) (fun _ hk => hk) ?af (by (with_reducible repeat (first | apply Kd.R_alloc | apply Kd.R_drewN | apply Kd.R_drew)); exact HO3.out) (by repeat (first | exact HB3.out | apply below_alloc | apply pw_below_drewN | apply below_drew1 | apply below_drew)) ?sz_ ?al ?_; (case hx_ => show Value.slice (some ⟨w3.heap.size + 1 + 1, 0, none⟩) 1 1 = _; simp); (case af => intro k hk; simp at hk; omega); (case sz_ => simp; omega); (case al => have := HL.out; omega); intro v4 w4 ho hb hg hat4; have HO4 := Aside0.mk ho; have HB4 := Aside0.mk hb; have HD4 := Aside0.mk (((HD3.out.alloc _).alloc _).kept hg (fun e => by have := HO3.out.1 _ e.symm; omega)); have HRG4 := Aside0.mk (((HRG3.out.alloc _).alloc _).kept hg (fun e => by have := HO3.out.1 _ e.symm; omega) (fun e => by have := HO3.out.1 _ e.symm; omega)); clear ho hb hg hat4)
                | go_in)
              go_roundw
              case rel => exact ⟨_, cnt1, cs ++ [x], us ++ [tr8 c], HRG4.out, HC1, ⟨by rw [List.filterMap_append, ← List.append_assoc, ← HU.out]; simp only [List.filterMap_cons, List.filterMap_nil, HMO.out]; rw [if_neg (by rw [HJ.out]; simpa using HJI.out)]⟩, by simp; omega, HO4, HD4, HB4⟩
              case measure => rw [HRG4.out.left_eq, hrg.left_eq]; exact hlt

end Go.Proofs.Yteeeiaggkdlolaa.Ky
