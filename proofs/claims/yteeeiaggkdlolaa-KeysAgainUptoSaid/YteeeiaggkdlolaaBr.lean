/- How the reading of an argument as data (Trod) gives the reading of the printed words (Kd): for integers, bools, strings, slices and structs of these; with the data's bulk. -/
import Derived.Test.YteeeiaggkdlolaaRows
import Derived.Test.YteeeiaggkdlolaaWMore
import Derived.ChangeArms
import Derived.WideShapes
namespace Go.Proofs.Yteeeiaggkdlolaa.Br
open Go.RowKit Go.Proofs.YteeeiaggkdlolaaW.PrintWords Go.Proofs.YteeeiaggkdlolaaW.PrintLast Go.Proofs.YteeeiaggkdlolaaW.PrintMore
set_option linter.unusedVariables false
set_option linter.unusedSimpArgs false
open Go.ChangeShapes Go.WideShapes

variable {P : Program}

/-- A type read as a kind: what is read is of the kind in every world that has this one's blocks; G is known of it, sz is at most its bulk. -/
structure Rdr {α : Type} (P : Program) (t : TypeId) (k : Kd α) (G : α → Prop) (sz : α → Nat) : Prop where
  cells : P.cellsOf t = k.sz
  read : ∀ {H : Type} {enc : TypeId × Value → H} {w : World} {base : Nat} {spare : Nat → Bool} {held : Bool} {fuel : Nat} {cs : List Value} {x : DataW H × List MemPlace},
    DataW.trod enc P w base spare held fuel t cs = some x → ∃ v, Kd.FK k w (fun _ => True) v cs ∧ G v ∧ sz v ≤ Rows.uptoBulk x.1

theorem Rdr.int {t : TypeId} {i : IntKind} (hu : P.underlying t = some (.int i)) (hc : P.cellsOf t = 1) : Rdr P t (Kd.int i) (fun x => (Lit.int i x).wf = true) (fun _ => 1) := by
  refine ⟨hc, fun {H enc w base spare held fuel cs x} h => ?_⟩
  obtain ⟨n, rfl, rfl, hw⟩ := DataW.trod_int hu h
  exact ⟨n, fun _ _ => rfl, hw, by simp [Rows.uptoBulk]⟩
theorem Rdr.bool {t : TypeId} (hu : P.underlying t = some .bool) (hc : P.cellsOf t = 1) : Rdr P t Kd.bool (fun _ => True) (fun _ => 1) := by
  refine ⟨hc, fun {H enc w base spare held fuel cs x} h => ?_⟩
  obtain ⟨n, rfl, rfl⟩ := DataW.trod_bool hu h
  exact ⟨n, fun _ _ => rfl, trivial, by simp [Rows.uptoBulk]⟩
theorem Rdr.string {t : TypeId} (hu : P.underlying t = some .string) (hc : P.cellsOf t = 1) : Rdr P t Kd.string (fun s => s.size ≤ maxLen) (fun s => s.size + 1) := by
  refine ⟨hc, fun {H enc w base spare held fuel cs x} h => ?_⟩
  obtain ⟨n, rfl, rfl, hw⟩ := DataW.trod_string hu h
  exact ⟨n, fun _ _ => rfl, hw, Nat.le_of_eq (by show n.size + 1 = n.data.toList.length + 1; rw [Array.length_toList]; rfl)⟩

theorem cell_same {w w' : World} {a : Addr} {v : Value} (h : w.cell? a = some v) (hs : ∀ k, True → k < w.heap.size → w'.heap[k]? = w.heap[k]?) : w'.cell? a = some v := by
  have hl := World.block_lt_of_cell? w a h
  have := hs a.block trivial hl
  unfold World.cell? at h ⊢
  rw [this]
  exact h
theorem cells_get {w : World} {base : Nat} {a : Addr} {n : Nat} {cs : List Value} (h : w.cells? base a n = some cs) : cs.length = n ∧ ∀ i u, cs[i]? = some u → w.cell? (a.add i) = some u := by
  unfold World.cells? at h
  split at h
  · have hl : cs.length = n := by have := mapM_some_length h; simpa using this
    refine ⟨hl, fun i u hu => ?_⟩
    have hi : i < n := by have := (List.getElem?_eq_some_iff.1 hu).1; omega
    have := mapM_some_get h i i (by simp [hi])
    rw [this, hu]
  · cases h
theorem bulkAll_sum {H : Type} : ∀ (l : List (DataW H)), Rows.uptoBulkAll l = (l.map Rows.uptoBulk).sum
  | [] => by simp [Rows.uptoBulkAll]
  | x :: l => by simp [Rows.uptoBulkAll, bulkAll_sum l]
theorem sum_le {α β : Type} (f : α → Nat) (g : β → Nat) : ∀ (l : List α) (m : List β), l.length = m.length → (∀ (i : Nat) x y, l[i]? = some x → m[i]? = some y → f x ≤ g y) → (l.map f).sum ≤ (m.map g).sum
  | [], [], _, _ => by simp
  | x :: l, y :: m, hl, h => by
    have h0 := h 0 x y rfl rfl
    have h1 := sum_le f g l m (by simpa using hl) (fun i a b ha hb => h (i + 1) a b ha hb)
    simp; omega
theorem choose_list {α β : Type} (R : β → α → Prop) : ∀ (l : List β), (∀ y ∈ l, ∃ x, R y x) → ∃ m : List α, m.length = l.length ∧ ∀ (i : Nat) x y, m[i]? = some x → l[i]? = some y → R y x
  | [], _ => ⟨[], rfl, by simp⟩
  | y :: l, h => by
    obtain ⟨x, hx⟩ := h y List.mem_cons_self
    obtain ⟨m, hm, hr⟩ := choose_list R l (fun z hz => h z (List.mem_cons_of_mem _ hz))
    refine ⟨x :: m, by simp [hm], fun i a b ha hb => ?_⟩
    cases i with
    | zero => simp at ha hb; subst ha; subst hb; exact hx
    | succ i => exact hr i a b (by simpa using ha) (by simpa using hb)

theorem addr_add (a : Addr) (i j : Nat) : (a.add i).add j = a.add (i + j) := by
  unfold Addr.add
  by_cases h1 : i = 0 <;> by_cases h2 : j = 0 <;> simp [h1, h2, Nat.add_assoc]

theorem Rdr.slice {α : Type} {t e : TypeId} {k : Kd α} {G : α → Prop} {sz : α → Nat} (hu : P.underlying t = some (.slice e)) (hc : P.cellsOf t = 1) (r : Rdr P e k G sz) :
    Rdr P t (Kd.slice e k) (fun l => l.length ≤ maxLen ∧ ∀ x ∈ l, G x) (fun l => (l.map sz).sum + 1) := by
  refine ⟨hc, fun {H enc w base spare held fuel cs x} h => ?_⟩
  rcases DataW.trod_slice hu h with ⟨rfl, rfl⟩ | ⟨a, len, cap, elems, rest, n, rfl, rfl, rfl, hb, hlc, hcm, hel, hget, _, _⟩
  · refine ⟨[], fun W _ => ⟨none, 0, rfl, Nat.le_refl _, by simp, by simp, fun h0 => by simp at h0⟩, by simp [maxLen], by simp [Rows.uptoBulk]⟩
  · have hall : ∀ i : Nat, i < len → ∃ c y, w.cells? base (a.add (i * P.cellsOf e)) (P.cellsOf e) = some c ∧ DataW.trod enc P w base spare held n e c = some y ∧ elems[i]? = some y := by
      intro i hi
      have h1 := hget i hi
      obtain ⟨y, hy⟩ : ∃ y, elems[i]? = some y := ⟨_, List.getElem?_eq_getElem (by omega)⟩
      rw [hy] at h1
      obtain ⟨c, hc1, hc2⟩ := Option.bind_eq_some_iff.1 h1
      exact ⟨c, y, hc1, hc2, hy⟩
    obtain ⟨m, hm, hr⟩ := choose_list (fun i v => ∃ c y, w.cells? base (a.add (i * P.cellsOf e)) (P.cellsOf e) = some c ∧ elems[i]? = some y ∧ Kd.FK k w (fun _ => True) v c ∧ G v ∧ sz v ≤ Rows.uptoBulk y.1) (List.range len) (fun i hi => by
      obtain ⟨c, y, h1, h2, h3⟩ := hall i (List.mem_range.1 hi)
      obtain ⟨v, hv⟩ := r.read h2
      exact ⟨v, c, y, h1, h3, hv⟩)
    have hml : m.length = len := by simpa using hm
    have hat : ∀ (i : Nat) v, m[i]? = some v → ∃ c y, w.cells? base (a.add (i * P.cellsOf e)) (P.cellsOf e) = some c ∧ elems[i]? = some y ∧ Kd.FK k w (fun _ => True) v c ∧ G v ∧ sz v ≤ Rows.uptoBulk y.1 := by
      intro i v hv
      have hi : i < len := by have := (List.getElem?_eq_some_iff.1 hv).1; omega
      exact hr i v i hv (by simp [hi])
    refine ⟨m, fun W hW => ?_, ⟨by omega, fun v hv => ?_⟩, ?_⟩
    · refine ⟨some a, cap, by rw [hml], by omega, rfl, by rw [hml]; simp only [maxLen] at hcm; omega, fun _ => ⟨a, rfl, fun j v hv => ?_⟩⟩
      obtain ⟨c, y, h1, _, h3, _, _⟩ := hat j v hv
      obtain ⟨g1, g2⟩ := cells_get h1
      refine ⟨c, by rw [g1, r.cells], h3 W hW, fun i u hu => ?_⟩
      rw [← r.cells, ← addr_add]
      exact cell_same (g2 i u hu) hW
    · obtain ⟨i, hi⟩ := List.getElem?_of_mem hv
      obtain ⟨_, _, _, _, _, hG, _⟩ := hat i v hi
      exact hG
    · have := sum_le sz (fun y : DataW H × List MemPlace => Rows.uptoBulk y.1) m elems (by omega) (fun i v y hv hy => by
        obtain ⟨_, y', _, h2, _, _, h5⟩ := hat i v hv
        rw [hy] at h2
        injection h2 with h2
        rw [h2]; exact h5)
      simp only [Rows.uptoBulk, bulkAll_sum, List.map_map]
      have e1 : (elems.map (Rows.uptoBulk ∘ fun x => x.1)).sum = (elems.map fun y => Rows.uptoBulk y.1).sum := rfl
      omega

/-- A struct's fields from one on, side by side. -/
structure RdrF {α : Type} (P : Program) (fs : List Field) (off : Nat) (k : Kd α) (G : α → Prop) (sz : α → Nat) : Prop where
  read : ∀ {H : Type} {enc : TypeId × Value → H} {w : World} {base : Nat} {spare : Nat → Bool} {held : Bool} {fuel : Nat} {cs : List Value} {xs : List (DataW H × List MemPlace)}, xs.length = fs.length →
    (∀ (i : Nat) (f : Field), fs[i]? = some f → DataW.trod enc P w base spare held fuel f.type ((cs.drop f.offset).take (P.cellsOf f.type)) = xs[i]?) →
    ∃ v, Kd.FK k w (fun _ => True) v ((cs.drop off).take k.sz) ∧ G v ∧ sz v ≤ (xs.map fun x => Rows.uptoBulk x.1).sum

theorem RdrF.last {α : Type} {f : Field} {k : Kd α} {G : α → Prop} {sz : α → Nat} (r : Rdr P f.type k G sz) : RdrF P [f] f.offset k G sz := by
  refine ⟨fun {H enc w base spare held fuel cs xs} hl h => ?_⟩
  match xs, hl with
  | [x], _ =>
    have h0 := h 0 f rfl
    obtain ⟨v, h1, h2, h3⟩ := r.read (x := x) (by simpa using h0)
    exact ⟨v, by rw [← r.cells]; exact h1, h2, by simpa using h3⟩
theorem RdrF.cons {α β : Type} {f : Field} {fs : List Field} {off : Nat} {k : Kd α} {G : α → Prop} {sz : α → Nat} {k2 : Kd β} {G2 : β → Prop} {sz2 : β → Nat} (r : Rdr P f.type k G sz) (ho : off = f.offset + k.sz) (r2 : RdrF P fs off k2 G2 sz2) :
    RdrF P (f :: fs) f.offset (Kd.pair k k2) (fun v => G v.1 ∧ G2 v.2) (fun v => sz v.1 + sz2 v.2) := by
  refine ⟨fun {H enc w base spare held fuel cs xs} hl h => ?_⟩
  match xs, hl with
  | x :: xs, hl =>
    have h0 := h 0 f rfl
    obtain ⟨v, h1, h2, h3⟩ := r.read (x := x) (by simpa using h0)
    obtain ⟨v2, g1, g2, g3⟩ := r2.read (cs := cs) (xs := xs) (by simpa using hl) (fun i f' hf => by simpa using h (i + 1) f' (by simpa using hf))
    refine ⟨(v, v2), fun W hW => ⟨_, _, ?_, h1 W hW, g1 W hW⟩, ⟨h2, g2⟩, by simp; omega⟩
    rw [r.cells, ho]
    show List.take (k.sz + k2.sz) (List.drop f.offset cs) = _
    rw [List.take_add, List.drop_drop]
theorem Rdr.struct {α : Type} {t : TypeId} {fs : Array Field} {k : Kd α} {G : α → Prop} {sz : α → Nat} (hu : P.underlying t = some (.struct fs)) (hc : P.cellsOf t = k.sz) (r : RdrF P fs.toList 0 k G sz) : Rdr P t k G sz := by
  refine ⟨hc, fun {H enc w base spare held fuel cs x} h => ?_⟩
  obtain ⟨xs, n, rfl, rfl, hl, hx, hf⟩ := DataW.trod_struct hu h
  obtain ⟨v, h1, h2, h3⟩ := r.read (cs := cs) (xs := xs) (by simpa using hx) (fun i f hi => hf i f (by simpa using hi))
  refine ⟨v, ?_, h2, ?_⟩
  · rw [List.drop_zero, List.take_of_length_le (by omega)] at h1
    exact h1
  · simp only [Rows.uptoBulk, bulkAll_sum, List.map_map]
    have e1 : (xs.map (Rows.uptoBulk ∘ fun x => x.1)).sum = (xs.map fun y => Rows.uptoBulk y.1).sum := rfl
    omega
theorem Rdr.iso {α β : Type} {t : TypeId} {k : Kd α} {G : α → Prop} {sz : α → Nat} (r : Rdr P t k G sz) (f : β → α) (g : α → β) (hfg : ∀ x, f (g x) = x) : Rdr P t (Kd.iso k f) (fun x => G (f x)) (fun x => sz (f x)) := by
  refine ⟨r.cells, fun {H enc w base spare held fuel cs x} h => ?_⟩
  obtain ⟨v, h1, h2, h3⟩ := r.read h
  exact ⟨g v, fun W hW => by show k.K W (f (g v)) cs; rw [hfg]; exact h1 W hW, by rw [hfg]; exact h2, by rw [hfg]; exact h3⟩

/-- A pair laid open. -/
theorem FK_pair {α β : Type} {a : Kd α} {b : Kd β} {w : World} {ok : Nat → Prop} {x : α × β} {cs : List Value} (h : Kd.FK (Kd.pair a b) w ok x cs) : ∃ c0 c1, cs = c0 ++ c1 ∧ Kd.FK a w ok x.1 c0 ∧ Kd.FK b w ok x.2 c1 := by
  obtain ⟨c0, c1, rfl, h0, h1⟩ := Foot.now h
  refine ⟨c0, c1, rfl, fun W hW => ?_, fun W hW => ?_⟩
  · obtain ⟨d0, d1, e, g0, _⟩ := h W hW
    have : c0 = d0 := List.append_inj_left e (by rw [a.K_len h0, a.K_len g0])
    rw [this]; exact g0
  · obtain ⟨d0, d1, e, g0, g1⟩ := h W hW
    have : c1 = d1 := List.append_inj_right e (by rw [a.K_len h0, a.K_len g0])
    rw [this]; exact g1
/-- A slice's one cell laid open: its reading, and its reading as what may be shared. -/
theorem FK_row {α : Type} {e : Nat} {k : Kd α} {w : World} {l : List α} {cs : List Value} (h : Kd.FK (Kd.slice e k) w (fun _ => True) l cs) : ∃ A c, cs = [.slice A l.length c] ∧ l.length ≤ c ∧ Kd.C k w A l.length l ∧ ∀ b, Kd.V k e w b (fun _ => True) (.slice A l.length c) l := by
  obtain ⟨A, c, rfl, hl, hf⟩ := Kd.FK_slice_open h
  exact ⟨A, c, rfl, hl, Kd.F_now hf, fun b => Kd.V_mk hl hf⟩
/-- A struct's value by its cells. -/
theorem agg_of {t : TypeId} {fs : Array Field} {W : World} {r : Reach} {base : Nat} {v : Value} {l : List Value} (ht : P.underlying t = some (.struct fs)) (h : Value.okWide P W r base t v) (hc : v.cells.toList = l) : v = .agg l.toArray := by
  simp only [Value.okWide, ht] at h
  obtain ⟨cs, rfl, _⟩ := h
  rw [← hc]; rfl
theorem slice_of {t e : TypeId} {W : World} {r : Reach} {base : Nat} {v : Value} {A : Option Addr} {n c : Nat} (ht : P.underlying t = some (.slice e)) (h : Value.okWide P W r base t v) (hc : v.cells.toList = [.slice A n c]) : v = .slice A n c := by
  obtain ⟨a, l, cap, rfl⟩ := okWide_slice ht h
  simpa [Value.cells] using hc
theorem int_of {t : TypeId} {k : IntKind} {W : World} {r : Reach} {base : Nat} {v u : Value} (ht : P.underlying t = some (.int k)) (h : Value.okWide P W r base t v) (hc : v.cells.toList = [u]) : v = u := by
  obtain ⟨n, rfl⟩ := okWide_int ht h
  simpa [Value.cells] using hc
theorem string_of {t : TypeId} {W : World} {r : Reach} {base : Nat} {v u : Value} (ht : P.underlying t = some .string) (h : Value.okWide P W r base t v) (hc : v.cells.toList = [u]) : v = u := by
  obtain ⟨n, rfl⟩ := okWide_string ht h
  simpa [Value.cells] using hc
theorem bool_of {t : TypeId} {W : World} {r : Reach} {base : Nat} {v u : Value} (ht : P.underlying t = some .bool) (h : Value.okWide P W r base t v) (hc : v.cells.toList = [u]) : v = u := by
  obtain ⟨n, rfl⟩ := okWide_bool ht h
  simpa [Value.cells] using hc
end Go.Proofs.Yteeeiaggkdlolaa.Br
