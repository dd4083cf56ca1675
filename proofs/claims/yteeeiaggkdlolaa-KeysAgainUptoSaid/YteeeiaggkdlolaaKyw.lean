/- slices.SortFunc over a row of entries by their numbers (the closure of keys.Live). -/
import Derived.Test.YteeeiaggkdlolaaKyv
import Derived.Shelf.SlSortCmp.NoneTotal
namespace Go.Proofs.Yteeeiaggkdlolaa.Ky
open Go.RowKit Go.Lib Go.Shelf Go.Sort Go.Proofs.YteeeiaggkdlolaaW.PrintWords Go.Proofs.YteeeiaggkdlolaaW.PrintLast Go.Proofs.YteeeiaggkdlolaaW.PrintMore
set_option linter.unusedVariables false
set_option linter.unusedSimpArgs false
set_option linter.unusedSectionVars false

theorem ret_i64 {a b : Int} (h : a = b) : Ending.returned (.int .i64 a) = .returned (.int .i64 b) := by rw [h]
theorem isNaN_int (x : Int) (w : World) : Calls Try.prog 49 #[.int .i64 x] w fun e w' => e = .returned (.bool false) ∧ w = w' := by
  go_enter Try.func49, Try.ntmps49
  go_wp2
  go_ret
  exact ⟨by simp, rfl⟩
def cmpI (x y : Int) : Int := if x < y then -1 else if y < x then 1 else 0
theorem compare_int (x y : Int) (w : World) : Calls Try.prog 36 #[.int .i64 x, .int .i64 y] w fun e w' => e = .returned (.int .i64 (cmpI x y)) ∧ w = w' := by
  rcases Int.lt_trichotomy x y with h | h | h
  · have h1 : decide (x < y) = true := decide_eq_true h
    go_enter Try.func36, Try.ntmps36
    go_wp2_with (go_at_call 49; refine (isNaN_int _ _).mono ?_; rintro e w' ⟨rfl, rfl⟩)
    go_ret
    exact ⟨ret_i64 (by unfold cmpI; rw [if_pos h]), rfl⟩
  · subst h
    have h1 : decide (x < x) = false := decide_eq_false (by omega)
    go_enter Try.func36, Try.ntmps36
    go_wp2_with (go_at_call 49; refine (isNaN_int _ _).mono ?_; rintro e w' ⟨rfl, rfl⟩)
    go_ret
    exact ⟨ret_i64 (by unfold cmpI; rw [if_neg (by omega), if_neg (by omega)]), rfl⟩
  · have h1 : decide (x < y) = false := decide_eq_false (by omega)
    have h2 : decide (y < x) = true := decide_eq_true h
    go_enter Try.func36, Try.ntmps36
    go_wp2_with (go_at_call 49; refine (isNaN_int _ _).mono ?_; rintro e w' ⟨rfl, rfl⟩)
    go_ret
    exact ⟨ret_i64 (by unfold cmpI; rw [if_neg (by omega), if_pos h]), rfl⟩

def cf8 (x y : V8) : Int := cmpI x.f0 y.f0
set_option maxHeartbeats 1000000 in
theorem closure48 (x y : V8) (W : World) : Calls Try.prog 48 #[.agg (enc8 x).toArray, .agg (enc8 y).toArray] W fun e w' => e = .returned (.int .i64 (cf8 x y)) ∧ ∃ q os', w' = grow (W.drewN q) os' := by
  unfold enc8 cf8
  have hcon := fun W' => compare_int x.f0 y.f0 W'
  generalize cmpI x.f0 y.f0 = r at hcon ⊢
  go_enter Try.func48, Try.ntmps48
  go_wp2_with (go_at_call 36; refine (hcon _).mono ?_; rintro e w' ⟨rfl, rfl⟩)
  go_ret
  exact ⟨rfl, 0, _, by rw [alloc_eq_grow, alloc_eq_grow, grow_grow]; rfl⟩
theorem cmpLays48 (blk off size : Nat) (w : World) : CmpLays Try.prog 48 #[] enc8 8 cf8 blk off size w :=
  fun _ _ _ _ x y => closure48 x y _
theorem lt8 (x y : V8) : ltOf cf8 x y = decide (x.f0 < y.f0) := by
  unfold ltOf cf8 cmpI
  by_cases h1 : x.f0 < y.f0
  · simp [h1]
  · by_cases h2 : y.f0 < x.f0 <;> simp [h1, h2]
theorem swo8 : SWO (ltOf cf8) where
  irrefl x := by rw [lt8]; simp
  trans x y z h1 h2 := by rw [lt8] at *; simp at *; omega
  ntrans x y z h1 h2 := by rw [lt8] at *; simp at *; omega

theorem flat_inner {vs : List V8} {inner : List Value} (h : Reps (fun x cs => cs = enc8 x) 8 vs inner) : inner = (flatK enc8 8 vs.toArray).toList := by
  apply List.ext_getElem
  · rw [h.1]; simp
  · intro t h1 h2
    have hl := h.1
    have hj : t / 8 < vs.length := by omega
    have hr := h.2 (t / 8) vs[t / 8] (List.getElem?_eq_getElem hj)
    have hm : t % 8 < 8 := Nat.mod_lt _ (by decide)
    have e1 : ((inner.drop (t / 8 * 8)).take 8)[t % 8]? = (enc8 vs[t / 8])[t % 8]? := by rw [hr]
    rw [List.getElem?_take_of_lt hm, List.getElem?_drop, show t / 8 * 8 + t % 8 = t by omega, List.getElem?_eq_getElem h1] at e1
    have e2 : (flatK enc8 8 vs.toArray).toList[t] = (flatK enc8 8 vs.toArray)[t]! := by
      rw [Array.getElem_toList]
      exact (getElem!_pos _ t (by simpa using h2)).symm
    rw [e2, get_flatK _ _ _ _ (by simpa using (by omega : t < vs.length * 8))]
    have e3 : vs.toArray[t / 8]! = vs[t / 8] := by rw [getElem!_pos vs.toArray (t / 8) (by simpa using hj)]; simp
    rw [e3]
    have hm' : t % 8 < (enc8 vs[t / 8]).length := hm
    rw [List.getElem?_eq_getElem hm'] at e1
    rw [getElem!_pos (enc8 vs[t / 8]) (t % 8) hm']
    exact Option.some.inj e1
theorem reps_flat (vs : List V8) : Reps (fun x cs => cs = enc8 x) 8 vs (flatK enc8 8 vs.toArray).toList := by
  refine ⟨by simp, fun j p hp => ?_⟩
  obtain ⟨hj, rfl⟩ := List.getElem?_eq_some_iff.1 hp
  apply List.ext_getElem?
  intro i
  by_cases hi : i < 8
  · rw [List.getElem?_take_of_lt hi, List.getElem?_drop]
    have h1 : j * 8 + i < (flatK enc8 8 vs.toArray).toList.length := by simp; omega
    rw [List.getElem?_eq_getElem h1]
    have e2 : (flatK enc8 8 vs.toArray).toList[j * 8 + i] = (flatK enc8 8 vs.toArray)[j * 8 + i]! := by
      rw [Array.getElem_toList]
      exact (getElem!_pos _ (j * 8 + i) (by simpa using h1)).symm
    rw [e2, get_flatK _ _ _ _ (by simp; omega), show (j * 8 + i) / 8 = j by omega, show (j * 8 + i) % 8 = i by omega]
    have e3 : vs.toArray[j]! = vs[j] := by rw [getElem!_pos vs.toArray j (by simpa using hj)]; simp
    have hm' : i < (enc8 vs[j]).length := hi
    rw [e3, getElem!_pos (enc8 vs[j]) i hm', List.getElem?_eq_getElem hm']
  · rw [List.getElem?_take_eq_none (by omega), List.getElem?_eq_none (by show 8 ≤ i; omega)]

theorem holds_of_block {w : World} {g : Nat} {cur : Array Value} {e : TypeId} {d : Array Value} (hb : w.heap[g]? = some (.cells cur e (0, 0))) (ht : cur.toList.take d.size = d.toList) : Holds id w g 0 d := by
  intro j hj
  refine ⟨?_, by simp [World.frozen?, hb]⟩
  have h1 : (cur.toList.take d.size)[j]? = d.toList[j]? := by rw [ht]
  rw [List.getElem?_take_of_lt hj] at h1
  simp only [World.cell?, hb, Nat.zero_add]
  simp only [Option.isSome_none, Bool.false_eq_true, if_false]
  rw [← Array.getElem?_toList, h1]
  simp [hj]
theorem heap_sorted {w : World} {g n : Nat} {os : Array Obj} {cur : Array Value} {e : TypeId} {fr : Nat × Nat} (d : Array Value) (hb : w.heap[g]? = some (.cells cur e fr)) :
    (grow (putRow id (Sort.ahead w n) g 0 d) os).heap[g]? = some (.cells (putCells id 0 d cur) e fr) := by
  have hg : g < w.heap.size := (Array.getElem?_eq_some_iff.1 hb).1
  rw [heap_grow_old _ _ (by simpa using hg)]
  simp [putRow, mapBlock, Sort.ahead, Array.getElem?_modify, hb, onCells]
theorem grownBy_sorted {w : World} {g n : Nat} {os : Array Obj} (d : Array Value) : w.grownBy (grow (putRow id (Sort.ahead w n) g 0 d) os) (some g) := by
  refine ⟨rfl, rfl, rfl, by simp, fun k hk hne => ?_⟩
  rw [heap_grow_old _ _ (by simpa using hk)]
  have : g ≠ k := fun e => hne (by rw [e])
  simp [putRow, mapBlock, Sort.ahead, Array.getElem?_modify, this]
theorem take_putCells (cur d : Array Value) (h : d.size ≤ cur.size) : (putCells id 0 d cur).toList.take d.size = d.toList := by
  apply List.ext_getElem?
  intro j
  by_cases hj : j < d.size
  · rw [List.getElem?_take_of_lt hj, Array.getElem?_toList]
    simp [putCells, hj, show j < cur.size by omega]
  · rw [List.getElem?_take_eq_none (by omega), List.getElem?_eq_none (by simp; omega)]

theorem sort47 (v : Value) (vs : List V8) (w : World) (base : Nat) (HO : Kd.R k8 48 w base (fun _ => True) v vs) (hlen : vs.length < 1099511627776) :
    Calls Try.prog 47 #[v, .func (.func 48) #[] #[]] w fun e w' => e = .returned (.tuple #[]) ∧ ∃ vs' : List V8, vs'.Perm vs ∧ vs'.Pairwise (fun x y => x.f0 ≤ y.f0) ∧ Kd.R k8 48 w' base (fun _ => True) v vs' ∧ w.grownBy w' v.ownBlock := by
  obtain ⟨_, inner, hown, hreps⟩ := HO
  have hin := flat_inner (hreps.imp_ (fun p c h => k8_openM h))
  rcases Nat.eq_zero_or_pos vs.length with h0 | hp
  · have hv : vs = [] := List.eq_nil_of_length_eq_zero h0
    subst hv
    have hsl : ∃ A c, v = .slice A 0 c := by
      rcases hown.2 with ⟨rfl, _⟩ | ⟨g, cap, cur, rfl, _⟩
      · exact ⟨_, _, rfl⟩
      · exact ⟨_, _, rfl⟩
    obtain ⟨A, c, rfl⟩ := hsl
    have hc := AnyF.slices_SortFunc_none Try.sortE A c (.func (.func 48) #[] #[]) w
    change Calls Try.prog 47 _ _ _ at hc
    refine hc.mono ?_
    rintro e w' ⟨rfl, rfl⟩
    exact ⟨rfl, [], List.Perm.refl _, List.Pairwise.nil, ⟨fun _ _ => trivial, inner, hown, hreps⟩, ⟨rfl, rfl, rfl, Nat.le_refl _, fun _ _ _ => rfl⟩⟩
  · rcases hown.2 with ⟨rfl, h0⟩ | ⟨g, cap, cur, rfl, hbase, hb, h1, h2, h3, h4⟩
    · omega
    · have hH : HoldsK enc8 8 w g 0 vs.toArray := holds_of_block hb (by
        have : (flatK enc8 8 vs.toArray).size = vs.length * 8 := by simp
        have hk8 : k8.sz = 8 := rfl
        rw [hk8] at h4
        rw [this, h4, hin])
      have eg : ∀ args w, (callFunc 48 args).run Try.prog w = .ok (.enter 48 args) w := enters_of Try.func48 (by kernel_rfl) rfl
      have hc := AnyQ.slices_SortFunc Try.sortE 8 Try.isAgg48 Try.sizeOf48 enc8 (fun _ => rfl) (fun x v hv => by simp [enc8] at hv; rcases hv with rfl | rfl | rfl | rfl | rfl | rfl | rfl | rfl <;> rfl) cf8 swo8 48 #[] g 0 cap vs.toArray w eg (cmpLays48 g 0 vs.toArray.size w) hH (Array.getElem?_eq_some_iff.1 hb).1 (by simp; omega)
      change Calls Try.prog 47 _ _ _ at hc
      simp only [List.size_toArray] at hc
      refine hc.mono ?_
      rintro e w' ⟨rfl, d', n, os, hperm, hsort, rfl⟩
      have hds : d'.size = vs.length := by simpa using hperm.1
      have hpm : d'.toList.Perm vs := by
        have := hperm.2.2
        simpa [hds, Array.extract_eq_self_of_le] using this
      refine ⟨rfl, d'.toList, hpm, ?_, ⟨fun _ _ => trivial, (flatK enc8 8 d').toList, ?_, ?_⟩, ?_⟩
      · rw [List.pairwise_iff_getElem]
        intro i j hi hj hij
        have := hsort i j (Nat.zero_le _) hij (by simpa [hds] using hj)
        rw [lt8, getElem!_pos d' j (by simpa using hj), getElem!_pos d' i (by simpa using hi)] at this
        simp at this
        simpa using this
      · have hsz : (flatK enc8 8 d').size = vs.length * 8 := by simp [hds]
        have hk8 : k8.sz = 8 := rfl
        rw [hk8]
        refine ⟨by simp [hds], .inr ⟨g, cap, _, by simp [hds], hbase, heap_sorted _ hb, by simpa [hds] using h1, h2, by rw [hk8] at h3; simp [putCells, h3], ?_⟩⟩
        have := take_putCells cur (flatK enc8 8 d') (by rw [hk8] at h3; rw [hsz, h3]; exact Nat.mul_le_mul_right _ h1)
        simpa [hds] using this
      · have := reps_flat d'.toList
        rw [Array.toArray_toList] at this
        exact this.imp_ (fun p c h => by rw [h]; exact k8_mkM _ _ _ _)
      · exact grownBy_sorted _

end Go.Proofs.Yteeeiaggkdlolaa.Ky
