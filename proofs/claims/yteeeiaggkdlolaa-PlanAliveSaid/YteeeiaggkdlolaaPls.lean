/- slices.Clone and slices.Sort of whole numbers, by hand; the law of a cut with a capacity. -/
import Derived.Test.YteeeiaggkdlolaaPl0
import Derived.Test.YteeeiaggkdlolaaSh
import Derived.Sort.OwnSortedInts
import Derived.Lib.SliceRun
namespace Go.Proofs.Yteeeiaggkdlolaa.Pl
open Go.RowKit Go.Proofs.YteeeiaggkdlolaaW.PrintWords Go.Proofs.YteeeiaggkdlolaaW.PrintLast Go.Proofs.YteeeiaggkdlolaaW.PrintMore
set_option linter.unusedVariables false
set_option linter.unusedSimpArgs false

theorem cut_to3 {P : Program} (t e : TypeId) (kh : IntKind) {i : TypeInfo} (ht : P.underlying t = some (.slice e)) (hi : P.info? e = some i) (A : Option Addr) (n c : Nat) (j : Int) (h0 : 0 ≤ j) (hm : j ≤ n) (hc : n ≤ c) :
    ∀ W : World, (Instr.slice t (.slice A n c) none (some (.int kh j)) (some (.int kh j))).run P W = .ok (.slice A j.toNat j.toNat) W := by
  intro W
  have hel : P.elem t = e := by simp [Program.elem, ht]
  have hu : P.underlying t = some (.slice (P.elem t)) := by rw [hel]; exact ht
  have ha : (A.map fun x => x.add 0) = A := by cases A <;> simp [Addr.add]
  rw [run_slice_hm W t A n c hu kh kh j j h0 (Int.le_refl _) (by omega), hel]
  simp [sizeOf, typeInfo, hi, sliced, Result.andThen, ha]

def slices_Clone_int_int.f (l0 : List Int) : Option (List Int) := if l0.length < 17592186044416 then some l0 else none
theorem slices_Clone_int_int.calls (A0 : Option Addr) (c0 : Nat) (l0 : List Int) (r : List Int) (w : World) (hr0 : Kd.C (Kd.int .i64) w A0 l0.length l0) (hc0 : l0.length ≤ c0) (h : slices_Clone_int_int.f l0 = some r) :
    Calls Try.prog 40 #[.slice A0 l0.length c0] w fun e w' => ∃ v0_ : Value, e = .returned (v0_) ∧ Kd.R (Kd.int .i64) 3 w' w.heap.size (fun _ => True) v0_ r ∧ Below w.heap.size w w' := by
  unfold slices_Clone_int_int.f at h
  by_cases hl : l0.length < 17592186044416
  · rw [if_pos hl] at h
    obtain rfl := Option.some.inj h
    clear h
    have HL := Aside0.mk hl
    clear hl
    have q28 : ∀ (w : World) (a : Option Addr) (n c n' c' : Nat), (binOp .eql 28 (.slice a n c) (.slice none n' c')).run Try.prog w = .ok (.bool a.isNone) w := fun w a n c n' c' => Lib.run_eql_slice_nil w 28 3 a n c n' c' Try.underlying28
    cases A0 with
    | none =>
      go_enter Try.func40, Try.ntmps40
      have hz : l0 = [] := by
        rcases Nat.eq_zero_or_pos l0.length with h0 | h0
        · exact List.eq_nil_of_length_eq_zero h0
        · obtain ⟨ad, e, _⟩ := hr0.2.2 h0
          cases e
      subst hz
      go_wp2
      go_ret
      exact ⟨_, rfl, Kd.R_nil _ _ _ _ _, Below.refl _ _⟩
    | some ad =>
      have HR := Aside0.mk (Kd.C_below hr0 (below_alloc (Below.refl _ _) (.cells #[] 3)))
      clear hr0
      go_enter Try.func40, Try.ntmps40
      go_wp2_with (at_builtin; refine Kd.R_append_row (Value.int .i64) (0 : Int) (w0 := w) (h1 := fun _ => rfl) w.heap.size rfl (.tmp 5) (.tmp 6) 28 3 (.int .i64 0) 8 rfl Try.underlying28 info3 rfl (by decide) (.slice (some ⟨w.heap.size, 0, none⟩) 0 0) [] l0 (some ad) l0.length c0 (fun _ => True) rfl rfl (fun _ _ => trivial) ?c1 HR.out (below_alloc (Below.refl _ _) _) (by simp) ?c2 ?_; (case c1 => exact Kd.R_of_own (enc := Value.int .i64) (xs := []) (own_lit w w.heap.size 3 .i64 [] (Nat.le_refl _) (by decide)) (fun _ _ => trivial)); (case c2 => have hq := HL.out; simp only [List.length_nil, Nat.zero_add]; omega); intro v1 w1 ho hb hg hat; have HO := Aside0.mk ho; have HB := Aside0.mk hb; clear ho hb hg hat)
      go_ret
      exact ⟨_, rfl, HO.out, HB.out⟩
  · rw [if_neg hl] at h; cases h

def insI (x : Int) : List Int → List Int
  | [] => [x]
  | y :: l => if x ≤ y then x :: y :: l else y :: insI x l
def isort : List Int → List Int
  | [] => []
  | x :: l => insI x (isort l)
theorem insI_perm (x : Int) : ∀ l, (insI x l).Perm (x :: l)
  | [] => List.Perm.refl _
  | y :: l => by
    unfold insI
    split
    · exact List.Perm.refl _
    · exact ((insI_perm x l).cons y).trans (List.Perm.swap _ _ _)
theorem isort_perm : ∀ l, (isort l).Perm l
  | [] => List.Perm.refl _
  | x :: l => (insI_perm x _).trans ((isort_perm l).cons x)
theorem insI_sorted (x : Int) : ∀ l, l.Pairwise (· ≤ ·) → (insI x l).Pairwise (· ≤ ·)
  | [], _ => by simp [insI]
  | y :: l, h => by
    unfold insI
    have h' := List.pairwise_cons.1 h
    split
    · rename_i hx
      refine List.pairwise_cons.2 ⟨fun z hz => ?_, h⟩
      rcases List.mem_cons.1 hz with rfl | hz
      · exact hx
      · have := h'.1 z hz; omega
    · rename_i hx
      refine List.pairwise_cons.2 ⟨fun z hz => ?_, insI_sorted x l h'.2⟩
      rcases List.mem_cons.1 ((insI_perm x l).mem_iff.1 hz) with rfl | hz
      · omega
      · exact h'.1 z hz
theorem isort_sorted : ∀ l, (isort l).Pairwise (· ≤ ·)
  | [] => List.Pairwise.nil
  | x :: l => insI_sorted x _ (isort_sorted l)
theorem mergeSort_isort (l : List Int) : (l.mergeSort fun x y => decide (x ≤ y)) = isort l := by
  have h1 := List.pairwise_mergeSort (le := fun x y : Int => decide (x ≤ y)) (fun a b c => by simp; omega) (fun a b => by simp; omega) l
  refine List.Perm.eq_of_pairwise (le := (· ≤ ·)) (fun a b _ _ h1 h2 => Int.le_antisymm h1 h2) (h1.imp (by simp)) (isort_sorted l) ((List.mergeSort_perm l _).trans (isort_perm l).symm)

open Go.Sort in
theorem slices_Sort_any (l0 : List Int) (u : Value) (base : Nat) (w : World) (hl : l0.length < 4611686018427387904) (ho : w.ownsRow base 3 1 u l0.length (l0.map (Value.int .i64))) :
    Calls Try.prog 41 #[u] w fun e w' => e = .returned (.tuple #[]) ∧ w'.ownsRow base 3 1 u l0.length ((l0.mergeSort fun x y => decide (x ≤ y)).map (Value.int .i64)) ∧ w.grownBy w' u.ownBlock := by
  rcases ho.2 with ⟨rfl, hn⟩ | ⟨g, cap, cur, rfl, hb, hg, h1, h2, h3, h4⟩
  · obtain rfl : l0 = [] := List.eq_nil_of_length_eq_zero hn
    refine (Try.slices_Sort_int_none none 0 w).mono ?_
    rintro e w' ⟨rfl, rfl⟩
    exact ⟨rfl, by simpa using ho, World.grownBy.refl _ _⟩
  · refine (Try.slices_Sort_int g 0 cap l0 w (holds_of_blockI hg (by simpa using h4)) (Array.getElem?_eq_some_iff.1 hg).1 hl).mono ?_
    rintro e w' ⟨rfl, n, os, rfl⟩
    exact ⟨rfl, ownsRow_sortedI (by simp) hb hg h1 h2 h3, grownBy_sortedI _⟩

def slices_Sort_int_int.f (l0 : List Int) : Option (List Int) := if l0.length < 4611686018427387904 then some (isort l0) else none
theorem slices_Sort_int_int.calls (P0_ : Nat → Prop) (u9000_ : Value) (l0 : List Int) (r : List Int) (w0 w : World) (hB : Below w0.heap.size w0 w) (ho0 : Kd.R (Kd.int .i64) 3 w w0.heap.size P0_ u9000_ l0) (h : slices_Sort_int_int.f l0 = some r) :
    Calls Try.prog 41 #[u9000_] w fun e w' => e = .returned (.tuple #[]) ∧ Kd.R (Kd.int .i64) 3 w' w0.heap.size (fun k_ => (P0_ k_ ∨ w.heap.size ≤ k_)) u9000_ r ∧ Below w0.heap.size w0 w' ∧ Kept w w' (fun k_ => P0_ k_) := by
  unfold slices_Sort_int_int.f at h
  by_cases hl : l0.length < 4611686018427387904
  · rw [if_pos hl] at h
    obtain rfl := Option.some.inj h
    have ho := Kd.own_of_R (enc := Value.int .i64) (h1 := fun _ => rfl) ho0
    rw [← mergeSort_isort]
    refine (slices_Sort_any l0 u9000_ w0.heap.size w hl ho).mono ?_
    rintro e w' ⟨rfl, hr, hg⟩
    have hlen : (l0.mergeSort fun x y => decide (x ≤ y)).length = l0.length := List.length_mergeSort _
    refine ⟨rfl, Kd.R_of_own (enc := Value.int .i64) (h1 := fun _ => rfl) (by rw [hlen]; exact hr) (fun k hk => .inl (ho0.1 k hk)), hB.grown hg hB.size (own_base hr), hg.size, fun i hi hn => hg.block i hi (fun e => hn (ho0.1 i e.symm))⟩
  · rw [if_neg hl] at h; cases h
end Go.Proofs.Yteeeiaggkdlolaa.Pl
