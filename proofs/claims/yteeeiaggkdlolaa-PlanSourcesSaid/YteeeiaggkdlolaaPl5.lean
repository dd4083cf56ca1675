-- Lean text written by a program of this session (xp) for this seat's functions
import Derived.Test.YteeeiaggkdlolaaPl0
import Derived.Test.YteeeiaggkdlolaaPl1
import Derived.Test.YteeeiaggkdlolaaPl2
import Derived.Test.YteeeiaggkdlolaaPl3
import Derived.Test.YteeeiaggkdlolaaPl4
namespace Go.Proofs.Yteeeiaggkdlolaa.Pl
open Go.RowKit Go.Proofs.YteeeiaggkdlolaaW.PrintWords Go.Proofs.YteeeiaggkdlolaaW.PrintLast Go.Proofs.YteeeiaggkdlolaaW.PrintMore
attribute [local go_sem] max2_int min2_int max_two min_two max_three min_three max_four min_four   -- for this text's walks alone
set_option linter.unusedVariables false
set_option linter.unusedSimpArgs false

attribute [local go_sem high] eqA35
/-! ### deadeyelaw17_PlanSources: function 4 -/
mutual
def deadeyelaw17_PlanSources.j0 : Nat → Int → List (S26) → List Int → Int → List Int → Option (Bool)
  | 0, _, _, _, _, _ => none
  | k + 1, x1, x2, x3, x193000, x193001 => deadeyelaw17_PlanSources.l0 k x1 x2 x3 (([] : List (S35))) 0 x193000 x193001
def deadeyelaw17_PlanSources.l0 : Nat → Int → List (S26) → List Int → List (S35) → Int → Int → List Int → Option (Bool)
  | 0, _, _, _, _, _, _, _ => none
  | k + 1, x1, x2, x3, x9, x10, x193000, x193001 => if x10 < (x193001.length : Int) then (if 0 ≤ x10 then ((deadeyelaw17_told.f k x2 (rd x193001 x10)).bind fun t208 => (if t208 = true then (if x9.length < 8796093022208 then (deadeyelaw17_PlanSources.l0 k x1 x2 x3 (x9 ++ [(⟨rd x193001 x10, x10⟩ : S35)]) (wrap64 (x10 + 1)) x193000 x193001) else (none)) else (deadeyelaw17_PlanSources.l0 k x1 x2 x3 x9 (wrap64 (x10 + 1)) x193000 x193001))) else (none)) else ((plan_Sources.f k x193000 x193001 x2).bind fun t213 => (if (t213.length : Int) = (x9.length : Int) then (deadeyelaw17_PlanSources.l1 k x1 x2 x3 x9 t213 0 x193000 x193001) else (some false)))
def deadeyelaw17_PlanSources.l1 : Nat → Int → List (S26) → List Int → List (S35) → List (S35) → Int → Int → List Int → Option (Bool)
  | 0, _, _, _, _, _, _, _, _ => none
  | k + 1, x1, x2, x3, x9, x11, x12, x193000, x193001 => if x12 < (x11.length : Int) then (if 0 ≤ x12 then (if x12 < (x9.length : Int) then (if (!(((rd_T35 x11 x12).f0) == ((rd_T35 x9 x12).f0)) || (!(((rd_T35 x11 x12).f1) == ((rd_T35 x9 x12).f1)))) = true then (some false) else (deadeyelaw17_PlanSources.l1 k x1 x2 x3 x9 x11 (wrap64 (x12 + 1)) x193000 x193001)) else (none)) else (none)) else (if x1 < 1 then (deadeyelaw17_PlanSources.j3 k x1 x2 x3 x9 1 x193000 x193001) else (deadeyelaw17_PlanSources.j3 k x1 x2 x3 x9 x1 x193000 x193001))
def deadeyelaw17_PlanSources.j3 : Nat → Int → List (S26) → List Int → List (S35) → Int → Int → List Int → Option (Bool)
  | 0, _, _, _, _, _, _, _ => none
  | k + 1, x1, x2, x3, x9, x13, x193000, x193001 => deadeyelaw17_PlanSources.l2 k x1 x2 x3 (decide ((x9.length : Int) ≥ x13)) 0 x193000 x193001
def deadeyelaw17_PlanSources.l2 : Nat → Int → List (S26) → List Int → Bool → Int → Int → List Int → Option (Bool)
  | 0, _, _, _, _, _, _, _ => none
  | k + 1, x1, x2, x3, x14, x15, x193000, x193001 => if x15 < (x3.length : Int) then (if 0 ≤ x15 then ((deadeyeref10_Pos.f k x193000 x193001 (rd x3 x15)).bind fun t221 => (if t221 ≥ 0 then ((deadeyelaw17_told.f k x2 (rd x3 x15)).bind fun t223 => (if t223 = true then (deadeyelaw17_PlanSources.l2 k x1 x2 x3 x14 (wrap64 (x15 + 1)) x193000 x193001) else (deadeyelaw17_PlanSources.l2 k x1 x2 x3 false (wrap64 (x15 + 1)) x193000 x193001))) else (deadeyelaw17_PlanSources.l2 k x1 x2 x3 x14 (wrap64 (x15 + 1)) x193000 x193001))) else (none)) else ((deadeyelaw17_awake.f k).bind fun t218 => (if t218 = true then ((plan_Enough.f k x193000 x193001 x1 x2 x3).bind fun t219 => (some (t219 == x14))) else (some false)))
end
def deadeyelaw17_PlanSources.f (k : Nat) (a0_0 : Int) (l0_1 : List Int) (a1 : Int) (l2 : List (S26)) (l3 : List Int) : Option (Bool) := (deadeyelaw17_small.f l0_1).bind fun t193 => ((deadeyelaw17_small.f l3).bind fun t196 => (if (l2.length : Int) > 40 then (if 40 ≤ (l2.length : Int) then (deadeyelaw17_PlanSources.j0 k a1 (l2.take 40) t196 a0_0 t193) else (none)) else (deadeyelaw17_PlanSources.j0 k a1 l2 t196 a0_0 t193)))
theorem deadeyelaw17_PlanSources.mono_l : ∀ k, (∀ y0 y1 y2 y3 y4, LeO (deadeyelaw17_PlanSources.j0 k y0 y1 y2 y3 y4) (deadeyelaw17_PlanSources.j0 (k + 1) y0 y1 y2 y3 y4)) ∧ (∀ y0 y1 y2 y3 y4 y5 y6, LeO (deadeyelaw17_PlanSources.l0 k y0 y1 y2 y3 y4 y5 y6) (deadeyelaw17_PlanSources.l0 (k + 1) y0 y1 y2 y3 y4 y5 y6)) ∧ (∀ y0 y1 y2 y3 y4 y5 y6 y7, LeO (deadeyelaw17_PlanSources.l1 k y0 y1 y2 y3 y4 y5 y6 y7) (deadeyelaw17_PlanSources.l1 (k + 1) y0 y1 y2 y3 y4 y5 y6 y7)) ∧ (∀ y0 y1 y2 y3 y4 y5 y6, LeO (deadeyelaw17_PlanSources.j3 k y0 y1 y2 y3 y4 y5 y6) (deadeyelaw17_PlanSources.j3 (k + 1) y0 y1 y2 y3 y4 y5 y6)) ∧ (∀ y0 y1 y2 y3 y4 y5 y6, LeO (deadeyelaw17_PlanSources.l2 k y0 y1 y2 y3 y4 y5 y6) (deadeyelaw17_PlanSources.l2 (k + 1) y0 y1 y2 y3 y4 y5 y6))
  | 0 => ⟨fun _ _ _ _ _ r h => by simp [deadeyelaw17_PlanSources.j0] at h, fun _ _ _ _ _ _ _ r h => by simp [deadeyelaw17_PlanSources.l0] at h, fun _ _ _ _ _ _ _ _ r h => by simp [deadeyelaw17_PlanSources.l1] at h, fun _ _ _ _ _ _ _ r h => by simp [deadeyelaw17_PlanSources.j3] at h, fun _ _ _ _ _ _ _ r h => by simp [deadeyelaw17_PlanSources.l2] at h⟩
  | k + 1 => by
    obtain ⟨ih0, ih1, ih2, ih3, ih4⟩ := deadeyelaw17_PlanSources.mono_l k
    refine ⟨?_, ?_, ?_, ?_, ?_⟩
    · intro y0 y1 y2 y3 y4
      unfold deadeyelaw17_PlanSources.j0
      repeat' first
      | (with_reducible exact ih0 _ _ _ _ _)
      | (with_reducible exact ih1 _ _ _ _ _ _ _)
      | (with_reducible exact ih2 _ _ _ _ _ _ _ _)
      | (with_reducible exact ih3 _ _ _ _ _ _ _)
      | (with_reducible exact ih4 _ _ _ _ _ _ _)
      | (with_reducible exact deadeyelaw17_awake.mono _)
      | (with_reducible exact deadeyelaw17_told.mono _ _ _)
      | (with_reducible exact deadeyeref10_Pos.mono _ _ _ _)
      | (with_reducible exact plan_Enough.mono _ _ _ _ _ _)
      | (with_reducible exact plan_Sources.mono _ _ _ _)
      | (with_reducible exact LeO.refl _)
      | (with_reducible exact LeO.none _)
      | (with_reducible refine LeO.ite ?_ ?_)
      | (with_reducible refine LeO.bind ?_ (fun _ => ?_))
      | exact ih0 _ _ _ _ _
      | exact ih1 _ _ _ _ _ _ _
      | exact ih2 _ _ _ _ _ _ _ _
      | exact ih3 _ _ _ _ _ _ _
      | exact ih4 _ _ _ _ _ _ _
      | exact deadeyelaw17_awake.mono _
      | exact deadeyelaw17_told.mono _ _ _
      | exact deadeyeref10_Pos.mono _ _ _ _
      | exact plan_Enough.mono _ _ _ _ _ _
      | exact plan_Sources.mono _ _ _ _
      | exact LeO.none _
      | refine LeO.ite ?_ ?_
      | refine LeO.bind ?_ (fun _ => ?_)
    · intro y0 y1 y2 y3 y4 y5 y6
      unfold deadeyelaw17_PlanSources.l0
      repeat' first
      | (with_reducible exact ih0 _ _ _ _ _)
      | (with_reducible exact ih1 _ _ _ _ _ _ _)
      | (with_reducible exact ih2 _ _ _ _ _ _ _ _)
      | (with_reducible exact ih3 _ _ _ _ _ _ _)
      | (with_reducible exact ih4 _ _ _ _ _ _ _)
      | (with_reducible exact deadeyelaw17_awake.mono _)
      | (with_reducible exact deadeyelaw17_told.mono _ _ _)
      | (with_reducible exact deadeyeref10_Pos.mono _ _ _ _)
      | (with_reducible exact plan_Enough.mono _ _ _ _ _ _)
      | (with_reducible exact plan_Sources.mono _ _ _ _)
      | (with_reducible exact LeO.refl _)
      | (with_reducible exact LeO.none _)
      | (with_reducible refine LeO.ite ?_ ?_)
      | (with_reducible refine LeO.bind ?_ (fun _ => ?_))
      | exact ih0 _ _ _ _ _
      | exact ih1 _ _ _ _ _ _ _
      | exact ih2 _ _ _ _ _ _ _ _
      | exact ih3 _ _ _ _ _ _ _
      | exact ih4 _ _ _ _ _ _ _
      | exact deadeyelaw17_awake.mono _
      | exact deadeyelaw17_told.mono _ _ _
      | exact deadeyeref10_Pos.mono _ _ _ _
      | exact plan_Enough.mono _ _ _ _ _ _
      | exact plan_Sources.mono _ _ _ _
      | exact LeO.none _
      | refine LeO.ite ?_ ?_
      | refine LeO.bind ?_ (fun _ => ?_)
    · intro y0 y1 y2 y3 y4 y5 y6 y7
      unfold deadeyelaw17_PlanSources.l1
      repeat' first
      | (with_reducible exact ih0 _ _ _ _ _)
      | (with_reducible exact ih1 _ _ _ _ _ _ _)
      | (with_reducible exact ih2 _ _ _ _ _ _ _ _)
      | (with_reducible exact ih3 _ _ _ _ _ _ _)
      | (with_reducible exact ih4 _ _ _ _ _ _ _)
      | (with_reducible exact deadeyelaw17_awake.mono _)
      | (with_reducible exact deadeyelaw17_told.mono _ _ _)
      | (with_reducible exact deadeyeref10_Pos.mono _ _ _ _)
      | (with_reducible exact plan_Enough.mono _ _ _ _ _ _)
      | (with_reducible exact plan_Sources.mono _ _ _ _)
      | (with_reducible exact LeO.refl _)
      | (with_reducible exact LeO.none _)
      | (with_reducible refine LeO.ite ?_ ?_)
      | (with_reducible refine LeO.bind ?_ (fun _ => ?_))
      | exact ih0 _ _ _ _ _
      | exact ih1 _ _ _ _ _ _ _
      | exact ih2 _ _ _ _ _ _ _ _
      | exact ih3 _ _ _ _ _ _ _
      | exact ih4 _ _ _ _ _ _ _
      | exact deadeyelaw17_awake.mono _
      | exact deadeyelaw17_told.mono _ _ _
      | exact deadeyeref10_Pos.mono _ _ _ _
      | exact plan_Enough.mono _ _ _ _ _ _
      | exact plan_Sources.mono _ _ _ _
      | exact LeO.none _
      | refine LeO.ite ?_ ?_
      | refine LeO.bind ?_ (fun _ => ?_)
    · intro y0 y1 y2 y3 y4 y5 y6
      unfold deadeyelaw17_PlanSources.j3
      repeat' first
      | (with_reducible exact ih0 _ _ _ _ _)
      | (with_reducible exact ih1 _ _ _ _ _ _ _)
      | (with_reducible exact ih2 _ _ _ _ _ _ _ _)
      | (with_reducible exact ih3 _ _ _ _ _ _ _)
      | (with_reducible exact ih4 _ _ _ _ _ _ _)
      | (with_reducible exact deadeyelaw17_awake.mono _)
      | (with_reducible exact deadeyelaw17_told.mono _ _ _)
      | (with_reducible exact deadeyeref10_Pos.mono _ _ _ _)
      | (with_reducible exact plan_Enough.mono _ _ _ _ _ _)
      | (with_reducible exact plan_Sources.mono _ _ _ _)
      | (with_reducible exact LeO.refl _)
      | (with_reducible exact LeO.none _)
      | (with_reducible refine LeO.ite ?_ ?_)
      | (with_reducible refine LeO.bind ?_ (fun _ => ?_))
      | exact ih0 _ _ _ _ _
      | exact ih1 _ _ _ _ _ _ _
      | exact ih2 _ _ _ _ _ _ _ _
      | exact ih3 _ _ _ _ _ _ _
      | exact ih4 _ _ _ _ _ _ _
      | exact deadeyelaw17_awake.mono _
      | exact deadeyelaw17_told.mono _ _ _
      | exact deadeyeref10_Pos.mono _ _ _ _
      | exact plan_Enough.mono _ _ _ _ _ _
      | exact plan_Sources.mono _ _ _ _
      | exact LeO.none _
      | refine LeO.ite ?_ ?_
      | refine LeO.bind ?_ (fun _ => ?_)
    · intro y0 y1 y2 y3 y4 y5 y6
      unfold deadeyelaw17_PlanSources.l2
      repeat' first
      | (with_reducible exact ih0 _ _ _ _ _)
      | (with_reducible exact ih1 _ _ _ _ _ _ _)
      | (with_reducible exact ih2 _ _ _ _ _ _ _ _)
      | (with_reducible exact ih3 _ _ _ _ _ _ _)
      | (with_reducible exact ih4 _ _ _ _ _ _ _)
      | (with_reducible exact deadeyelaw17_awake.mono _)
      | (with_reducible exact deadeyelaw17_told.mono _ _ _)
      | (with_reducible exact deadeyeref10_Pos.mono _ _ _ _)
      | (with_reducible exact plan_Enough.mono _ _ _ _ _ _)
      | (with_reducible exact plan_Sources.mono _ _ _ _)
      | (with_reducible exact LeO.refl _)
      | (with_reducible exact LeO.none _)
      | (with_reducible refine LeO.ite ?_ ?_)
      | (with_reducible refine LeO.bind ?_ (fun _ => ?_))
      | exact ih0 _ _ _ _ _
      | exact ih1 _ _ _ _ _ _ _
      | exact ih2 _ _ _ _ _ _ _ _
      | exact ih3 _ _ _ _ _ _ _
      | exact ih4 _ _ _ _ _ _ _
      | exact deadeyelaw17_awake.mono _
      | exact deadeyelaw17_told.mono _ _ _
      | exact deadeyeref10_Pos.mono _ _ _ _
      | exact plan_Enough.mono _ _ _ _ _ _
      | exact plan_Sources.mono _ _ _ _
      | exact LeO.none _
      | refine LeO.ite ?_ ?_
      | refine LeO.bind ?_ (fun _ => ?_)
theorem deadeyelaw17_PlanSources.mono : ∀ a0 a1 a2 a3 a4 k, LeO (deadeyelaw17_PlanSources.f k a0 a1 a2 a3 a4) (deadeyelaw17_PlanSources.f (k + 1) a0 a1 a2 a3 a4) := by
  intro a0 a1 a2 a3 a4 k
  obtain ⟨ih0, ih1, ih2, ih3, ih4⟩ := deadeyelaw17_PlanSources.mono_l k
  unfold deadeyelaw17_PlanSources.f
  repeat' first
      | (with_reducible exact ih0 _ _ _ _ _)
      | (with_reducible exact ih1 _ _ _ _ _ _ _)
      | (with_reducible exact ih2 _ _ _ _ _ _ _ _)
      | (with_reducible exact ih3 _ _ _ _ _ _ _)
      | (with_reducible exact ih4 _ _ _ _ _ _ _)
      | (with_reducible exact deadeyelaw17_awake.mono _)
      | (with_reducible exact deadeyelaw17_told.mono _ _ _)
      | (with_reducible exact deadeyeref10_Pos.mono _ _ _ _)
      | (with_reducible exact plan_Enough.mono _ _ _ _ _ _)
      | (with_reducible exact plan_Sources.mono _ _ _ _)
      | (with_reducible exact LeO.refl _)
      | (with_reducible exact LeO.none _)
      | (with_reducible refine LeO.ite ?_ ?_)
      | (with_reducible refine LeO.bind ?_ (fun _ => ?_))
      | exact ih0 _ _ _ _ _
      | exact ih1 _ _ _ _ _ _ _
      | exact ih2 _ _ _ _ _ _ _ _
      | exact ih3 _ _ _ _ _ _ _
      | exact ih4 _ _ _ _ _ _ _
      | exact deadeyelaw17_awake.mono _
      | exact deadeyelaw17_told.mono _ _ _
      | exact deadeyeref10_Pos.mono _ _ _ _
      | exact plan_Enough.mono _ _ _ _ _ _
      | exact plan_Sources.mono _ _ _ _
      | exact LeO.none _
      | refine LeO.ite ?_ ?_
      | refine LeO.bind ?_ (fun _ => ?_)
def deadeyelaw17_PlanSources.T16 : Bool × List (List Nat × List Nat) := (true, [([], []), ([], []), ([0, 1], [0, 1]), ([2], [2]), ([], []), ([], []), ([4, 5], [4, 5]), ([6], [6]), ([3, 7], [3, 7])])
def deadeyelaw17_PlanSources.B16 : List Nat := [0, 0, 3, 7, 0, 0, 48, 112, 255]
theorem deadeyelaw17_PlanSources.tab16 : rtab .any (opsOf Try.f4 16) = deadeyelaw17_PlanSources.T16 := by kernel_rfl
theorem deadeyelaw17_PlanSources.bits16 : waitsOk deadeyelaw17_PlanSources.T16.2 deadeyelaw17_PlanSources.B16 = true := by kernel_rfl
def deadeyelaw17_PlanSources.T25 : Bool × List (List Nat × List Nat) := (true, [([], []), ([], []), ([], []), ([1, 2], [1, 2]), ([3], [3]), ([0, 4], [0, 4]), ([5], [5]), ([6, 5], [6]), ([7], [7]), ([7], [7]), ([7], [7]), ([9, 10, 7], [7, 9, 10]), ([11, 7], [7, 11]), ([8, 12, 7, 7], [7, 8, 12]), ([13, 7], [7, 13]), ([7, 14], [7, 14])])
def deadeyelaw17_PlanSources.B25 : List Nat := [0, 0, 0, 6, 14, 31, 63, 127, 255, 255, 255, 1791, 3839, 8191, 16383, 32767]
theorem deadeyelaw17_PlanSources.tab25 : rtab .any (opsOf Try.f4 25) = deadeyelaw17_PlanSources.T25 := by kernel_rfl
theorem deadeyelaw17_PlanSources.bits25 : waitsOk deadeyelaw17_PlanSources.T25.2 deadeyelaw17_PlanSources.B25 = true := by kernel_rfl
set_option maxHeartbeats 8000000 in
set_option maxRecDepth 100000 in
theorem deadeyelaw17_PlanSources.calls (k : Nat) (a0_0 : Int) (P0_1_ : Nat → Prop) (A0_1 : Option Addr) (c0_1 : Nat) (l0_1 : List Int) (a1 : Int) (P2_ : Nat → Prop) (A2 : Option Addr) (c2 : Nat) (l2 : List (S26)) (P3_ : Nat → Prop) (A3 : Option Addr) (c3 : Nat) (l3 : List Int) (r : Bool) (w : World) (hs0_1 : Kd.V (Kd.int .i64) 3 w w.heap.size (fun k_ => P0_1_ k_) (.slice A0_1 l0_1.length c0_1) l0_1) (hs2 : Kd.V k26 26 w w.heap.size (fun k_ => P2_ k_) (.slice A2 l2.length c2) l2) (hs3 : Kd.V (Kd.int .i64) 3 w w.heap.size (fun k_ => P3_ k_) (.slice A3 l3.length c3) l3) (h : deadeyelaw17_PlanSources.f k a0_0 l0_1 a1 l2 l3 = some r) :
    Calls Try.prog 4 #[.agg #[.int .i64 a0_0, .slice A0_1 l0_1.length c0_1], .int .i64 a1, .slice A2 l2.length c2, .slice A3 l3.length c3] w fun e w' => e = .returned (.bool r) ∧ Below w.heap.size w w' := by
  have hu30 := Try.underlying30
  have hu35 := Try.underlying35
  have HO0_1 := Aside0.mk (show Kd.V (Kd.int .i64) 3 w w.heap.size (fun k_ => ((P0_1_ k_ ∨ P2_ k_ ∨ P3_ k_) ∨ w.heap.size ≤ k_)) (.slice A0_1 l0_1.length c0_1) l0_1 from Kd.V_mono hs0_1 (fun k_ hk => .inl (.inl hk)))
  have HO2 := Aside0.mk (show Kd.V k26 26 w w.heap.size (fun k_ => ((P0_1_ k_ ∨ P2_ k_ ∨ P3_ k_) ∨ w.heap.size ≤ k_)) (.slice A2 l2.length c2) l2 from Kd.V_mono hs2 (fun k_ hk => .inl (.inr (.inl hk))))
  have HO3 := Aside0.mk (show Kd.V (Kd.int .i64) 3 w w.heap.size (fun k_ => ((P0_1_ k_ ∨ P2_ k_ ∨ P3_ k_) ∨ w.heap.size ≤ k_)) (.slice A3 l3.length c3) l3 from Kd.V_mono hs3 (fun k_ hk => .inl (.inr (.inr hk))))
  have HB := Aside0.mk (Below.refl w.heap.size w)
  have H : ((deadeyelaw17_small.f l0_1).bind fun t193 => ((deadeyelaw17_small.f l3).bind fun t196 => (if (l2.length : Int) > 40 then (if 40 ≤ (l2.length : Int) then (deadeyelaw17_PlanSources.j0 k a1 (l2.take 40) t196 a0_0 t193) else (none)) else (deadeyelaw17_PlanSources.j0 k a1 l2 t196 a0_0 t193)))) = some r := h
  clear h
  replace H := Option.bind_eq_some_iff.mp H
  obtain ⟨t193, A50, H⟩ := H
  replace H : ((deadeyelaw17_small.f l3).bind fun t196 => (if (l2.length : Int) > 40 then (if 40 ≤ (l2.length : Int) then (deadeyelaw17_PlanSources.j0 k a1 (l2.take 40) t196 a0_0 t193) else (none)) else (deadeyelaw17_PlanSources.j0 k a1 l2 t196 a0_0 t193))) = some r := H
  have A5 := Aside0.mk A50
  clear A50
  replace H := Option.bind_eq_some_iff.mp H
  obtain ⟨t196, A60, H⟩ := H
  replace H : (if (l2.length : Int) > 40 then (if 40 ≤ (l2.length : Int) then (deadeyelaw17_PlanSources.j0 k a1 (l2.take 40) t196 a0_0 t193) else (none)) else (deadeyelaw17_PlanSources.j0 k a1 l2 t196 a0_0 t193)) = some r := H
  have A6 := Aside0.mk A60
  clear A60
  have HC7 := Aside0.mk H
  clear H
  go_enter Try.func4, Try.ntmps4
  go_upto_if 24 with (first | ((with_reducible refine gate_dst (N := 4) rfl ?_); refine box_event ?hg (N := 4) ?hd (cs := #[.int .i64 a0_0, .slice A0_1 l0_1.length c0_1]) (t := 30) ?hr ?_; (case hd => rfl); (case hg => rfl); (case hr => first | (go_simp; done) | (go_simp; rfl)); intro gb192 hg w8 hbox hb; have n0_ := Aside0.mk (Kd.V_below (Kd.V_elderB (by (with_reducible repeat (first | apply Kd.V_alloc | apply Kd.V_drewN | apply Kd.V_drew)); exact HO0_1.out) gb192 (Nat.le_of_eq hg.symm)) hb); have n1_ := Aside0.mk (Kd.V_below (Kd.V_elderB (by (with_reducible repeat (first | apply Kd.V_alloc | apply Kd.V_drewN | apply Kd.V_drew)); exact HO2.out) gb192 (Nat.le_of_eq hg.symm)) hb); have n2_ := Aside0.mk (Kd.V_below (Kd.V_elderB (by (with_reducible repeat (first | apply Kd.V_alloc | apply Kd.V_drewN | apply Kd.V_drew)); exact HO3.out) gb192 (Nat.le_of_eq hg.symm)) hb); have n3_ := Aside0.mk (below_step (by repeat (first | (with_reducible first | exact HB.out | apply below_alloc | apply pw_below_drewN | apply below_drew1) | exact HB.out)) hb); have n4_ := Aside0.mk (hbox); have n5_ := Aside0.mk ((by rw [hg]; exact (below_size (by repeat (first | (with_reducible first | exact HB.out | apply below_alloc | apply pw_below_drewN | apply below_drew1) | exact HB.out))) : w.heap.size ≤ gb192)); have n6_ := Aside0.mk ((by rw [hg]; exact (below_size (by repeat (first | (with_reducible first | exact HB.out | apply below_alloc | apply pw_below_drewN | apply below_drew1) | exact HB.out))) : w.heap.size ≤ gb192)); clear HO0_1; clear HO2; clear HO3; clear HB; have HO0_1 := n0_; have HO2 := n1_; have HO3 := n2_; have HB := n3_; have BK192 := n4_; have GW192 := n5_; have GE192 := n6_; clear n0_ n1_ n2_ n3_ n4_ n5_ n6_; clear hb hbox hg; have hcz9_0 : w8.cell? ⟨gb192, 0, none⟩ = some (.int .i64 a0_0) := (blk_cell BK192.out 0).trans rfl; have hcz9_1 : w8.cell? ⟨gb192, 1, none⟩ = some (.slice A0_1 l0_1.length c0_1) := (blk_cell BK192.out 1).trans rfl; have hfz9_0 := blk_frozen BK192.out 0; have hfz9_1 := blk_frozen BK192.out 1) | ((with_reducible refine gate_callee (f := 14) rfl ?_); refine goesL_ (some 18) rfl rfl Try.func14 (by kernel_rfl) rfl #[.slice A0_1 l0_1.length c0_1] rfl (by (try simp only [List.map_toArray, List.map_cons, List.map_nil]); first | done | rfl | (simp only [List.length_drop, List.length_take]; rfl)) ?_; (with_reducible refine (deadeyelaw17_small.calls (fun k_ => (((P0_1_ k_ ∨ P2_ k_ ∨ P3_ k_) ∨ w.heap.size ≤ k_) ∧ k_ ≠ gb192)) _ _ l0_1 t193 _ ?side1 A5.out).mono ?_); (case side1 => exact HO0_1.out); rintro e w10 ⟨v194, rfl, ho0, hb⟩; refine ⟨_, rfl, ?_⟩; have n0_ := Aside0.mk (Kd.V_below (by (with_reducible repeat (first | apply Kd.V_alloc | apply Kd.V_drewN | apply Kd.V_drew)); exact HO0_1.out) hb); have n1_ := Aside0.mk (Kd.V_below (by (with_reducible repeat (first | apply Kd.V_alloc | apply Kd.V_drewN | apply Kd.V_drew)); exact HO2.out) hb); have n2_ := Aside0.mk (Kd.V_below (by (with_reducible repeat (first | apply Kd.V_alloc | apply Kd.V_drewN | apply Kd.V_drew)); exact HO3.out) hb); have n3_ := Aside0.mk (Kd.V_lower (Kd.V_mono (ok' := fun k_ => ((P0_1_ k_ ∨ P2_ k_ ∨ P3_ k_) ∨ w.heap.size ≤ k_) ∧ k_ ≠ gb192) ho0 (fun k_ hk_ => ⟨Or.elim hk_ (fun hs_ => hs_.1) (fun hn_ => (.inr (Nat.le_trans (below_size (by repeat (first | (with_reducible first | exact HB.out | apply below_alloc | apply pw_below_drewN | apply below_drew1 | refine below_set ?_ GE192.out) | exact HB.out))) hn_))), Or.elim hk_ (fun hs_ => hs_.2) (fun hn_ => (Kd.freshB (g := gb192) (o := .cells #[.int .i64 a0_0, .slice A0_1 l0_1.length c0_1] 30 (0, 0)) (by (with_reducible repeat (first | refine blk_drewN ?_ _ | refine blk_drew ?_ | refine blk_alloc ?_ _)); exact BK192.out) k_ hn_))⟩)) (below_size (by repeat (first | (with_reducible first | exact HB.out | apply below_alloc | apply pw_below_drewN | apply below_drew1 | refine below_set ?_ GE192.out) | exact HB.out)))); have n4_ := Aside0.mk (blk_below (g := gb192) (o := .cells #[.int .i64 a0_0, .slice A0_1 l0_1.length c0_1] 30 (0, 0)) (by (with_reducible repeat (first | refine blk_drewN ?_ _ | refine blk_drew ?_ | refine blk_alloc ?_ _)); exact BK192.out) hb); have n5_ := Aside0.mk (below_step (by repeat (first | (with_reducible first | exact HB.out | apply below_alloc | apply pw_below_drewN | apply below_drew1 | refine below_set ?_ GE192.out) | exact HB.out)) hb); clear HO0_1; clear HO2; clear HO3; clear BK192; clear HB; have HO0_1 := n0_; have HO2 := n1_; have HO3 := n2_; have HO195 := n3_; have BK192 := n4_; have HB := n5_; clear n0_ n1_ n2_ n3_ n4_ n5_; (try clear hb); (try clear hb2); (try clear hk); (try clear hi); (try clear ho0)) | ((with_reducible refine gate_callee (f := 14) rfl ?_); refine goesL_ (some 20) rfl rfl Try.func14 (by kernel_rfl) rfl #[.slice A3 l3.length c3] rfl (by (try simp only [List.map_toArray, List.map_cons, List.map_nil]); first | done | rfl | (simp only [List.length_drop, List.length_take]; rfl)) ?_; (with_reducible refine (deadeyelaw17_small.calls (fun k_ => (((P0_1_ k_ ∨ P2_ k_ ∨ P3_ k_) ∨ w.heap.size ≤ k_) ∧ k_ ≠ gb192)) _ _ l3 t196 _ ?side1 A6.out).mono ?_); (case side1 => exact HO3.out); rintro e w11 ⟨v197, rfl, ho0, hb⟩; refine ⟨_, rfl, ?_⟩; have n0_ := Aside0.mk (Kd.V_below (by (with_reducible repeat (first | apply Kd.V_alloc | apply Kd.V_drewN | apply Kd.V_drew)); exact HO0_1.out) hb); have n1_ := Aside0.mk (Kd.V_below (by (with_reducible repeat (first | apply Kd.V_alloc | apply Kd.V_drewN | apply Kd.V_drew)); exact HO2.out) hb); have n2_ := Aside0.mk (Kd.V_below (by (with_reducible repeat (first | apply Kd.V_alloc | apply Kd.V_drewN | apply Kd.V_drew)); exact HO3.out) hb); have n3_ := Aside0.mk (Kd.V_below (by (with_reducible repeat (first | apply Kd.V_alloc | apply Kd.V_drewN | apply Kd.V_drew)); exact HO195.out) hb); have n4_ := Aside0.mk (Kd.V_lower (Kd.V_mono (ok' := fun k_ => ((P0_1_ k_ ∨ P2_ k_ ∨ P3_ k_) ∨ w.heap.size ≤ k_) ∧ k_ ≠ gb192) ho0 (fun k_ hk_ => ⟨Or.elim hk_ (fun hs_ => hs_.1) (fun hn_ => (.inr (Nat.le_trans (below_size (by repeat (first | (with_reducible first | exact HB.out | apply below_alloc | apply pw_below_drewN | apply below_drew1 | refine below_set ?_ GE192.out) | exact HB.out))) hn_))), Or.elim hk_ (fun hs_ => hs_.2) (fun hn_ => (Kd.freshB (g := gb192) (o := .cells #[.int .i64 a0_0, .slice A0_1 l0_1.length c0_1] 30 (0, 0)) (by (with_reducible repeat (first | refine blk_drewN ?_ _ | refine blk_drew ?_ | refine blk_alloc ?_ _)); exact BK192.out) k_ hn_))⟩)) (below_size (by repeat (first | (with_reducible first | exact HB.out | apply below_alloc | apply pw_below_drewN | apply below_drew1 | refine below_set ?_ GE192.out) | exact HB.out)))); have n5_ := Aside0.mk (blk_below (g := gb192) (o := .cells #[.int .i64 a0_0, .slice A0_1 l0_1.length c0_1] 30 (0, 0)) (by (with_reducible repeat (first | refine blk_drewN ?_ _ | refine blk_drew ?_ | refine blk_alloc ?_ _)); exact BK192.out) hb); have n6_ := Aside0.mk (below_step (by repeat (first | (with_reducible first | exact HB.out | apply below_alloc | apply pw_below_drewN | apply below_drew1 | refine below_set ?_ GE192.out) | exact HB.out)) hb); clear HO0_1; clear HO2; clear HO3; clear HO195; clear BK192; clear HB; have HO0_1 := n0_; have HO2 := n1_; have HO3 := n2_; have HO195 := n3_; have HO198 := n4_; have BK192 := n5_; have HB := n6_; clear n0_ n1_ n2_ n3_ n4_ n5_ n6_; (try clear hb); (try clear hb2); (try clear hk); (try clear hi); (try clear ho0); obtain ⟨Ao12, co12, eo12⟩ := Kd.V_slice HO195.out; subst eo12; have hcz13_0 : w11.cell? ⟨gb192, 0, none⟩ = some (.int .i64 a0_0) := (blk_cell BK192.out 0).trans rfl; have hcz13_1 : w11.cell? ⟨gb192, 1, none⟩ = some (.slice A0_1 l0_1.length c0_1) := (blk_cell BK192.out 1).trans rfl; have hfz13_0 := blk_frozen BK192.out 0; have hfz13_1 := blk_frozen BK192.out 1) | ((with_reducible refine gate_store (t := 28) (p := 21) rfl ?_); refine store_event (t := 28) (p := 21) (v := ?vo_w14) (w1 := (w11.setCell ⟨gb192, 1, none⟩ (.slice Ao12 t193.length co12))) ?hg ?ho ?hn ?hr ?_; (case ho => rfl); (case hg => rfl); (case hn => rfl); (case hr => first | (go_simp; done) | (go_simp; rfl)); intro w14 hw; have n0_ : Aside0 (Kd.V (Kd.int .i64) 3 w14 w.heap.size (fun k_ => ((P0_1_ k_ ∨ P2_ k_ ∨ P3_ k_) ∨ w.heap.size ≤ k_) ∧ k_ ≠ gb192) (.slice A0_1 l0_1.length c0_1) l0_1) := ⟨(by rw [hw]; exact (by (with_reducible repeat (first | apply Kd.V_alloc | apply Kd.V_drewN | apply Kd.V_drew)); exact Kd.V_mono (Kd.V_far (p := ⟨gb192, 1, none⟩) (Kd.V_mono HO0_1.out (fun k_ hk => (⟨hk, hk.2⟩ : _ ∧ k_ ≠ gb192))) (fun _ hk => hk.2) (.slice Ao12 t193.length co12)) (fun _ hk => ⟨hk.1.1, hk.1.2⟩)))⟩; have n1_ : Aside0 (Kd.V k26 26 w14 w.heap.size (fun k_ => ((P0_1_ k_ ∨ P2_ k_ ∨ P3_ k_) ∨ w.heap.size ≤ k_) ∧ k_ ≠ gb192) (.slice A2 l2.length c2) l2) := ⟨(by rw [hw]; exact (by (with_reducible repeat (first | apply Kd.V_alloc | apply Kd.V_drewN | apply Kd.V_drew)); exact Kd.V_mono (Kd.V_far (p := ⟨gb192, 1, none⟩) (Kd.V_mono HO2.out (fun k_ hk => (⟨hk, hk.2⟩ : _ ∧ k_ ≠ gb192))) (fun _ hk => hk.2) (.slice Ao12 t193.length co12)) (fun _ hk => ⟨hk.1.1, hk.1.2⟩)))⟩; have n2_ : Aside0 (Kd.V (Kd.int .i64) 3 w14 w.heap.size (fun k_ => ((P0_1_ k_ ∨ P2_ k_ ∨ P3_ k_) ∨ w.heap.size ≤ k_) ∧ k_ ≠ gb192) (.slice A3 l3.length c3) l3) := ⟨(by rw [hw]; exact (by (with_reducible repeat (first | apply Kd.V_alloc | apply Kd.V_drewN | apply Kd.V_drew)); exact Kd.V_mono (Kd.V_far (p := ⟨gb192, 1, none⟩) (Kd.V_mono HO3.out (fun k_ hk => (⟨hk, hk.2⟩ : _ ∧ k_ ≠ gb192))) (fun _ hk => hk.2) (.slice Ao12 t193.length co12)) (fun _ hk => ⟨hk.1.1, hk.1.2⟩)))⟩; have n3_ : Aside0 (Kd.V (Kd.int .i64) 3 w14 w.heap.size (fun k_ => ((P0_1_ k_ ∨ P2_ k_ ∨ P3_ k_) ∨ w.heap.size ≤ k_) ∧ k_ ≠ gb192) (.slice Ao12 t193.length co12) t193) := ⟨(by rw [hw]; exact (by (with_reducible repeat (first | apply Kd.V_alloc | apply Kd.V_drewN | apply Kd.V_drew)); exact Kd.V_mono (Kd.V_far (p := ⟨gb192, 1, none⟩) (Kd.V_mono HO195.out (fun k_ hk => (⟨hk, hk.2⟩ : _ ∧ k_ ≠ gb192))) (fun _ hk => hk.2) (.slice Ao12 t193.length co12)) (fun _ hk => ⟨hk.1.1, hk.1.2⟩)))⟩; have n4_ : Aside0 (Kd.V (Kd.int .i64) 3 w14 w.heap.size (fun k_ => ((P0_1_ k_ ∨ P2_ k_ ∨ P3_ k_) ∨ w.heap.size ≤ k_) ∧ k_ ≠ gb192) v197 t196) := ⟨(by rw [hw]; exact (by (with_reducible repeat (first | apply Kd.V_alloc | apply Kd.V_drewN | apply Kd.V_drew)); exact Kd.V_mono (Kd.V_far (p := ⟨gb192, 1, none⟩) (Kd.V_mono HO198.out (fun k_ hk => (⟨hk, hk.2⟩ : _ ∧ k_ ≠ gb192))) (fun _ hk => hk.2) (.slice Ao12 t193.length co12)) (fun _ hk => ⟨hk.1.1, hk.1.2⟩)))⟩; have n5_ : Aside0 (w14.heap[gb192]? = some (.cells #[.int .i64 a0_0, .slice Ao12 t193.length co12] 30 (0, 0))) := ⟨(by rw [hw]; exact (by (with_reducible repeat (first | refine blk_drewN ?_ _ | refine blk_drew ?_ | refine blk_alloc ?_ _)); refine blk_put (cs := #[.int .i64 a0_0, .slice A0_1 l0_1.length c0_1]) ?_ 1 _ rfl; (with_reducible repeat (first | refine blk_drewN ?_ _ | refine blk_drew ?_ | refine blk_alloc ?_ _)); exact BK192.out))⟩; have n6_ : Aside0 (Below w.heap.size w w14) := ⟨(by rw [hw]; exact (by repeat (first | (with_reducible first | exact HB.out | apply below_alloc | apply pw_below_drewN | apply below_drew1 | refine below_set ?_ GE192.out) | exact HB.out)))⟩; clear hw; clear HO0_1; clear HO2; clear HO3; clear HO195; clear HO198; clear BK192; clear HB; have HO0_1 := n0_; have HO2 := n1_; have HO3 := n2_; have HO195 := n3_; have HO198 := n4_; have BK192 := n5_; have HB := n6_; clear n0_ n1_ n2_ n3_ n4_ n5_ n6_))
  (try simp only [Act.put, List.setIfInBounds_toArray, List.set_cons_zero, List.set_cons_succ])
  go_cut [2] (fun v2 wc => ∃ (kq : Nat) (x2_6 : List (S26)), Aside0 (deadeyelaw17_PlanSources.j0 kq a1 x2_6 t196 a0_0 t193 = some r) ∧ Aside0 (kq ≤ k) ∧ Aside0 (Kd.V k26 26 wc w.heap.size (fun k_ => ((P0_1_ k_ ∨ P2_ k_ ∨ P3_ k_) ∨ w.heap.size ≤ k_) ∧ k_ ≠ gb192) v2 x2_6) ∧ Aside0 (Kd.V (Kd.int .i64) 3 wc w.heap.size (fun k_ => ((P0_1_ k_ ∨ P2_ k_ ∨ P3_ k_) ∨ w.heap.size ≤ k_) ∧ k_ ≠ gb192) v197 t196) ∧ Aside0 (Kd.V (Kd.int .i64) 3 wc w.heap.size (fun k_ => ((P0_1_ k_ ∨ P2_ k_ ∨ P3_ k_) ∨ w.heap.size ≤ k_) ∧ k_ ≠ gb192) (.slice Ao12 t193.length co12) t193) ∧ Aside0 (wc.heap[gb192]? = some (.cells #[.int .i64 a0_0, (.slice Ao12 t193.length co12)] 30 (0, 0))) ∧ Aside0 (Below w.heap.size w wc))
  case first =>
    have H := HC7.out
    clear HC7
    by_cases c15 : (l2.length : Int) > 40
    · rw [if_pos c15] at H
      have c15b0 : decide (40 < (l2.length : Int)) = true := decide_eq_true c15
      have c15b1 : decide (40 < l2.length) = true := decide_eq_true (by omega)
      clear c15
      (first | rw [c15b0] | (simp only [i64_w, i32_w]; rw [c15b0]) | skip)
      by_cases c16 : 40 ≤ (l2.length : Int)
      · rw [if_pos c16] at H
        have c16b0 := eq_true c16
        have c16b1 : decide (40 ≤ (l2.length : Int)) = true := decide_eq_true c16
        clear c16
        obtain ⟨y199, hy199⟩ : ∃ y_ : List (S26), y_ = (l2.take 40) := ⟨_, rfl⟩
        replace H : (deadeyelaw17_PlanSources.j0 k a1 y199 t196 a0_0 t193) = some r := by first | (rw [hy199]; with_reducible exact H) | (have H2_ := (Option.bind_some _ _).symm.trans H; rw [hy199]; with_reducible exact H2_) | (have H2_ := (Option.bind_some _ _).symm.trans H; with_reducible exact H2_) | with_reducible exact H | (rw [hy199]; exact H) | exact H
        have Ny199 := Aside0.mk hy199
        clear hy199
        have H' := Aside0.mk H
        clear H
        have q17 : (40 : Int) ≤ ((l2.length : Int) : Int) := of_decide_eq_true (by first | (with_reducible assumption) | assumption)
        obtain ⟨i017, hi017, _, hsz17, _⟩ := info_parts info26
        have hroom17 : l2.length ≤ c2 := (Kd.V_reads' HO2.out).2.1
        have hC17 : Kd.F k26 _ _ A2 l2.length l2 := (Kd.V_at (base := w.heap.size) HO2.out).2.2
        have hcut17 := cut_to (P := Try.prog) 22 26 .i64 Try.underlying22 hi017 A2 l2.length c2 40 (by omega) q17 hroom17
        have hr17 := Kd.F_take (m := 40) hC17 (by omega)
        have hy17 : y199.length = (40 : Int).toNat := (by rw [Ny199.out, List.length_take]; omega)
        rw [← Ny199.out] at hr17
        rw [← hy17] at hcut17
        have HO203 := Aside0.mk (show Kd.V k26 26 _ w.heap.size _ (.slice A2 y199.length c2) y199 from Kd.V_mk (by omega) hr17)
        have HC203 := Aside0.mk (show y199.length ≤ c2 from by omega)
        clear hr17 hC17 hroom17 hi017 hsz17
        have KY17 := Aside0.mk hy17
        clear hy17
        replace q17 := eq_true q17
        go_wp2
        go_meet
        case rel => exact ⟨_, (y199), H', ⟨by first | omega | exact Nat.le_refl _⟩, ⟨by (with_reducible repeat (first | apply Kd.V_alloc | apply Kd.V_drewN | apply Kd.V_drew)); exact HO203.out⟩, ⟨by (with_reducible repeat (first | apply Kd.V_alloc | apply Kd.V_drewN | apply Kd.V_drew)); exact HO198.out⟩, ⟨by (with_reducible repeat (first | apply Kd.V_alloc | apply Kd.V_drewN | apply Kd.V_drew)); exact HO195.out⟩, ⟨by (with_reducible repeat (first | refine blk_drewN ?_ _ | refine blk_drew ?_ | refine blk_alloc ?_ _)); exact BK192.out⟩, ⟨by repeat (first | (with_reducible first | exact HB.out | apply below_alloc | apply pw_below_drewN | apply below_drew1 | refine below_set ?_ GE192.out) | exact HB.out)⟩⟩
      · rw [if_neg c16] at H
        exact absurd H (by simp)
    · rw [if_neg c15] at H
      have c15b0 : decide (40 < (l2.length : Int)) = false := decide_eq_false c15
      have c15b1 : decide (40 < l2.length) = false := decide_eq_false (by omega)
      clear c15
      (first | rw [c15b0] | (simp only [i64_w, i32_w]; rw [c15b0]) | skip)
      have H' := Aside0.mk H
      clear H
      go_wp2
      go_meet
      case rel => exact ⟨_, (l2), H', ⟨by first | omega | exact Nat.le_refl _⟩, ⟨by (with_reducible repeat (first | apply Kd.V_alloc | apply Kd.V_drewN | apply Kd.V_drew)); exact HO2.out⟩, ⟨by (with_reducible repeat (first | apply Kd.V_alloc | apply Kd.V_drewN | apply Kd.V_drew)); exact HO198.out⟩, ⟨by (with_reducible repeat (first | apply Kd.V_alloc | apply Kd.V_drewN | apply Kd.V_drew)); exact HO195.out⟩, ⟨by (with_reducible repeat (first | refine blk_drewN ?_ _ | refine blk_drew ?_ | refine blk_alloc ?_ _)); exact BK192.out⟩, ⟨by repeat (first | (with_reducible first | exact HB.out | apply below_alloc | apply pw_below_drewN | apply below_drew1 | refine below_set ?_ GE192.out) | exact HB.out)⟩⟩
  case rest =>
    clear HC7
    try clear c1
    try clear q1
    try clear c2
    try clear p2
    try clear c3
    try clear c4
    try clear c14
    try clear c15
    try clear c15b0
    try clear c15b1
    try clear c16
    try clear c16b0
    try clear c16b1
    try clear q17
    try clear hcz13_0
    try clear hcz13_1
    try clear hcz9_0
    try clear hcz9_1
    try clear hfz13_0
    try clear hfz13_1
    try clear hfz9_0
    try clear hfz9_1
    try clear q17
    obtain ⟨kq, x2_6, HA, HJ6, HO_2, HO_3, HO_193001, BK192, HB⟩ := hcut
    cases kq with
    | zero => exact absurd HA.out (by simp [deadeyelaw17_PlanSources.j0])
    | succ kj6 =>
      have H := HA.out
      clear HA
      simp only [deadeyelaw17_PlanSources.j0] at H
      obtain ⟨y204, hy204⟩ : ∃ y_ : List (S35), y_ = (([] : List (S35))) := ⟨_, rfl⟩
      replace H : (deadeyelaw17_PlanSources.l0 kj6 a1 x2_6 t196 y204 0 a0_0 t193) = some r := by first | (rw [hy204]; with_reducible exact H) | (have H2_ := (Option.bind_some _ _).symm.trans H; rw [hy204]; with_reducible exact H2_) | (have H2_ := (Option.bind_some _ _).symm.trans H; with_reducible exact H2_) | with_reducible exact H | (rw [hy204]; exact H) | exact H
      have Ny204 := Aside0.mk hy204
      clear hy204
      have H' := Aside0.mk H
      clear H
      go_wp2_with (first | ((with_reducible refine gate_dst (N := 27) rfl ?_); refine Kd.R_lit k35 _ 35 ?hg (N := 27) ?hd (xs := ([] : List (S35))) (inner := []) (ok := fun _ => True) (okp := fun _ => True) ?hr ?hp (fun _ hk => hk) trivial (Below.refl _ _) (Nat.le_refl _) (by simp) ?_; (case hd => rfl); (case hg => rfl); (case hr => first | (go_simp; done) | (go_simp; rfl)); (case hp => exact (Reps.none _ _)); intro v205 w18 ho19 hb hg_ hnew_; clear hg_ hnew_; (first | rw [← Ny204.out] at ho19 | (simp only [Int.reduceToNat] at ho19; rw [← Ny204.out] at ho19)); have n0_ := Aside0.mk (Kd.V_elder' (by (with_reducible repeat (first | apply Kd.V_alloc | apply Kd.V_drewN | apply Kd.V_drew)); exact HO_2.out) (Kd.R_base ho19) hb); have n1_ := Aside0.mk (Kd.V_elder' (by (with_reducible repeat (first | apply Kd.V_alloc | apply Kd.V_drewN | apply Kd.V_drew)); exact HO_3.out) (Kd.R_base ho19) hb); have n2_ := Aside0.mk (Kd.V_elder' (by (with_reducible repeat (first | apply Kd.V_alloc | apply Kd.V_drewN | apply Kd.V_drew)); exact HO_193001.out) (Kd.R_base ho19) hb); have n3_ := Aside0.mk (Kd.R_lower (Kd.R_newM (M := fun k_ => (w.heap.size ≤ k_)) ho19 (below_size (by repeat (first | (with_reducible first | exact HB.out | apply below_alloc | apply pw_below_drewN | apply below_drew1 | refine below_set ?_ GE192.out) | exact HB.out))) (fun k_ h_ => h_)) (below_size (by repeat (first | (with_reducible first | exact HB.out | apply below_alloc | apply pw_below_drewN | apply below_drew1 | refine below_set ?_ GE192.out) | exact HB.out)))); have n4_ := Aside0.mk (blk_below (g := gb192) (o := .cells #[.int .i64 a0_0, .slice Ao12 t193.length co12] 30 (0, 0)) (by (with_reducible repeat (first | refine blk_drewN ?_ _ | refine blk_drew ?_ | refine blk_alloc ?_ _)); exact BK192.out) hb); have n5_ := Aside0.mk (below_step (by repeat (first | (with_reducible first | exact HB.out | apply below_alloc | apply pw_below_drewN | apply below_drew1 | refine below_set ?_ GE192.out) | exact HB.out)) hb); clear HO_2; clear HO_3; clear HO_193001; clear BK192; clear HB; have HO_2 := n0_; have HO_3 := n1_; have HO_193001 := n2_; have HO206 := n3_; have BK192 := n4_; have HB := n5_; clear n0_ n1_ n2_ n3_ n4_ n5_; clear hb ho19))
      go_loopg [9, 10] kj6 (fun kq v9 v10 w' => ∃ (x9_2 : List (S35)) (x10_2 : Int), v10 = .int .i64 x10_2 ∧ Aside0 (deadeyelaw17_PlanSources.l0 kq a1 x2_6 t196 x9_2 x10_2 a0_0 t193 = some r) ∧ Aside0 (kq ≤ kj6) ∧ Aside0 (Kd.V k26 26 w' w.heap.size (fun k_ => ((P0_1_ k_ ∨ P2_ k_ ∨ P3_ k_) ∨ w.heap.size ≤ k_) ∧ some k_ ≠ (v9 : Value).ownBlock ∧ k_ ≠ gb192) u2 x2_6) ∧ Aside0 (Kd.V (Kd.int .i64) 3 w' w.heap.size (fun k_ => ((P0_1_ k_ ∨ P2_ k_ ∨ P3_ k_) ∨ w.heap.size ≤ k_) ∧ some k_ ≠ (v9 : Value).ownBlock ∧ k_ ≠ gb192) v197 t196) ∧ Aside0 (Kd.R k35 35 w' w.heap.size (fun k_ => (w.heap.size ≤ k_)) v9 x9_2) ∧ Aside0 (Kd.V (Kd.int .i64) 3 w' w.heap.size (fun k_ => ((P0_1_ k_ ∨ P2_ k_ ∨ P3_ k_) ∨ w.heap.size ≤ k_) ∧ some k_ ≠ (v9 : Value).ownBlock ∧ k_ ≠ gb192) (.slice Ao12 t193.length co12) t193) ∧ Aside0 (w'.heap[gb192]? = some (.cells #[.int .i64 a0_0, (.slice Ao12 t193.length co12)] 30 (0, 0))) ∧ Aside0 (Below w.heap.size w w'))
      case atStart => exact ⟨(y204), (0), (by first | rfl | (simp; done) | (simp [*]; done)), H', ⟨Nat.le_refl _⟩, ⟨by (with_reducible repeat (first | apply Kd.V_alloc | apply Kd.V_drewN | apply Kd.V_drew)); exact Kd.V_mono HO_2.out (fun _ hk => ⟨hk.1.1, ⟨hk.2, hk.1.2⟩⟩)⟩, ⟨by (with_reducible repeat (first | apply Kd.V_alloc | apply Kd.V_drewN | apply Kd.V_drew)); exact Kd.V_mono HO_3.out (fun _ hk => ⟨hk.1.1, ⟨hk.2, hk.1.2⟩⟩)⟩, ⟨by (with_reducible repeat (first | apply Kd.R_alloc | apply Kd.R_drewN | apply Kd.R_drew)); exact Kd.R_mono HO206.out (fun _ hk => hk.1)⟩, ⟨by (with_reducible repeat (first | apply Kd.V_alloc | apply Kd.V_drewN | apply Kd.V_drew)); exact Kd.V_mono HO_193001.out (fun _ hk => ⟨hk.1.1, ⟨hk.2, hk.1.2⟩⟩)⟩, ⟨by (with_reducible repeat (first | refine blk_drewN ?_ _ | refine blk_drew ?_ | refine blk_alloc ?_ _)); exact BK192.out⟩, ⟨by repeat (first | (with_reducible first | exact HB.out | apply below_alloc | apply pw_below_drewN | apply below_drew1 | refine below_set ?_ GE192.out) | exact HB.out)⟩⟩
      case round =>
        clear H'
        try clear c1
        try clear q1
        try clear c2
        try clear p2
        try clear c3
        try clear c4
        try clear c14
        try clear c15
        try clear c15b0
        try clear c15b1
        try clear c16
        try clear c16b0
        try clear c16b1
        try clear q17
        try clear hcz13_0
        try clear hcz13_1
        try clear hcz9_0
        try clear hcz9_1
        try clear hfz13_0
        try clear hfz13_1
        try clear hfz9_0
        try clear hfz9_1
        try clear p2
        try clear q1
        try clear q17
        obtain ⟨x9_2, x10_2, rfl, HA, HK2, HO_2, HO_3, HO_9, HO_193001, BK192, HB⟩ := hrel
        cases gk with
        | zero => exact absurd HA.out (by simp [deadeyelaw17_PlanSources.l0])
        | succ k2 =>
          have H := HA.out
          clear HA
          simp only [deadeyelaw17_PlanSources.l0] at H
          by_cases c20 : x10_2 < (t193.length : Int)
          · rw [if_pos c20] at H
            have c20b0 : decide (x10_2 < (t193.length : Int)) = true := decide_eq_true c20
            clear c20
            by_cases c21 : 0 ≤ x10_2
            · rw [if_pos c21] at H
              have c21b0 : decide (0 ≤ x10_2) = true := decide_eq_true c21
              clear c21
              replace H := Option.bind_eq_some_iff.mp H
              obtain ⟨t208, A220, H⟩ := H
              replace H : (if t208 = true then (if x9_2.length < 8796093022208 then (deadeyelaw17_PlanSources.l0 k2 a1 x2_6 t196 (x9_2 ++ [(⟨rd t193 x10_2, x10_2⟩ : S35)]) (wrap64 (x10_2 + 1)) a0_0 t193) else (none)) else (deadeyelaw17_PlanSources.l0 k2 a1 x2_6 t196 x9_2 (wrap64 (x10_2 + 1)) a0_0 t193)) = some r := H
              have A22 := Aside0.mk A220
              clear A220
              by_cases c23 : t208 = true
              · subst c23
                have H1 : (if x9_2.length < 8796093022208 then (deadeyelaw17_PlanSources.l0 k2 a1 x2_6 t196 (x9_2 ++ [(⟨rd t193 x10_2, x10_2⟩ : S35)]) (wrap64 (x10_2 + 1)) a0_0 t193) else (none)) = some r := by rw [if_pos rfl] at H; exact H
                clear H
                have H := H1
                clear H1
                by_cases c24 : x9_2.length < 8796093022208
                · rw [if_pos c24] at H
                  have LMc24 := Aside0.mk c24
                  clear c24
                  obtain ⟨y210, hy210⟩ : ∃ y_ : List (S35), y_ = (x9_2 ++ [(⟨rd t193 x10_2, x10_2⟩ : S35)]) := ⟨_, rfl⟩
                  replace H : (deadeyelaw17_PlanSources.l0 k2 a1 x2_6 t196 y210 (wrap64 (x10_2 + 1)) a0_0 t193) = some r := by first | (rw [hy210]; with_reducible exact H) | (have H2_ := (Option.bind_some _ _).symm.trans H; rw [hy210]; with_reducible exact H2_) | (have H2_ := (Option.bind_some _ _).symm.trans H; with_reducible exact H2_) | with_reducible exact H | (rw [hy210]; exact H) | exact H
                  have Ny210 := Aside0.mk hy210
                  clear hy210
                  have H' := Aside0.mk H
                  clear H
                  have hcz25_0 : wr.cell? ⟨gb192, 0, none⟩ = some (.int .i64 a0_0) := (blk_cell BK192.out 0).trans rfl
                  have hcz25_1 : wr.cell? ⟨gb192, 1, none⟩ = some (.slice Ao12 t193.length co12) := (blk_cell BK192.out 1).trans rfl
                  have hfz25_0 := blk_frozen BK192.out 0
                  have hfz25_1 := blk_frozen BK192.out 1
                  have p207 : 0 ≤ (x10_2 : Int) := of_decide_eq_true (by first | (with_reducible assumption) | assumption)
                  have q207 : x10_2 < (t193.length : Int) := of_decide_eq_true (by first | (with_reducible assumption) | assumption)
                  obtain ⟨ad207, e207, hx207_0⟩ := Kd.at_int (Kd.V_reads' HO_193001.out).2.2 x10_2 p207 q207
                  cases e207
                  replace p207 := eq_true p207
                  replace q207 := eq_true q207
                  obtain ⟨Ao26, co26, eo26⟩ := Kd.V_slice HO_2.out
                  subst eo26
                  go_wp2_with (first | ((with_reducible refine gate_callee (f := 15) rfl ?_); refine goesL_ (some 41) rfl rfl Try.func15 (by kernel_rfl) rfl #[.slice Ao26 x2_6.length co26, .int .i64 (rd t193 x10_2)] rfl (by (try simp only [List.map_toArray, List.map_cons, List.map_nil]); first | done | rfl | (simp only [List.length_drop, List.length_take]; rfl)) ?_; (with_reducible refine (deadeyelaw17_told.calls k2 _ _ x2_6 (rd t193 x10_2) true _ ?side1 ?side2 A22.out).mono ?_); (case side1 => repeat (first | exact (Kd.V_reads' HO_2.out).2.2 | (with_reducible refine Kd.C_alloc ?_ _) | (with_reducible refine Kd.C_drewN ?_ _) | (with_reducible refine Kd.C_drew ?_))); (case side2 => exact (Kd.V_reads' HO_2.out).2.1); rintro e w' ⟨rfl, ⟨nd, rfl⟩⟩; refine ⟨_, rfl, ?_⟩; have p209 : 0 ≤ (x10_2 : Int) := of_decide_eq_true (by first | (with_reducible assumption) | assumption); have q209 : x10_2 < (t193.length : Int) := of_decide_eq_true (by first | (with_reducible assumption) | assumption); obtain ⟨ad209, e209, hx209_0⟩ := Kd.at_int (Kd.V_reads' HO_193001.out).2.2 x10_2 p209 q209; obtain rfl : ad207 = ad209 := (by injection e209); replace p209 := eq_true p209; replace q209 := eq_true q209) | ((with_reducible refine gate_builtin (b := .append) (xs := #[.tmp 42, .tmp 50]) rfl ?_); at_builtin; refine Kd.R_append k35 (w0 := w) w.heap.size rfl (.tmp 42) (.tmp 50) 32 35 (.agg #[(.int .i64 0), (.int .i64 0)]) 16 rfl Try.underlying32 info35 rfl (by decide) (by omega) u9 x9_2 (⟨rd t193 x10_2, x10_2⟩ : S35) [.int .i64 (rd t193 x10_2), .int .i64 x10_2] (fun k_ => (w.heap.size ≤ k_)) (fun _ => False) rfl rfl ?aP (fun _ hk => hk.elim) ?aF ?aO ?aB ?aS ?aL ?_; (case aP => exact k35_mkM _ _ _ (⟨rd t193 x10_2, x10_2⟩ : S35)); (case aB => exact (by repeat (first | (with_reducible first | exact HB.out | apply below_alloc | apply pw_below_drewN | apply below_drew1 | refine below_set ?_ GE192.out) | exact HB.out))); (case aF => exact (fun k_ hk => (Nat.le_trans (below_size (by repeat (first | (with_reducible first | exact HB.out | apply below_alloc | apply pw_below_drewN | apply below_drew1 | refine below_set ?_ GE192.out) | exact HB.out))) hk))); (case aO => exact (by (with_reducible repeat (first | apply Kd.R_alloc | apply Kd.R_drewN | apply Kd.R_drew)); exact HO_9.out)); (case aS => exact (below_size (by repeat (first | (with_reducible first | exact HB.out | apply below_alloc | apply pw_below_drewN | apply below_drew1 | refine below_set ?_ GE192.out) | exact HB.out)))); (case aL => have := LMc24.out; omega); intro v211 w27 ho hb hg hat; rw [← Ny210.out] at ho; have n0_ := Aside0.mk (Kd.V_afterv (ok := (fun k_ => ((P0_1_ k_ ∨ P2_ k_ ∨ P3_ k_) ∨ w.heap.size ≤ k_) ∧ k_ ≠ gb192)) (by (with_reducible repeat (first | apply Kd.V_alloc | apply Kd.V_drewN | apply Kd.V_drew)); exact Kd.V_mono HO_2.out (fun _ hk => ⟨⟨hk.1, hk.2.2⟩, hk.2.1⟩)) hg hat); have n1_ := Aside0.mk (Kd.V_afterv (ok := (fun k_ => ((P0_1_ k_ ∨ P2_ k_ ∨ P3_ k_) ∨ w.heap.size ≤ k_) ∧ k_ ≠ gb192)) (by (with_reducible repeat (first | apply Kd.V_alloc | apply Kd.V_drewN | apply Kd.V_drew)); exact Kd.V_mono HO_3.out (fun _ hk => ⟨⟨hk.1, hk.2.2⟩, hk.2.1⟩)) hg hat); have n2_ := Aside0.mk (Kd.V_afterv (ok := (fun k_ => ((P0_1_ k_ ∨ P2_ k_ ∨ P3_ k_) ∨ w.heap.size ≤ k_) ∧ k_ ≠ gb192)) (by (with_reducible repeat (first | apply Kd.V_alloc | apply Kd.V_drewN | apply Kd.V_drew)); exact Kd.V_mono HO_193001.out (fun _ hk => ⟨⟨hk.1, hk.2.2⟩, hk.2.1⟩)) hg hat); have n3_ := Aside0.mk (blk_grown (g := gb192) (o := .cells #[.int .i64 a0_0, .slice (some ad207) t193.length co12] 30 (0, 0)) (by (with_reducible repeat (first | refine blk_drewN ?_ _ | refine blk_drew ?_ | refine blk_alloc ?_ _)); exact BK192.out) hg (Kd.R_ne HO_9.out BK192.out (by decide))); have n4_ := Aside0.mk (hb); have n5_ := Aside0.mk (ho); clear HO_2; clear HO_3; clear HO_193001; clear BK192; clear HB; clear HO_9; have HO_2 := n0_; have HO_3 := n1_; have HO_193001 := n2_; have BK192 := n3_; have HB := n4_; have HO212 := n5_; clear n0_ n1_ n2_ n3_ n4_ n5_; clear ho hb hg hat))
                  go_roundg k2
                  case measure => have := HJ6.out; have := HK2.out; omega
                  case rel => exact ⟨(y210), (wrap64 (x10_2 + 1)), (by first | rfl | (simp; done) | (simp [*]; done)), H', ⟨by have := HJ6.out; have := HK2.out; omega⟩, ⟨by (with_reducible repeat (first | apply Kd.V_alloc | apply Kd.V_drewN | apply Kd.V_drew)); exact Kd.V_mono HO_2.out (fun _ hk => ⟨hk.1.1, ⟨hk.2, hk.1.2⟩⟩)⟩, ⟨by (with_reducible repeat (first | apply Kd.V_alloc | apply Kd.V_drewN | apply Kd.V_drew)); exact Kd.V_mono HO_3.out (fun _ hk => ⟨hk.1.1, ⟨hk.2, hk.1.2⟩⟩)⟩, ⟨by (with_reducible repeat (first | apply Kd.R_alloc | apply Kd.R_drewN | apply Kd.R_drew)); exact HO212.out⟩, ⟨by (with_reducible repeat (first | apply Kd.V_alloc | apply Kd.V_drewN | apply Kd.V_drew)); exact Kd.V_mono HO_193001.out (fun _ hk => ⟨hk.1.1, ⟨hk.2, hk.1.2⟩⟩)⟩, ⟨by (with_reducible repeat (first | refine blk_drewN ?_ _ | refine blk_drew ?_ | refine blk_alloc ?_ _)); exact BK192.out⟩, ⟨by repeat (first | (with_reducible first | exact HB.out | apply below_alloc | apply pw_below_drewN | apply below_drew1 | refine below_set ?_ GE192.out) | exact HB.out)⟩⟩
                · rw [if_neg c24] at H
                  exact absurd H (by simp)
              · replace c23 := Bool.eq_false_iff.mpr c23
                subst c23
                have H1 : (deadeyelaw17_PlanSources.l0 k2 a1 x2_6 t196 x9_2 (wrap64 (x10_2 + 1)) a0_0 t193) = some r := by rw [if_neg (show ¬ (false = true) by decide)] at H; exact H
                clear H
                have H := H1
                clear H1
                have H' := Aside0.mk H
                clear H
                have hcz28_0 : wr.cell? ⟨gb192, 0, none⟩ = some (.int .i64 a0_0) := (blk_cell BK192.out 0).trans rfl
                have hcz28_1 : wr.cell? ⟨gb192, 1, none⟩ = some (.slice Ao12 t193.length co12) := (blk_cell BK192.out 1).trans rfl
                have hfz28_0 := blk_frozen BK192.out 0
                have hfz28_1 := blk_frozen BK192.out 1
                have p207 : 0 ≤ (x10_2 : Int) := of_decide_eq_true (by first | (with_reducible assumption) | assumption)
                have q207 : x10_2 < (t193.length : Int) := of_decide_eq_true (by first | (with_reducible assumption) | assumption)
                obtain ⟨ad207, e207, hx207_0⟩ := Kd.at_int (Kd.V_reads' HO_193001.out).2.2 x10_2 p207 q207
                cases e207
                replace p207 := eq_true p207
                replace q207 := eq_true q207
                obtain ⟨Ao29, co29, eo29⟩ := Kd.V_slice HO_2.out
                subst eo29
                go_wp2_with (first | ((with_reducible refine gate_callee (f := 15) rfl ?_); refine goesL_ (some 41) rfl rfl Try.func15 (by kernel_rfl) rfl #[.slice Ao29 x2_6.length co29, .int .i64 (rd t193 x10_2)] rfl (by (try simp only [List.map_toArray, List.map_cons, List.map_nil]); first | done | rfl | (simp only [List.length_drop, List.length_take]; rfl)) ?_; (with_reducible refine (deadeyelaw17_told.calls k2 _ _ x2_6 (rd t193 x10_2) false _ ?side1 ?side2 A22.out).mono ?_); (case side1 => repeat (first | exact (Kd.V_reads' HO_2.out).2.2 | (with_reducible refine Kd.C_alloc ?_ _) | (with_reducible refine Kd.C_drewN ?_ _) | (with_reducible refine Kd.C_drew ?_))); (case side2 => exact (Kd.V_reads' HO_2.out).2.1); rintro e w' ⟨rfl, ⟨nd, rfl⟩⟩; refine ⟨_, rfl, ?_⟩))
                go_roundg k2
                case measure => have := HJ6.out; have := HK2.out; omega
                case rel => exact ⟨(x9_2), (wrap64 (x10_2 + 1)), (by first | rfl | (simp; done) | (simp [*]; done)), H', ⟨by have := HJ6.out; have := HK2.out; omega⟩, ⟨by (with_reducible repeat (first | apply Kd.V_alloc | apply Kd.V_drewN | apply Kd.V_drew)); exact HO_2.out⟩, ⟨by (with_reducible repeat (first | apply Kd.V_alloc | apply Kd.V_drewN | apply Kd.V_drew)); exact HO_3.out⟩, ⟨by (with_reducible repeat (first | apply Kd.R_alloc | apply Kd.R_drewN | apply Kd.R_drew)); exact HO_9.out⟩, ⟨by (with_reducible repeat (first | apply Kd.V_alloc | apply Kd.V_drewN | apply Kd.V_drew)); exact HO_193001.out⟩, ⟨by (with_reducible repeat (first | refine blk_drewN ?_ _ | refine blk_drew ?_ | refine blk_alloc ?_ _)); exact BK192.out⟩, ⟨by repeat (first | (with_reducible first | exact HB.out | apply below_alloc | apply pw_below_drewN | apply below_drew1 | refine below_set ?_ GE192.out) | exact HB.out)⟩⟩
            · rw [if_neg c21] at H
              exact absurd H (by simp)
          · rw [if_neg c20] at H
            have c20b0 : decide (x10_2 < (t193.length : Int)) = false := decide_eq_false c20
            clear c20
            replace H := Option.bind_eq_some_iff.mp H
            obtain ⟨t213, A300, H⟩ := H
            replace H : (if (t213.length : Int) = (x9_2.length : Int) then (deadeyelaw17_PlanSources.l1 k2 a1 x2_6 t196 x9_2 t213 0 a0_0 t193) else (some false)) = some r := H
            have A30 := Aside0.mk A300
            clear A300
            by_cases c31 : (t213.length : Int) = (x9_2.length : Int)
            · rw [if_pos c31] at H
              have c31b0 : ((t213.length : Int) == (x9_2.length : Int)) = true := beq_iff_eq.mpr c31
              have c31b1 : ((t213.length : Int) != (x9_2.length : Int)) = false := bne_eq_false_iff_eq.mpr c31
              have c31b2 : (t213.length == x9_2.length) = true := by first | simpa using c31 | (simp at c31 ⊢; omega)
              clear c31
              have H' := Aside0.mk H
              clear H
              have hcz32_0 : wr.cell? ⟨gb192, 0, none⟩ = some (.int .i64 a0_0) := (blk_cell BK192.out 0).trans rfl
              have hcz32_1 : wr.cell? ⟨gb192, 1, none⟩ = some (.slice Ao12 t193.length co12) := (blk_cell BK192.out 1).trans rfl
              have hfz32_0 := blk_frozen BK192.out 0
              have hfz32_1 := blk_frozen BK192.out 1
              obtain ⟨Ao33, co33, eo33⟩ := Kd.V_slice HO_2.out
              subst eo33
              go_wp2_with (first | ((with_reducible refine gate_callee (f := 16) rfl ?_); refine goesL_ (some 54) rfl rfl Try.func16 (by kernel_rfl) rfl #[.agg #[.int .i64 a0_0, .slice Ao12 t193.length co12], .slice Ao33 x2_6.length co33] rfl (by (try simp only [List.map_toArray, List.map_cons, List.map_nil]); first | done | rfl | (simp only [List.length_drop, List.length_take]; rfl)) ?_; (with_reducible refine (plan_Sources.calls k2 a0_0 _ _ t193 _ _ x2_6 t213 _ ?side1 ?side2 ?side3 ?side4 A30.out).mono ?_); (case side1 => repeat (first | exact (Kd.V_reads' HO_193001.out).2.2 | (with_reducible refine Kd.C_alloc ?_ _) | (with_reducible refine Kd.C_drewN ?_ _) | (with_reducible refine Kd.C_drew ?_))); (case side2 => exact (Kd.V_reads' HO_193001.out).2.1); (case side3 => repeat (first | exact (Kd.V_reads' HO_2.out).2.2 | (with_reducible refine Kd.C_alloc ?_ _) | (with_reducible refine Kd.C_drewN ?_ _) | (with_reducible refine Kd.C_drew ?_))); (case side4 => exact (Kd.V_reads' HO_2.out).2.1); rintro e w34 ⟨v214, rfl, ho0, hb⟩; refine ⟨_, rfl, ?_⟩; have n0_ := Aside0.mk (Kd.V_elder' (by (with_reducible repeat (first | apply Kd.V_alloc | apply Kd.V_drewN | apply Kd.V_drew)); exact HO_2.out) (Kd.R_base ho0) hb); have n1_ := Aside0.mk (Kd.V_elder' (by (with_reducible repeat (first | apply Kd.V_alloc | apply Kd.V_drewN | apply Kd.V_drew)); exact HO_3.out) (Kd.R_base ho0) hb); have n2_ := Aside0.mk (Kd.R_elder' (by (with_reducible repeat (first | apply Kd.R_alloc | apply Kd.R_drewN | apply Kd.R_drew)); exact HO_9.out) (Kd.R_base ho0) hb); have n3_ := Aside0.mk (Kd.V_elder' (by (with_reducible repeat (first | apply Kd.V_alloc | apply Kd.V_drewN | apply Kd.V_drew)); exact HO_193001.out) (Kd.R_base ho0) hb); have n4_ := Aside0.mk (Kd.R_lower (Kd.R_new' (Kd.R_newM (M := fun k_ => (w.heap.size ≤ k_)) ho0 (below_size (by repeat (first | (with_reducible first | exact HB.out | apply below_alloc | apply pw_below_drewN | apply below_drew1 | refine below_set ?_ GE192.out) | exact HB.out))) (fun k_ h_ => h_)) (Kd.R_lt (by (with_reducible repeat (first | apply Kd.R_alloc | apply Kd.R_drewN | apply Kd.R_drew)); exact HO_9.out))) (below_size (by repeat (first | (with_reducible first | exact HB.out | apply below_alloc | apply pw_below_drewN | apply below_drew1 | refine below_set ?_ GE192.out) | exact HB.out)))); have n5_ := Aside0.mk (blk_below (g := gb192) (o := .cells #[.int .i64 a0_0, .slice Ao12 t193.length co12] 30 (0, 0)) (by (with_reducible repeat (first | refine blk_drewN ?_ _ | refine blk_drew ?_ | refine blk_alloc ?_ _)); exact BK192.out) hb); have n6_ := Aside0.mk (below_step (by repeat (first | (with_reducible first | exact HB.out | apply below_alloc | apply pw_below_drewN | apply below_drew1 | refine below_set ?_ GE192.out) | exact HB.out)) hb); clear HO_2; clear HO_3; clear HO_9; clear HO_193001; clear BK192; clear HB; have HO_2 := n0_; have HO_3 := n1_; have HO_9 := n2_; have HO_193001 := n3_; have HO215 := n4_; have BK192 := n5_; have HB := n6_; clear n0_ n1_ n2_ n3_ n4_ n5_ n6_; (try clear hb); (try clear hb2); (try clear hk); (try clear hi); (try clear ho0); obtain ⟨Ao35, co35, eo35⟩ := Kd.R_slice HO215.out; subst eo35; obtain ⟨Ao36, co36, eo36⟩ := Kd.R_slice HO_9.out; subst eo36))
              go_loopg [12] k2 (fun kq v12 w' => ∃ (x12_3 : Int), v12 = .int .i64 x12_3 ∧ Aside0 (deadeyelaw17_PlanSources.l1 kq a1 x2_6 t196 x9_2 t213 x12_3 a0_0 t193 = some r) ∧ Aside0 (kq ≤ k2) ∧ Aside0 (Kd.V k26 26 w' w.heap.size (fun k_ => ((P0_1_ k_ ∨ P2_ k_ ∨ P3_ k_) ∨ w.heap.size ≤ k_) ∧ some k_ ≠ ((.slice Ao36 x9_2.length co36) : Value).ownBlock ∧ some k_ ≠ ((.slice Ao35 t213.length co35) : Value).ownBlock ∧ k_ ≠ gb192) (.slice Ao33 x2_6.length co33) x2_6) ∧ Aside0 (Kd.V (Kd.int .i64) 3 w' w.heap.size (fun k_ => ((P0_1_ k_ ∨ P2_ k_ ∨ P3_ k_) ∨ w.heap.size ≤ k_) ∧ some k_ ≠ ((.slice Ao36 x9_2.length co36) : Value).ownBlock ∧ some k_ ≠ ((.slice Ao35 t213.length co35) : Value).ownBlock ∧ k_ ≠ gb192) v197 t196) ∧ Aside0 (Kd.R k35 35 w' w.heap.size (fun k_ => (w.heap.size ≤ k_) ∧ some k_ ≠ ((.slice Ao35 t213.length co35) : Value).ownBlock) (.slice Ao36 x9_2.length co36) x9_2) ∧ Aside0 (Kd.R k35 35 w' w.heap.size (fun k_ => (w.heap.size ≤ k_) ∧ some k_ ≠ ((.slice Ao36 x9_2.length co36) : Value).ownBlock) (.slice Ao35 t213.length co35) t213) ∧ Aside0 (Kd.V (Kd.int .i64) 3 w' w.heap.size (fun k_ => ((P0_1_ k_ ∨ P2_ k_ ∨ P3_ k_) ∨ w.heap.size ≤ k_) ∧ some k_ ≠ ((.slice Ao36 x9_2.length co36) : Value).ownBlock ∧ some k_ ≠ ((.slice Ao35 t213.length co35) : Value).ownBlock ∧ k_ ≠ gb192) (.slice Ao12 t193.length co12) t193) ∧ Aside0 (w'.heap[gb192]? = some (.cells #[.int .i64 a0_0, (.slice Ao12 t193.length co12)] 30 (0, 0))) ∧ Aside0 (Below w.heap.size w w'))
              case atStart => exact ⟨(0), (by first | rfl | (simp; done) | (simp [*]; done)), H', ⟨Nat.le_refl _⟩, ⟨by (with_reducible repeat (first | apply Kd.V_alloc | apply Kd.V_drewN | apply Kd.V_drew)); exact Kd.V_mono HO_2.out (fun _ hk => ⟨hk.1.1, ⟨hk.1.2.1, ⟨hk.2, hk.1.2.2⟩⟩⟩)⟩, ⟨by (with_reducible repeat (first | apply Kd.V_alloc | apply Kd.V_drewN | apply Kd.V_drew)); exact Kd.V_mono HO_3.out (fun _ hk => ⟨hk.1.1, ⟨hk.1.2.1, ⟨hk.2, hk.1.2.2⟩⟩⟩)⟩, ⟨by (with_reducible repeat (first | apply Kd.R_alloc | apply Kd.R_drewN | apply Kd.R_drew)); exact HO_9.out⟩, ⟨by (with_reducible repeat (first | apply Kd.R_alloc | apply Kd.R_drewN | apply Kd.R_drew)); exact Kd.R_mono HO215.out (fun _ hk => ⟨hk.1.1, hk.2⟩)⟩, ⟨by (with_reducible repeat (first | apply Kd.V_alloc | apply Kd.V_drewN | apply Kd.V_drew)); exact Kd.V_mono HO_193001.out (fun _ hk => ⟨hk.1.1, ⟨hk.1.2.1, ⟨hk.2, hk.1.2.2⟩⟩⟩)⟩, ⟨by (with_reducible repeat (first | refine blk_drewN ?_ _ | refine blk_drew ?_ | refine blk_alloc ?_ _)); exact BK192.out⟩, ⟨by repeat (first | (with_reducible first | exact HB.out | apply below_alloc | apply pw_below_drewN | apply below_drew1 | refine below_set ?_ GE192.out) | exact HB.out)⟩⟩
              case round =>
                clear H'
                try clear c1
                try clear q1
                try clear c2
                try clear p2
                try clear q2
                try clear hx2
                try clear c3
                try clear c4
                try clear p6
                try clear c14
                try clear c15
                try clear c15b0
                try clear c15b1
                try clear c16
                try clear c16b0
                try clear c16b1
                try clear q17
                try clear c20
                try clear c20b0
                try clear p20
                try clear q20
                try clear hx20
                try clear c21
                try clear c21b0
                try clear c23
                try clear c24
                try clear c31
                try clear c31b0
                try clear c31b1
                try clear c31b2
                try clear hcz13_0
                try clear hcz13_1
                try clear hcz25_0
                try clear hcz25_1
                try clear hcz28_0
                try clear hcz28_1
                try clear hcz32_0
                try clear hcz32_1
                try clear hcz9_0
                try clear hcz9_1
                try clear hfz13_0
                try clear hfz13_1
                try clear hfz25_0
                try clear hfz25_1
                try clear hfz28_0
                try clear hfz28_1
                try clear hfz32_0
                try clear hfz32_1
                try clear hfz9_0
                try clear hfz9_1
                try clear hx207_0
                try clear hx209_0
                try clear p2
                try clear p207
                try clear p209
                try clear q1
                try clear q17
                try clear q207
                try clear q209
                obtain ⟨x12_3, rfl, HA, HK3, HO_2, HO_3, HO_9, HO_11, HO_193001, BK192, HB⟩ := hrel
                cases gk with
                | zero => exact absurd HA.out (by simp [deadeyelaw17_PlanSources.l1])
                | succ k3 =>
                  have H := HA.out
                  clear HA
                  simp only [deadeyelaw17_PlanSources.l1] at H
                  by_cases c37 : x12_3 < (t213.length : Int)
                  · rw [if_pos c37] at H
                    have c37b0 : decide (x12_3 < (t213.length : Int)) = true := decide_eq_true c37
                    clear c37
                    by_cases c38 : 0 ≤ x12_3
                    · rw [if_pos c38] at H
                      have c38b0 : decide (0 ≤ x12_3) = true := decide_eq_true c38
                      clear c38
                      by_cases c39 : x12_3 < (x9_2.length : Int)
                      · rw [if_pos c39] at H
                        have c39b0 : decide (x12_3 < (x9_2.length : Int)) = true := decide_eq_true c39
                        clear c39
                        by_cases c40 : (!(((rd_T35 t213 x12_3).f0) == ((rd_T35 x9_2 x12_3).f0)) || (!(((rd_T35 t213 x12_3).f1) == ((rd_T35 x9_2 x12_3).f1)))) = true
                        · rw [if_pos c40] at H
                          have c40b0 : (!(((rd_T35 t213 x12_3).f0) == ((rd_T35 x9_2 x12_3).f0)) || (!(((rd_T35 t213 x12_3).f1) == ((rd_T35 x9_2 x12_3).f1)))) = true := c40
                          clear c40
                          obtain rfl := Option.some.inj H
                          try go_wp2
                          have n0_ := Aside0.mk (Kd.V_drew HO_2.out)
                          have n1_ := Aside0.mk (Kd.V_drew HO_3.out)
                          have n2_ := Aside0.mk (Kd.R_drew HO_9.out)
                          have n3_ := Aside0.mk (Kd.R_drew HO_11.out)
                          have n4_ := Aside0.mk (Kd.V_drew HO_193001.out)
                          have n5_ := Aside0.mk (blk_drew BK192.out)
                          have n6_ := Aside0.mk (below_drew1 HB.out)
                          clear HO_2
                          clear HO_3
                          clear HO_9
                          clear HO_11
                          clear HO_193001
                          clear BK192
                          clear HB
                          have HO_2 := n0_
                          have HO_3 := n1_
                          have HO_9 := n2_
                          have HO_11 := n3_
                          have HO_193001 := n4_
                          have BK192 := n5_
                          have HB := n6_
                          clear n0_ n1_ n2_ n3_ n4_ n5_ n6_
                          have p216 : 0 ≤ (x12_3 : Int) := of_decide_eq_true (by first | (with_reducible assumption) | assumption)
                          have q216 : x12_3 < (t213.length : Int) := of_decide_eq_true (by first | (with_reducible assumption) | assumption)
                          obtain ⟨ad216, e216, hx216_0, hx216_1⟩ := at_T35 (Kd.R_reads' HO_11.out).2.2 x12_3 p216 q216
                          cases e216
                          replace p216 := eq_true p216
                          replace q216 := eq_true q216
                          have p217 : 0 ≤ (x12_3 : Int) := of_decide_eq_true (by first | (with_reducible assumption) | assumption)
                          have q217 : x12_3 < (x9_2.length : Int) := of_decide_eq_true (by first | (with_reducible assumption) | assumption)
                          obtain ⟨ad217, e217, hx217_0, hx217_1⟩ := at_T35 (Kd.R_reads' HO_9.out).2.2 x12_3 p217 q217
                          cases e217
                          replace p217 := eq_true p217
                          replace q217 := eq_true q217
                          refine start_ (n := 9) (S := fun w' => w'.cell? (ad216.add ((x12_3).toNat * 2)) = some (.int .i64 ((rd_T35 t213 x12_3).f0)) ∧ w'.cell? ⟨(ad216.add ((x12_3).toNat * 2)).block, (ad216.add ((x12_3).toNat * 2)).off + 1, none⟩ = some (.int .i64 ((rd_T35 t213 x12_3).f1)) ∧ w'.cell? (ad217.add ((x12_3).toNat * 2)) = some (.int .i64 ((rd_T35 x9_2 x12_3).f0)) ∧ w'.cell? ⟨(ad217.add ((x12_3).toNat * 2)).block, (ad217.add ((x12_3).toNat * 2)).off + 1, none⟩ = some (.int .i64 ((rd_T35 x9_2 x12_3).f1))) (ds := []) #[false, false, false, false, false, false, false, false, false] (by kernel_rfl) rfl rfl ⟨hx216_0, hx216_1, hx217_0, hx217_1⟩ (fun hHeld => ?_); refine with_tabW deadeyelaw17_PlanSources.tab16 deadeyelaw17_PlanSources.bits16 (fun HT_ HW_ => ?_)
                          generalize wr.drew = w41 at HO_2 HO_3 HO_9 HO_11 HO_193001 BK192 HB hx216_0 hx216_1 hx217_0 hx217_1 hHeld ⊢
                          refine pure_ (i := 0) (N := some 66) (v := ?_) (a' := ?_) #[true, false, false, false, false, false, false, false, false] rfl rfl (any_of HT_.out (by kernel_rfl)) (fun _ _ _ h => h) (Or.inl ⟨by rfl, ?_⟩) ?_ ?_
                          rotate_left
                          · intro w'
                            go_simp
                            with_reducible rfl
                          rotate_left
                          · simp only [Act.put, List.setIfInBounds_toArray, List.set_cons_zero, List.set_cons_succ, i64_w, i32_w]
                            rfl
                          refine pure_ (i := 1) (N := some 67) (v := ?_) (a' := ?_) #[true, true, false, false, false, false, false, false, false] rfl rfl (any_of HT_.out (by kernel_rfl)) (fun _ _ _ h => h) (Or.inl ⟨by rfl, ?_⟩) ?_ ?_
                          rotate_left
                          · intro w'
                            go_simp
                            with_reducible rfl
                          rotate_left
                          · simp only [Act.put, List.setIfInBounds_toArray, List.set_cons_zero, List.set_cons_succ, i64_w, i32_w]
                            rfl
                          refine pure_ (i := 2) (N := some 68) (v := ?_) (a' := ?_) #[true, true, true, false, false, false, false, false, false] rfl rfl (any_of HT_.out (by kernel_rfl)) (fun _ _ _ h => h) (Or.inl ⟨by rfl, ?_⟩) ?_ ?_
                          rotate_left
                          · intro w'
                            go_simp
                            with_reducible rfl
                          rotate_left
                          · simp only [Act.put, List.setIfInBounds_toArray, List.set_cons_zero, List.set_cons_succ, i64_w, i32_w]
                            rfl
                          refine pure_ (i := 4) (N := some 70) (v := ?_) (a' := ?_) #[true, true, true, false, true, false, false, false, false] rfl rfl (any_of HT_.out (by kernel_rfl)) (fun _ _ _ h => h) (Or.inl ⟨by rfl, ?_⟩) ?_ ?_
                          rotate_left
                          · intro w'
                            go_simp
                            with_reducible rfl
                          rotate_left
                          · simp only [Act.put, List.setIfInBounds_toArray, List.set_cons_zero, List.set_cons_succ, i64_w, i32_w]
                            rfl
                          refine pure_ (i := 5) (N := some 71) (v := ?_) (a' := ?_) #[true, true, true, false, true, true, false, false, false] rfl rfl (any_of HT_.out (by kernel_rfl)) (fun _ _ _ h => h) (Or.inl ⟨by rfl, ?_⟩) ?_ ?_
                          rotate_left
                          · intro w'
                            go_simp
                            with_reducible rfl
                          rotate_left
                          · simp only [Act.put, List.setIfInBounds_toArray, List.set_cons_zero, List.set_cons_succ, i64_w, i32_w]
                            rfl
                          refine pure_ (i := 6) (N := some 72) (v := ?_) (a' := ?_) #[true, true, true, false, true, true, true, false, false] rfl rfl (any_of HT_.out (by kernel_rfl)) (fun _ _ _ h => h) (Or.inl ⟨by rfl, ?_⟩) ?_ ?_
                          rotate_left
                          · intro w'
                            go_simp
                            with_reducible rfl
                          rotate_left
                          · simp only [Act.put, List.setIfInBounds_toArray, List.set_cons_zero, List.set_cons_succ, i64_w, i32_w]
                            rfl
                          refine take_ (i := 3) (N := some 69) (v := ?_) (a' := ?_) #[true, true, true, true, true, true, true, false, false] rfl rfl (take_ofW HT_.out HW_.out (by kernel_rfl)) (fun _ _ _ h => h) (Or.inl ⟨by rfl, ?_⟩) hHeld ?_ ?_
                          rotate_left
                          · rintro w' ⟨s0, s1, s2, s3⟩
                            go_simp
                            with_reducible rfl
                          rotate_left
                          · simp only [Act.put, List.setIfInBounds_toArray, List.set_cons_zero, List.set_cons_succ, i64_w, i32_w]
                            rfl
                          refine take_ (i := 7) (N := some 73) (v := ?_) (a' := ?_) #[true, true, true, true, true, true, true, true, false] rfl rfl (take_ofW HT_.out HW_.out (by kernel_rfl)) (fun _ _ _ h => h) (Or.inl ⟨by rfl, ?_⟩) hHeld ?_ ?_
                          rotate_left
                          · rintro w' ⟨s0, s1, s2, s3⟩
                            go_simp
                            with_reducible rfl
                          rotate_left
                          · simp only [Act.put, List.setIfInBounds_toArray, List.set_cons_zero, List.set_cons_succ, i64_w, i32_w]
                            rfl
                          refine pure_ (i := 8) (N := some 74) (v := ?_) (a' := ?_) #[true, true, true, true, true, true, true, true, true] rfl rfl (any_of HT_.out (by kernel_rfl)) (fun _ _ _ h => h) (Or.inl ⟨by rfl, ?_⟩) ?_ ?_
                          rotate_left
                          · intro w'
                            go_simp
                            with_reducible rfl
                          rotate_left
                          · simp only [Act.put, List.setIfInBounds_toArray, List.set_cons_zero, List.set_cons_succ, i64_w, i32_w]
                            rfl
                          refine done_ (done_of HT_.out (by kernel_rfl)) ?_
                          try go_wp2
                          go_ret
                          exact ⟨by first | rfl | (simp [errW_none, errW_some] <;> rfl) | (simp [*, errW_none, errW_some] <;> rfl), by repeat (first | (with_reducible first | exact HB.out | apply below_alloc | apply pw_below_drewN | apply below_drew1 | refine below_set ?_ GE192.out) | exact HB.out)⟩
                        · rw [if_neg c40] at H
                          have c40b0 : (!(((rd_T35 t213 x12_3).f0) == ((rd_T35 x9_2 x12_3).f0)) || (!(((rd_T35 t213 x12_3).f1) == ((rd_T35 x9_2 x12_3).f1)))) = false := by simpa using c40
                          clear c40
                          have H' := Aside0.mk H
                          clear H
                          try go_wp2
                          have n0_ := Aside0.mk (Kd.V_drew HO_2.out)
                          have n1_ := Aside0.mk (Kd.V_drew HO_3.out)
                          have n2_ := Aside0.mk (Kd.R_drew HO_9.out)
                          have n3_ := Aside0.mk (Kd.R_drew HO_11.out)
                          have n4_ := Aside0.mk (Kd.V_drew HO_193001.out)
                          have n5_ := Aside0.mk (blk_drew BK192.out)
                          have n6_ := Aside0.mk (below_drew1 HB.out)
                          clear HO_2
                          clear HO_3
                          clear HO_9
                          clear HO_11
                          clear HO_193001
                          clear BK192
                          clear HB
                          have HO_2 := n0_
                          have HO_3 := n1_
                          have HO_9 := n2_
                          have HO_11 := n3_
                          have HO_193001 := n4_
                          have BK192 := n5_
                          have HB := n6_
                          clear n0_ n1_ n2_ n3_ n4_ n5_ n6_
                          have p216 : 0 ≤ (x12_3 : Int) := of_decide_eq_true (by first | (with_reducible assumption) | assumption)
                          have q216 : x12_3 < (t213.length : Int) := of_decide_eq_true (by first | (with_reducible assumption) | assumption)
                          obtain ⟨ad216, e216, hx216_0, hx216_1⟩ := at_T35 (Kd.R_reads' HO_11.out).2.2 x12_3 p216 q216
                          cases e216
                          replace p216 := eq_true p216
                          replace q216 := eq_true q216
                          have p217 : 0 ≤ (x12_3 : Int) := of_decide_eq_true (by first | (with_reducible assumption) | assumption)
                          have q217 : x12_3 < (x9_2.length : Int) := of_decide_eq_true (by first | (with_reducible assumption) | assumption)
                          obtain ⟨ad217, e217, hx217_0, hx217_1⟩ := at_T35 (Kd.R_reads' HO_9.out).2.2 x12_3 p217 q217
                          cases e217
                          replace p217 := eq_true p217
                          replace q217 := eq_true q217
                          refine start_ (n := 9) (S := fun w' => w'.cell? (ad216.add ((x12_3).toNat * 2)) = some (.int .i64 ((rd_T35 t213 x12_3).f0)) ∧ w'.cell? ⟨(ad216.add ((x12_3).toNat * 2)).block, (ad216.add ((x12_3).toNat * 2)).off + 1, none⟩ = some (.int .i64 ((rd_T35 t213 x12_3).f1)) ∧ w'.cell? (ad217.add ((x12_3).toNat * 2)) = some (.int .i64 ((rd_T35 x9_2 x12_3).f0)) ∧ w'.cell? ⟨(ad217.add ((x12_3).toNat * 2)).block, (ad217.add ((x12_3).toNat * 2)).off + 1, none⟩ = some (.int .i64 ((rd_T35 x9_2 x12_3).f1))) (ds := []) #[false, false, false, false, false, false, false, false, false] (by kernel_rfl) rfl rfl ⟨hx216_0, hx216_1, hx217_0, hx217_1⟩ (fun hHeld => ?_); refine with_tabW deadeyelaw17_PlanSources.tab16 deadeyelaw17_PlanSources.bits16 (fun HT_ HW_ => ?_)
                          generalize wr.drew = w42 at HO_2 HO_3 HO_9 HO_11 HO_193001 BK192 HB hx216_0 hx216_1 hx217_0 hx217_1 hHeld ⊢
                          refine pure_ (i := 0) (N := some 66) (v := ?_) (a' := ?_) #[true, false, false, false, false, false, false, false, false] rfl rfl (any_of HT_.out (by kernel_rfl)) (fun _ _ _ h => h) (Or.inl ⟨by rfl, ?_⟩) ?_ ?_
                          rotate_left
                          · intro w'
                            go_simp
                            with_reducible rfl
                          rotate_left
                          · simp only [Act.put, List.setIfInBounds_toArray, List.set_cons_zero, List.set_cons_succ, i64_w, i32_w]
                            rfl
                          refine pure_ (i := 1) (N := some 67) (v := ?_) (a' := ?_) #[true, true, false, false, false, false, false, false, false] rfl rfl (any_of HT_.out (by kernel_rfl)) (fun _ _ _ h => h) (Or.inl ⟨by rfl, ?_⟩) ?_ ?_
                          rotate_left
                          · intro w'
                            go_simp
                            with_reducible rfl
                          rotate_left
                          · simp only [Act.put, List.setIfInBounds_toArray, List.set_cons_zero, List.set_cons_succ, i64_w, i32_w]
                            rfl
                          refine pure_ (i := 2) (N := some 68) (v := ?_) (a' := ?_) #[true, true, true, false, false, false, false, false, false] rfl rfl (any_of HT_.out (by kernel_rfl)) (fun _ _ _ h => h) (Or.inl ⟨by rfl, ?_⟩) ?_ ?_
                          rotate_left
                          · intro w'
                            go_simp
                            with_reducible rfl
                          rotate_left
                          · simp only [Act.put, List.setIfInBounds_toArray, List.set_cons_zero, List.set_cons_succ, i64_w, i32_w]
                            rfl
                          refine pure_ (i := 4) (N := some 70) (v := ?_) (a' := ?_) #[true, true, true, false, true, false, false, false, false] rfl rfl (any_of HT_.out (by kernel_rfl)) (fun _ _ _ h => h) (Or.inl ⟨by rfl, ?_⟩) ?_ ?_
                          rotate_left
                          · intro w'
                            go_simp
                            with_reducible rfl
                          rotate_left
                          · simp only [Act.put, List.setIfInBounds_toArray, List.set_cons_zero, List.set_cons_succ, i64_w, i32_w]
                            rfl
                          refine pure_ (i := 5) (N := some 71) (v := ?_) (a' := ?_) #[true, true, true, false, true, true, false, false, false] rfl rfl (any_of HT_.out (by kernel_rfl)) (fun _ _ _ h => h) (Or.inl ⟨by rfl, ?_⟩) ?_ ?_
                          rotate_left
                          · intro w'
                            go_simp
                            with_reducible rfl
                          rotate_left
                          · simp only [Act.put, List.setIfInBounds_toArray, List.set_cons_zero, List.set_cons_succ, i64_w, i32_w]
                            rfl
                          refine pure_ (i := 6) (N := some 72) (v := ?_) (a' := ?_) #[true, true, true, false, true, true, true, false, false] rfl rfl (any_of HT_.out (by kernel_rfl)) (fun _ _ _ h => h) (Or.inl ⟨by rfl, ?_⟩) ?_ ?_
                          rotate_left
                          · intro w'
                            go_simp
                            with_reducible rfl
                          rotate_left
                          · simp only [Act.put, List.setIfInBounds_toArray, List.set_cons_zero, List.set_cons_succ, i64_w, i32_w]
                            rfl
                          refine take_ (i := 3) (N := some 69) (v := ?_) (a' := ?_) #[true, true, true, true, true, true, true, false, false] rfl rfl (take_ofW HT_.out HW_.out (by kernel_rfl)) (fun _ _ _ h => h) (Or.inl ⟨by rfl, ?_⟩) hHeld ?_ ?_
                          rotate_left
                          · rintro w' ⟨s0, s1, s2, s3⟩
                            go_simp
                            with_reducible rfl
                          rotate_left
                          · simp only [Act.put, List.setIfInBounds_toArray, List.set_cons_zero, List.set_cons_succ, i64_w, i32_w]
                            rfl
                          refine take_ (i := 7) (N := some 73) (v := ?_) (a' := ?_) #[true, true, true, true, true, true, true, true, false] rfl rfl (take_ofW HT_.out HW_.out (by kernel_rfl)) (fun _ _ _ h => h) (Or.inl ⟨by rfl, ?_⟩) hHeld ?_ ?_
                          rotate_left
                          · rintro w' ⟨s0, s1, s2, s3⟩
                            go_simp
                            with_reducible rfl
                          rotate_left
                          · simp only [Act.put, List.setIfInBounds_toArray, List.set_cons_zero, List.set_cons_succ, i64_w, i32_w]
                            rfl
                          refine pure_ (i := 8) (N := some 74) (v := ?_) (a' := ?_) #[true, true, true, true, true, true, true, true, true] rfl rfl (any_of HT_.out (by kernel_rfl)) (fun _ _ _ h => h) (Or.inl ⟨by rfl, ?_⟩) ?_ ?_
                          rotate_left
                          · intro w'
                            go_simp
                            with_reducible rfl
                          rotate_left
                          · simp only [Act.put, List.setIfInBounds_toArray, List.set_cons_zero, List.set_cons_succ, i64_w, i32_w]
                            rfl
                          refine done_ (done_of HT_.out (by kernel_rfl)) ?_
                          try go_wp2
                          go_roundg k3
                          case measure => have := HJ6.out; have := HK2.out; have := HK3.out; omega
                          case rel => exact ⟨(wrap64 (x12_3 + 1)), (by first | rfl | (simp; done) | (simp [*]; done)), H', ⟨by have := HJ6.out; have := HK2.out; have := HK3.out; omega⟩, ⟨by (with_reducible repeat (first | apply Kd.V_alloc | apply Kd.V_drewN | apply Kd.V_drew)); exact HO_2.out⟩, ⟨by (with_reducible repeat (first | apply Kd.V_alloc | apply Kd.V_drewN | apply Kd.V_drew)); exact HO_3.out⟩, ⟨by (with_reducible repeat (first | apply Kd.R_alloc | apply Kd.R_drewN | apply Kd.R_drew)); exact HO_9.out⟩, ⟨by (with_reducible repeat (first | apply Kd.R_alloc | apply Kd.R_drewN | apply Kd.R_drew)); exact HO_11.out⟩, ⟨by (with_reducible repeat (first | apply Kd.V_alloc | apply Kd.V_drewN | apply Kd.V_drew)); exact HO_193001.out⟩, ⟨by (with_reducible repeat (first | refine blk_drewN ?_ _ | refine blk_drew ?_ | refine blk_alloc ?_ _)); exact BK192.out⟩, ⟨by repeat (first | (with_reducible first | exact HB.out | apply below_alloc | apply pw_below_drewN | apply below_drew1 | refine below_set ?_ GE192.out) | exact HB.out)⟩⟩
                      · rw [if_neg c39] at H
                        exact absurd H (by simp)
                    · rw [if_neg c38] at H
                      exact absurd H (by simp)
                  · rw [if_neg c37] at H
                    have c37b0 : decide (x12_3 < (t213.length : Int)) = false := decide_eq_false c37
                    clear c37
                    have HC43 := Aside0.mk H
                    clear H
                    go_upto_if 77 with (fail)
                    go_cut [13] (fun v13 wc => ∃ (kq : Nat) (x13_42 : Int), v13 = .int .i64 x13_42 ∧ Aside0 (deadeyelaw17_PlanSources.j3 kq a1 x2_6 t196 x9_2 x13_42 a0_0 t193 = some r) ∧ Aside0 (kq ≤ k3) ∧ Aside0 (Kd.V k26 26 wc w.heap.size (fun k_ => ((P0_1_ k_ ∨ P2_ k_ ∨ P3_ k_) ∨ w.heap.size ≤ k_) ∧ some k_ ≠ ((.slice Ao36 x9_2.length co36) : Value).ownBlock ∧ k_ ≠ gb192) (.slice Ao33 x2_6.length co33) x2_6) ∧ Aside0 (Kd.V (Kd.int .i64) 3 wc w.heap.size (fun k_ => ((P0_1_ k_ ∨ P2_ k_ ∨ P3_ k_) ∨ w.heap.size ≤ k_) ∧ some k_ ≠ ((.slice Ao36 x9_2.length co36) : Value).ownBlock ∧ k_ ≠ gb192) v197 t196) ∧ Aside0 (Kd.R k35 35 wc w.heap.size (fun k_ => (w.heap.size ≤ k_)) (.slice Ao36 x9_2.length co36) x9_2) ∧ Aside0 (Kd.V (Kd.int .i64) 3 wc w.heap.size (fun k_ => ((P0_1_ k_ ∨ P2_ k_ ∨ P3_ k_) ∨ w.heap.size ≤ k_) ∧ some k_ ≠ ((.slice Ao36 x9_2.length co36) : Value).ownBlock ∧ k_ ≠ gb192) (.slice Ao12 t193.length co12) t193) ∧ Aside0 (wc.heap[gb192]? = some (.cells #[.int .i64 a0_0, (.slice Ao12 t193.length co12)] 30 (0, 0))) ∧ Aside0 (Below w.heap.size w wc))
                    case first =>
                      have H := HC43.out
                      clear HC43
                      by_cases c44 : a1 < 1
                      · rw [if_pos c44] at H
                        have c44b0 : decide (a1 < 1) = true := decide_eq_true c44
                        clear c44
                        (first | rw [c44b0] | (simp only [i64_w, i32_w]; rw [c44b0]) | skip)
                        have H' := Aside0.mk H
                        clear H
                        go_wp2
                        go_meet
                        case rel => exact ⟨_, (1), (by first | rfl | (simp; done) | (simp [*]; done)), H', ⟨by have := HJ6.out; have := HK2.out; have := HK3.out; first | omega | exact Nat.le_refl _⟩, ⟨by (with_reducible repeat (first | apply Kd.V_alloc | apply Kd.V_drewN | apply Kd.V_drew)); exact Kd.V_mono HO_2.out (fun _ hk => ⟨hk.1, ⟨hk.2.1, hk.2.2.2⟩⟩)⟩, ⟨by (with_reducible repeat (first | apply Kd.V_alloc | apply Kd.V_drewN | apply Kd.V_drew)); exact Kd.V_mono HO_3.out (fun _ hk => ⟨hk.1, ⟨hk.2.1, hk.2.2.2⟩⟩)⟩, ⟨by (with_reducible repeat (first | apply Kd.R_alloc | apply Kd.R_drewN | apply Kd.R_drew)); exact Kd.R_mono HO_9.out (fun _ hk => hk.1)⟩, ⟨by (with_reducible repeat (first | apply Kd.V_alloc | apply Kd.V_drewN | apply Kd.V_drew)); exact Kd.V_mono HO_193001.out (fun _ hk => ⟨hk.1, ⟨hk.2.1, hk.2.2.2⟩⟩)⟩, ⟨by (with_reducible repeat (first | refine blk_drewN ?_ _ | refine blk_drew ?_ | refine blk_alloc ?_ _)); exact BK192.out⟩, ⟨by repeat (first | (with_reducible first | exact HB.out | apply below_alloc | apply pw_below_drewN | apply below_drew1 | refine below_set ?_ GE192.out) | exact HB.out)⟩⟩
                      · rw [if_neg c44] at H
                        have c44b0 : decide (a1 < 1) = false := decide_eq_false c44
                        clear c44
                        (first | rw [c44b0] | (simp only [i64_w, i32_w]; rw [c44b0]) | skip)
                        have H' := Aside0.mk H
                        clear H
                        go_wp2
                        go_meet
                        case rel => exact ⟨_, (a1), (by first | rfl | (simp; done) | (simp [*]; done)), H', ⟨by have := HJ6.out; have := HK2.out; have := HK3.out; first | omega | exact Nat.le_refl _⟩, ⟨by (with_reducible repeat (first | apply Kd.V_alloc | apply Kd.V_drewN | apply Kd.V_drew)); exact Kd.V_mono HO_2.out (fun _ hk => ⟨hk.1, ⟨hk.2.1, hk.2.2.2⟩⟩)⟩, ⟨by (with_reducible repeat (first | apply Kd.V_alloc | apply Kd.V_drewN | apply Kd.V_drew)); exact Kd.V_mono HO_3.out (fun _ hk => ⟨hk.1, ⟨hk.2.1, hk.2.2.2⟩⟩)⟩, ⟨by (with_reducible repeat (first | apply Kd.R_alloc | apply Kd.R_drewN | apply Kd.R_drew)); exact Kd.R_mono HO_9.out (fun _ hk => hk.1)⟩, ⟨by (with_reducible repeat (first | apply Kd.V_alloc | apply Kd.V_drewN | apply Kd.V_drew)); exact Kd.V_mono HO_193001.out (fun _ hk => ⟨hk.1, ⟨hk.2.1, hk.2.2.2⟩⟩)⟩, ⟨by (with_reducible repeat (first | refine blk_drewN ?_ _ | refine blk_drew ?_ | refine blk_alloc ?_ _)); exact BK192.out⟩, ⟨by repeat (first | (with_reducible first | exact HB.out | apply below_alloc | apply pw_below_drewN | apply below_drew1 | refine below_set ?_ GE192.out) | exact HB.out)⟩⟩
                    case rest =>
                      clear HC43
                      try clear c1
                      try clear q1
                      try clear c2
                      try clear p2
                      try clear q2
                      try clear hx2
                      try clear c3
                      try clear c4
                      try clear p6
                      try clear c14
                      try clear c15
                      try clear c15b0
                      try clear c15b1
                      try clear c16
                      try clear c16b0
                      try clear c16b1
                      try clear q17
                      try clear c20
                      try clear c20b0
                      try clear p20
                      try clear q20
                      try clear hx20
                      try clear c21
                      try clear c21b0
                      try clear p21
                      try clear q21
                      try clear hx21
                      try clear c23
                      try clear c24
                      try clear c31
                      try clear c31b0
                      try clear c31b1
                      try clear c31b2
                      try clear c37
                      try clear c37b0
                      try clear c38
                      try clear c38b0
                      try clear c39
                      try clear c39b0
                      try clear c40
                      try clear c40b0
                      try clear c44
                      try clear c44b0
                      try clear hcz13_0
                      try clear hcz13_1
                      try clear hcz25_0
                      try clear hcz25_1
                      try clear hcz28_0
                      try clear hcz28_1
                      try clear hcz32_0
                      try clear hcz32_1
                      try clear hcz9_0
                      try clear hcz9_1
                      try clear hfz13_0
                      try clear hfz13_1
                      try clear hfz25_0
                      try clear hfz25_1
                      try clear hfz28_0
                      try clear hfz28_1
                      try clear hfz32_0
                      try clear hfz32_1
                      try clear hfz9_0
                      try clear hfz9_1
                      try clear hx207_0
                      try clear hx209_0
                      try clear hx216_0
                      try clear hx216_1
                      try clear hx217_0
                      try clear hx217_1
                      try clear p2
                      try clear p20
                      try clear p207
                      try clear p209
                      try clear p216
                      try clear p217
                      try clear p6
                      try clear q1
                      try clear q17
                      try clear q2
                      try clear q20
                      try clear q207
                      try clear q209
                      try clear q216
                      try clear q217
                      obtain ⟨kq, x13_42, rfl, HA, HJ42, HO_2, HO_3, HO_9, HO_193001, BK192, HB⟩ := hcut
                      cases kq with
                      | zero => exact absurd HA.out (by simp [deadeyelaw17_PlanSources.j3])
                      | succ kj42 =>
                        have H := HA.out
                        clear HA
                        simp only [deadeyelaw17_PlanSources.j3] at H
                        have H' := Aside0.mk H
                        clear H
                        go_wp2
                        go_loopg [14, 15] kj42 (fun kq v14 v15 w' => ∃ (x14_5 : Bool) (x15_5 : Int), v14 = .bool x14_5 ∧ v15 = .int .i64 x15_5 ∧ Aside0 (deadeyelaw17_PlanSources.l2 kq a1 x2_6 t196 x14_5 x15_5 a0_0 t193 = some r) ∧ Aside0 (kq ≤ kj42) ∧ Aside0 (Kd.V k26 26 w' w.heap.size (fun k_ => ((P0_1_ k_ ∨ P2_ k_ ∨ P3_ k_) ∨ w.heap.size ≤ k_) ∧ k_ ≠ gb192) (.slice Ao33 x2_6.length co33) x2_6) ∧ Aside0 (Kd.V (Kd.int .i64) 3 w' w.heap.size (fun k_ => ((P0_1_ k_ ∨ P2_ k_ ∨ P3_ k_) ∨ w.heap.size ≤ k_) ∧ k_ ≠ gb192) v197 t196) ∧ Aside0 (Kd.V (Kd.int .i64) 3 w' w.heap.size (fun k_ => ((P0_1_ k_ ∨ P2_ k_ ∨ P3_ k_) ∨ w.heap.size ≤ k_) ∧ k_ ≠ gb192) (.slice Ao12 t193.length co12) t193) ∧ Aside0 (w'.heap[gb192]? = some (.cells #[.int .i64 a0_0, (.slice Ao12 t193.length co12)] 30 (0, 0))) ∧ Aside0 (Below w.heap.size w w'))
                        case atStart => exact ⟨(decide ((x9_2.length : Int) ≥ x13_42)), (0), (by first | rfl | (simp; done) | (simp [*]; done)), (by first | rfl | (simp; done) | (simp [*]; done)), H', ⟨Nat.le_refl _⟩, ⟨by (with_reducible repeat (first | apply Kd.V_alloc | apply Kd.V_drewN | apply Kd.V_drew)); exact Kd.V_mono HO_2.out (fun _ hk => ⟨hk.1, hk.2.2⟩)⟩, ⟨by (with_reducible repeat (first | apply Kd.V_alloc | apply Kd.V_drewN | apply Kd.V_drew)); exact Kd.V_mono HO_3.out (fun _ hk => ⟨hk.1, hk.2.2⟩)⟩, ⟨by (with_reducible repeat (first | apply Kd.V_alloc | apply Kd.V_drewN | apply Kd.V_drew)); exact Kd.V_mono HO_193001.out (fun _ hk => ⟨hk.1, hk.2.2⟩)⟩, ⟨by (with_reducible repeat (first | refine blk_drewN ?_ _ | refine blk_drew ?_ | refine blk_alloc ?_ _)); exact BK192.out⟩, ⟨by repeat (first | (with_reducible first | exact HB.out | apply below_alloc | apply pw_below_drewN | apply below_drew1 | refine below_set ?_ GE192.out) | exact HB.out)⟩⟩
                        case round =>
                          clear H'
                          try clear c1
                          try clear q1
                          try clear c2
                          try clear p2
                          try clear q2
                          try clear hx2
                          try clear c3
                          try clear c4
                          try clear p6
                          try clear c14
                          try clear c15
                          try clear c15b0
                          try clear c15b1
                          try clear c16
                          try clear c16b0
                          try clear c16b1
                          try clear q17
                          try clear c20
                          try clear c20b0
                          try clear p20
                          try clear q20
                          try clear hx20
                          try clear c21
                          try clear c21b0
                          try clear p21
                          try clear q21
                          try clear hx21
                          try clear c23
                          try clear c24
                          try clear c31
                          try clear c31b0
                          try clear c31b1
                          try clear c31b2
                          try clear c37
                          try clear c37b0
                          try clear c38
                          try clear c38b0
                          try clear c39
                          try clear c39b0
                          try clear c40
                          try clear c40b0
                          try clear c44
                          try clear c44b0
                          try clear hcz13_0
                          try clear hcz13_1
                          try clear hcz25_0
                          try clear hcz25_1
                          try clear hcz28_0
                          try clear hcz28_1
                          try clear hcz32_0
                          try clear hcz32_1
                          try clear hcz9_0
                          try clear hcz9_1
                          try clear hfz13_0
                          try clear hfz13_1
                          try clear hfz25_0
                          try clear hfz25_1
                          try clear hfz28_0
                          try clear hfz28_1
                          try clear hfz32_0
                          try clear hfz32_1
                          try clear hfz9_0
                          try clear hfz9_1
                          try clear hx207_0
                          try clear hx209_0
                          try clear hx216_0
                          try clear hx216_1
                          try clear hx217_0
                          try clear hx217_1
                          try clear p2
                          try clear p20
                          try clear p207
                          try clear p209
                          try clear p21
                          try clear p216
                          try clear p217
                          try clear p6
                          try clear q1
                          try clear q17
                          try clear q2
                          try clear q20
                          try clear q207
                          try clear q209
                          try clear q21
                          try clear q216
                          try clear q217
                          obtain ⟨x14_5, x15_5, rfl, rfl, HA, HK5, HO_2, HO_3, HO_193001, BK192, HB⟩ := hrel
                          cases gk with
                          | zero => exact absurd HA.out (by simp [deadeyelaw17_PlanSources.l2])
                          | succ k5 =>
                            have H := HA.out
                            clear HA
                            simp only [deadeyelaw17_PlanSources.l2] at H
                            by_cases c45 : x15_5 < (t196.length : Int)
                            · rw [if_pos c45] at H
                              have c45b0 : decide (x15_5 < (t196.length : Int)) = true := decide_eq_true c45
                              clear c45
                              by_cases c46 : 0 ≤ x15_5
                              · rw [if_pos c46] at H
                                have c46b0 : decide (0 ≤ x15_5) = true := decide_eq_true c46
                                clear c46
                                replace H := Option.bind_eq_some_iff.mp H
                                obtain ⟨t221, A470, H⟩ := H
                                replace H : (if t221 ≥ 0 then ((deadeyelaw17_told.f k5 x2_6 (rd t196 x15_5)).bind fun t223 => (if t223 = true then (deadeyelaw17_PlanSources.l2 k5 a1 x2_6 t196 x14_5 (wrap64 (x15_5 + 1)) a0_0 t193) else (deadeyelaw17_PlanSources.l2 k5 a1 x2_6 t196 false (wrap64 (x15_5 + 1)) a0_0 t193))) else (deadeyelaw17_PlanSources.l2 k5 a1 x2_6 t196 x14_5 (wrap64 (x15_5 + 1)) a0_0 t193)) = some r := H
                                have A47 := Aside0.mk A470
                                clear A470
                                by_cases c48 : t221 ≥ 0
                                · rw [if_pos c48] at H
                                  have c48b0 : decide (0 ≤ t221) = true := decide_eq_true c48
                                  clear c48
                                  replace H := Option.bind_eq_some_iff.mp H
                                  obtain ⟨t223, A490, H⟩ := H
                                  replace H : (if t223 = true then (deadeyelaw17_PlanSources.l2 k5 a1 x2_6 t196 x14_5 (wrap64 (x15_5 + 1)) a0_0 t193) else (deadeyelaw17_PlanSources.l2 k5 a1 x2_6 t196 false (wrap64 (x15_5 + 1)) a0_0 t193)) = some r := H
                                  have A49 := Aside0.mk A490
                                  clear A490
                                  by_cases c50 : t223 = true
                                  · subst c50
                                    have H1 : (deadeyelaw17_PlanSources.l2 k5 a1 x2_6 t196 x14_5 (wrap64 (x15_5 + 1)) a0_0 t193) = some r := by rw [if_pos rfl] at H; exact H
                                    clear H
                                    have H := H1
                                    clear H1
                                    have H' := Aside0.mk H
                                    clear H
                                    obtain ⟨Ao51, co51, eo51⟩ := Kd.V_slice HO_3.out
                                    subst eo51
                                    try go_wp2
                                    have n0_ := Aside0.mk (Kd.V_drew HO_2.out)
                                    have n1_ := Aside0.mk (Kd.V_drew HO_3.out)
                                    have n2_ := Aside0.mk (Kd.V_drew HO_193001.out)
                                    have n3_ := Aside0.mk (blk_drew BK192.out)
                                    have n4_ := Aside0.mk (below_drew1 HB.out)
                                    clear HO_2
                                    clear HO_3
                                    clear HO_193001
                                    clear BK192
                                    clear HB
                                    have HO_2 := n0_
                                    have HO_3 := n1_
                                    have HO_193001 := n2_
                                    have BK192 := n3_
                                    have HB := n4_
                                    clear n0_ n1_ n2_ n3_ n4_
                                    have p220 : 0 ≤ (x15_5 : Int) := of_decide_eq_true (by first | (with_reducible assumption) | assumption)
                                    have q220 : x15_5 < (t196.length : Int) := of_decide_eq_true (by first | (with_reducible assumption) | assumption)
                                    obtain ⟨ad220, e220, hx220_0⟩ := Kd.at_int (Kd.V_reads' HO_3.out).2.2 x15_5 p220 q220
                                    cases e220
                                    replace p220 := eq_true p220
                                    replace q220 := eq_true q220
                                    have p222 : 0 ≤ (x15_5 : Int) := of_decide_eq_true (by first | (with_reducible assumption) | assumption)
                                    have q222 : x15_5 < (t196.length : Int) := of_decide_eq_true (by first | (with_reducible assumption) | assumption)
                                    obtain ⟨ad222, e222, hx222_0⟩ := Kd.at_int (Kd.V_reads' HO_3.out).2.2 x15_5 p222 q222
                                    obtain rfl : ad220 = ad222 := (by injection e222)
                                    replace p222 := eq_true p222
                                    replace q222 := eq_true q222
                                    refine start_ (n := 16) (S := fun w' => w'.cell? ⟨gb192, 0, none⟩ = some (.int .i64 a0_0) ∧ w'.cell? ⟨gb192, 1, none⟩ = some (.slice Ao12 t193.length co12) ∧ w'.cell? (ad220.add (x15_5).toNat) = some (.int .i64 (rd t196 x15_5)) ∧ w'.cell? (ad220.add (x15_5).toNat) = some (.int .i64 (rd t196 x15_5))) (ds := []) #[false, false, false, false, false, false, false, false, false, false, false, false, false, false, false, false] (by kernel_rfl) rfl rfl ⟨(blk_cell BK192.out 0).trans rfl, (blk_cell BK192.out 1).trans rfl, hx220_0, hx222_0⟩ (fun hHeld => ?_); refine with_tabW deadeyelaw17_PlanSources.tab25 deadeyelaw17_PlanSources.bits25 (fun HT_ HW_ => ?_)
                                    generalize wr.drew = w52 at HO_2 HO_3 HO_193001 BK192 HB hx220_0 hx222_0 hHeld ⊢
                                    refine pure_ (i := 1) (N := some 89) (v := ?_) (a' := ?_) #[false, true, false, false, false, false, false, false, false, false, false, false, false, false, false, false] rfl rfl (any_of HT_.out (by kernel_rfl)) (fun _ _ _ h => h) (Or.inl ⟨by rfl, ?_⟩) ?_ ?_
                                    rotate_left
                                    · intro w'
                                      go_simp
                                      with_reducible rfl
                                    rotate_left
                                    · simp only [Act.put, List.setIfInBounds_toArray, List.set_cons_zero, List.set_cons_succ, i64_w, i32_w]
                                      rfl
                                    refine pure_ (i := 2) (N := some 90) (v := ?_) (a' := ?_) #[false, true, true, false, false, false, false, false, false, false, false, false, false, false, false, false] rfl rfl (any_of HT_.out (by kernel_rfl)) (fun _ _ _ h => h) (Or.inl ⟨by rfl, ?_⟩) ?_ ?_
                                    rotate_left
                                    · intro w'
                                      go_simp
                                      with_reducible rfl
                                    rotate_left
                                    · simp only [Act.put, List.setIfInBounds_toArray, List.set_cons_zero, List.set_cons_succ, i64_w, i32_w]
                                      rfl
                                    refine pure_ (i := 3) (N := some 91) (v := ?_) (a' := ?_) #[false, true, true, true, false, false, false, false, false, false, false, false, false, false, false, false] rfl rfl (any_of HT_.out (by kernel_rfl)) (fun _ _ _ h => h) (Or.inl ⟨by rfl, ?_⟩) ?_ ?_
                                    rotate_left
                                    · intro w'
                                      go_simp
                                      with_reducible rfl
                                    rotate_left
                                    · simp only [Act.put, List.setIfInBounds_toArray, List.set_cons_zero, List.set_cons_succ, i64_w, i32_w]
                                      rfl
                                    refine take_ (i := 0) (N := some 88) (v := ?_) (a' := ?_) #[true, true, true, true, false, false, false, false, false, false, false, false, false, false, false, false] rfl rfl (take_ofW HT_.out HW_.out (by kernel_rfl)) (fun _ _ _ h => h) (Or.inl ⟨by rfl, ?_⟩) hHeld ?_ ?_
                                    rotate_left
                                    · rintro w' ⟨s0, s1, s2, s3⟩
                                      go_simp
                                      with_reducible rfl
                                    rotate_left
                                    · simp only [Act.put, List.setIfInBounds_toArray, List.set_cons_zero, List.set_cons_succ, i64_w, i32_w]
                                      rfl
                                    refine take_ (i := 4) (N := some 92) (v := ?_) (a' := ?_) #[true, true, true, true, true, false, false, false, false, false, false, false, false, false, false, false] rfl rfl (take_ofW HT_.out HW_.out (by kernel_rfl)) (fun _ _ _ h => h) (Or.inl ⟨by rfl, ?_⟩) hHeld ?_ ?_
                                    rotate_left
                                    · rintro w' ⟨s0, s1, s2, s3⟩
                                      go_simp
                                      with_reducible rfl
                                    rotate_left
                                    · simp only [Act.put, List.setIfInBounds_toArray, List.set_cons_zero, List.set_cons_succ, i64_w, i32_w]
                                      rfl
                                    refine one_ (i := 5) (N := some 93) #[true, true, true, true, true, true, false, false, false, false, false, false, false, false, false, false] rfl rfl (one_of HT_.out (by kernel_rfl)) (by decide) (fun K hK => ?_)
                                    refine goes_ Try.func17 (by kernel_rfl) rfl #[.agg #[.int .i64 a0_0, .slice Ao12 t193.length co12], .int .i64 (rd t196 x15_5)] (by rfl) rfl rfl (by (try simp only [List.map_toArray, List.map_cons, List.map_nil]); first | done | rfl | (simp only [List.length_drop, List.length_take]; rfl)) ?_
                                    with_reducible refine (deadeyeref10_Pos.calls k5 a0_0 _ _ t193 (rd t196 x15_5) t221 _ ?side1 ?side2 A47.out).mono ?_
                                    (case side1 => repeat (first | exact (Kd.V_reads' HO_193001.out).2.2 | (with_reducible refine Kd.C_alloc ?_ _) | (with_reducible refine Kd.C_drewN ?_ _) | (with_reducible refine Kd.C_drew ?_)))
                                    (case side2 => exact (Kd.V_reads' HO_193001.out).2.1)
                                    rintro e w53 ⟨rfl, hb⟩
                                    have HS2_ := (hb.cell (World.block_lt_of_cell? _ _ (hHeld.2.2.1))).trans (hHeld.2.2.1)
                                    have HS3_ := (hb.cell (World.block_lt_of_cell? _ _ (hHeld.2.2.2))).trans (hHeld.2.2.2)
                                    refine ⟨_, rfl, ?_⟩
                                    have n0_ := Aside0.mk (Kd.V_below (by (with_reducible repeat (first | apply Kd.V_alloc | apply Kd.V_drewN | apply Kd.V_drew)); exact HO_2.out) hb)
                                    have n1_ := Aside0.mk (Kd.V_below (by (with_reducible repeat (first | apply Kd.V_alloc | apply Kd.V_drewN | apply Kd.V_drew)); exact HO_3.out) hb)
                                    have n2_ := Aside0.mk (Kd.V_below (by (with_reducible repeat (first | apply Kd.V_alloc | apply Kd.V_drewN | apply Kd.V_drew)); exact HO_193001.out) hb)
                                    have n3_ := Aside0.mk (blk_below (g := gb192) (o := .cells #[.int .i64 a0_0, .slice Ao12 t193.length co12] 30 (0, 0)) (by (with_reducible repeat (first | refine blk_drewN ?_ _ | refine blk_drew ?_ | refine blk_alloc ?_ _)); exact BK192.out) hb)
                                    have n4_ := Aside0.mk (below_step (by repeat (first | (with_reducible first | exact HB.out | apply below_alloc | apply pw_below_drewN | apply below_drew1 | refine below_set ?_ GE192.out) | exact HB.out)) hb)
                                    clear HO_2
                                    clear HO_3
                                    clear HO_193001
                                    clear BK192
                                    clear HB
                                    have HO_2 := n0_
                                    have HO_3 := n1_
                                    have HO_193001 := n2_
                                    have BK192 := n3_
                                    have HB := n4_
                                    clear n0_ n1_ n2_ n3_ n4_
                                    (try clear hb)
                                    (try clear hb2)
                                    (try clear hk)
                                    (try clear hi)
                                    refine hK.out _ _ ⟨(blk_cell BK192.out 0).trans rfl, (blk_cell BK192.out 1).trans rfl, HS2_, HS3_⟩ (fun hHeld => ?_)
                                    clear hK K
                                    refine norm_ (a' := ?_) ?_ ?_
                                    rotate_left
                                    · show Act.put _ (some 93) _ = _
                                      simp only [Act.put, List.setIfInBounds_toArray, List.set_cons_zero, List.set_cons_succ, i64_w, i32_w]
                                      rfl
                                    refine pure_ (i := 6) (N := some 94) (v := ?_) (a' := ?_) #[true, true, true, true, true, true, true, false, false, false, false, false, false, false, false, false] rfl rfl (any_of HT_.out (by kernel_rfl)) (fun _ _ _ h => h) (Or.inl ⟨by rfl, ?_⟩) ?_ ?_
                                    rotate_left
                                    · intro w'
                                      go_simp
                                      with_reducible rfl
                                    rotate_left
                                    · simp only [Act.put, List.setIfInBounds_toArray, List.set_cons_zero, List.set_cons_succ, i64_w, i32_w]
                                      rfl
                                    refine pure_ (i := 7) (N := some 95) (v := ?_) (a' := ?_) #[true, true, true, true, true, true, true, true, false, false, false, false, false, false, false, false] rfl rfl (any_of HT_.out (by kernel_rfl)) (fun _ _ _ h => h) (Or.inl ⟨by rfl, ?_⟩) ?_ ?_
                                    rotate_left
                                    · intro w'
                                      go_simp
                                      with_reducible rfl
                                    rotate_left
                                    · simp only [Act.put, List.setIfInBounds_toArray, List.set_cons_zero, List.set_cons_succ, i64_w, i32_w]
                                      rfl
                                    refine pure_ (i := 8) (N := some 96) (v := ?_) (a' := ?_) #[true, true, true, true, true, true, true, true, true, false, false, false, false, false, false, false] rfl rfl (any_of HT_.out (by kernel_rfl)) (fun _ _ _ h => h) (Or.inl ⟨by rfl, ?_⟩) ?_ ?_
                                    rotate_left
                                    · intro w'
                                      go_simp
                                      with_reducible rfl
                                    rotate_left
                                    · simp only [Act.put, List.setIfInBounds_toArray, List.set_cons_zero, List.set_cons_succ, i64_w, i32_w]
                                      rfl
                                    refine pure_ (i := 9) (N := some 97) (v := ?_) (a' := ?_) #[true, true, true, true, true, true, true, true, true, true, false, false, false, false, false, false] rfl rfl (any_of HT_.out (by kernel_rfl)) (fun _ _ _ h => h) (Or.inl ⟨by rfl, ?_⟩) ?_ ?_
                                    rotate_left
                                    · intro w'
                                      go_simp
                                      with_reducible rfl
                                    rotate_left
                                    · simp only [Act.put, List.setIfInBounds_toArray, List.set_cons_zero, List.set_cons_succ, i64_w, i32_w]
                                      rfl
                                    refine pure_ (i := 10) (N := some 98) (v := ?_) (a' := ?_) #[true, true, true, true, true, true, true, true, true, true, true, false, false, false, false, false] rfl rfl (any_of HT_.out (by kernel_rfl)) (fun _ _ _ h => h) (Or.inl ⟨by rfl, ?_⟩) ?_ ?_
                                    rotate_left
                                    · intro w'
                                      go_simp
                                      with_reducible rfl
                                    rotate_left
                                    · simp only [Act.put, List.setIfInBounds_toArray, List.set_cons_zero, List.set_cons_succ, i64_w, i32_w]
                                      rfl
                                    refine pure_ (i := 11) (N := some 99) (v := ?_) (a' := ?_) #[true, true, true, true, true, true, true, true, true, true, true, true, false, false, false, false] rfl rfl (any_of HT_.out (by kernel_rfl)) (fun _ _ _ h => h) (Or.inl ⟨by rfl, ?_⟩) ?_ ?_
                                    rotate_left
                                    · intro w'
                                      go_simp
                                      with_reducible rfl
                                    rotate_left
                                    · simp only [Act.put, List.setIfInBounds_toArray, List.set_cons_zero, List.set_cons_succ, i64_w, i32_w]
                                      rfl
                                    refine take_ (i := 12) (N := some 100) (v := ?_) (a' := ?_) #[true, true, true, true, true, true, true, true, true, true, true, true, true, false, false, false] rfl rfl (take_ofW HT_.out HW_.out (by kernel_rfl)) (fun _ _ _ h => h) (Or.inl ⟨by rfl, ?_⟩) hHeld ?_ ?_
                                    rotate_left
                                    · rintro w' ⟨s0, s1, s2, s3⟩
                                      go_simp
                                      with_reducible rfl
                                    rotate_left
                                    · simp only [Act.put, List.setIfInBounds_toArray, List.set_cons_zero, List.set_cons_succ, i64_w, i32_w]
                                      rfl
                                    refine one_ (i := 13) (N := some 101) #[true, true, true, true, true, true, true, true, true, true, true, true, true, true, false, false] rfl rfl (one_of HT_.out (by kernel_rfl)) (by decide) (fun K hK => ?_)
                                    refine goes_ Try.func15 (by kernel_rfl) rfl #[.slice Ao33 x2_6.length co33, .int .i64 (rd t196 x15_5)] (by rfl) rfl rfl (by (try simp only [List.map_toArray, List.map_cons, List.map_nil]); first | done | rfl | (simp only [List.length_drop, List.length_take]; rfl)) ?_
                                    with_reducible refine (deadeyelaw17_told.calls k5 _ _ x2_6 (rd t196 x15_5) true _ ?side1 ?side2 A49.out).mono ?_
                                    (case side1 => repeat (first | exact (Kd.V_reads' HO_2.out).2.2 | (with_reducible refine Kd.C_alloc ?_ _) | (with_reducible refine Kd.C_drewN ?_ _) | (with_reducible refine Kd.C_drew ?_)))
                                    (case side2 => exact (Kd.V_reads' HO_2.out).2.1)
                                    rintro e w' ⟨rfl, ⟨nd, rfl⟩⟩
                                    refine ⟨_, rfl, ?_⟩
                                    refine hK.out _ _ ⟨(blk_cell BK192.out 0).trans rfl, (blk_cell BK192.out 1).trans rfl, hHeld.2.2.1, hHeld.2.2.2⟩ (fun hHeld => ?_)
                                    clear hK K
                                    refine norm_ (a' := ?_) ?_ ?_
                                    rotate_left
                                    · show Act.put _ (some 101) _ = _
                                      simp only [Act.put, List.setIfInBounds_toArray, List.set_cons_zero, List.set_cons_succ, i64_w, i32_w]
                                      rfl
                                    refine pure_ (i := 14) (N := some 102) (v := ?_) (a' := ?_) #[true, true, true, true, true, true, true, true, true, true, true, true, true, true, true, false] rfl rfl (any_of HT_.out (by kernel_rfl)) (fun _ _ _ h => h) (Or.inl ⟨by rfl, ?_⟩) ?_ ?_
                                    rotate_left
                                    · intro w'
                                      go_simp
                                      with_reducible rfl
                                    rotate_left
                                    · simp only [Act.put, List.setIfInBounds_toArray, List.set_cons_zero, List.set_cons_succ, i64_w, i32_w]
                                      rfl
                                    refine pure_ (i := 15) (N := some 103) (v := ?_) (a' := ?_) #[true, true, true, true, true, true, true, true, true, true, true, true, true, true, true, true] rfl rfl (any_of HT_.out (by kernel_rfl)) (fun _ _ _ h => h) (Or.inl ⟨by rfl, ?_⟩) ?_ ?_
                                    rotate_left
                                    · intro w'
                                      go_simp
                                      with_reducible rfl
                                    rotate_left
                                    · simp only [Act.put, List.setIfInBounds_toArray, List.set_cons_zero, List.set_cons_succ, i64_w, i32_w]
                                      rfl
                                    refine done_ (done_of HT_.out (by kernel_rfl)) ?_
                                    try go_wp2
                                    go_roundg k5
                                    case measure => have := HJ6.out; have := HK2.out; have := HK3.out; have := HJ42.out; have := HK5.out; omega
                                    case rel => exact ⟨(x14_5), (wrap64 (x15_5 + 1)), (by first | rfl | (simp; done) | (simp [*]; done)), (by first | rfl | (simp; done) | (simp [*]; done)), H', ⟨by have := HJ6.out; have := HK2.out; have := HK3.out; have := HJ42.out; have := HK5.out; omega⟩, ⟨by (with_reducible repeat (first | apply Kd.V_alloc | apply Kd.V_drewN | apply Kd.V_drew)); exact HO_2.out⟩, ⟨by (with_reducible repeat (first | apply Kd.V_alloc | apply Kd.V_drewN | apply Kd.V_drew)); exact HO_3.out⟩, ⟨by (with_reducible repeat (first | apply Kd.V_alloc | apply Kd.V_drewN | apply Kd.V_drew)); exact HO_193001.out⟩, ⟨by (with_reducible repeat (first | refine blk_drewN ?_ _ | refine blk_drew ?_ | refine blk_alloc ?_ _)); exact BK192.out⟩, ⟨by repeat (first | (with_reducible first | exact HB.out | apply below_alloc | apply pw_below_drewN | apply below_drew1 | refine below_set ?_ GE192.out) | exact HB.out)⟩⟩
                                  · replace c50 := Bool.eq_false_iff.mpr c50
                                    subst c50
                                    have H1 : (deadeyelaw17_PlanSources.l2 k5 a1 x2_6 t196 false (wrap64 (x15_5 + 1)) a0_0 t193) = some r := by rw [if_neg (show ¬ (false = true) by decide)] at H; exact H
                                    clear H
                                    have H := H1
                                    clear H1
                                    have H' := Aside0.mk H
                                    clear H
                                    obtain ⟨Ao54, co54, eo54⟩ := Kd.V_slice HO_3.out
                                    subst eo54
                                    try go_wp2
                                    have n0_ := Aside0.mk (Kd.V_drew HO_2.out)
                                    have n1_ := Aside0.mk (Kd.V_drew HO_3.out)
                                    have n2_ := Aside0.mk (Kd.V_drew HO_193001.out)
                                    have n3_ := Aside0.mk (blk_drew BK192.out)
                                    have n4_ := Aside0.mk (below_drew1 HB.out)
                                    clear HO_2
                                    clear HO_3
                                    clear HO_193001
                                    clear BK192
                                    clear HB
                                    have HO_2 := n0_
                                    have HO_3 := n1_
                                    have HO_193001 := n2_
                                    have BK192 := n3_
                                    have HB := n4_
                                    clear n0_ n1_ n2_ n3_ n4_
                                    have p220 : 0 ≤ (x15_5 : Int) := of_decide_eq_true (by first | (with_reducible assumption) | assumption)
                                    have q220 : x15_5 < (t196.length : Int) := of_decide_eq_true (by first | (with_reducible assumption) | assumption)
                                    obtain ⟨ad220, e220, hx220_0⟩ := Kd.at_int (Kd.V_reads' HO_3.out).2.2 x15_5 p220 q220
                                    cases e220
                                    replace p220 := eq_true p220
                                    replace q220 := eq_true q220
                                    have p222 : 0 ≤ (x15_5 : Int) := of_decide_eq_true (by first | (with_reducible assumption) | assumption)
                                    have q222 : x15_5 < (t196.length : Int) := of_decide_eq_true (by first | (with_reducible assumption) | assumption)
                                    obtain ⟨ad222, e222, hx222_0⟩ := Kd.at_int (Kd.V_reads' HO_3.out).2.2 x15_5 p222 q222
                                    obtain rfl : ad220 = ad222 := (by injection e222)
                                    replace p222 := eq_true p222
                                    replace q222 := eq_true q222
                                    refine start_ (n := 16) (S := fun w' => w'.cell? ⟨gb192, 0, none⟩ = some (.int .i64 a0_0) ∧ w'.cell? ⟨gb192, 1, none⟩ = some (.slice Ao12 t193.length co12) ∧ w'.cell? (ad220.add (x15_5).toNat) = some (.int .i64 (rd t196 x15_5)) ∧ w'.cell? (ad220.add (x15_5).toNat) = some (.int .i64 (rd t196 x15_5))) (ds := []) #[false, false, false, false, false, false, false, false, false, false, false, false, false, false, false, false] (by kernel_rfl) rfl rfl ⟨(blk_cell BK192.out 0).trans rfl, (blk_cell BK192.out 1).trans rfl, hx220_0, hx222_0⟩ (fun hHeld => ?_); refine with_tabW deadeyelaw17_PlanSources.tab25 deadeyelaw17_PlanSources.bits25 (fun HT_ HW_ => ?_)
                                    generalize wr.drew = w55 at HO_2 HO_3 HO_193001 BK192 HB hx220_0 hx222_0 hHeld ⊢
                                    refine pure_ (i := 1) (N := some 89) (v := ?_) (a' := ?_) #[false, true, false, false, false, false, false, false, false, false, false, false, false, false, false, false] rfl rfl (any_of HT_.out (by kernel_rfl)) (fun _ _ _ h => h) (Or.inl ⟨by rfl, ?_⟩) ?_ ?_
                                    rotate_left
                                    · intro w'
                                      go_simp
                                      with_reducible rfl
                                    rotate_left
                                    · simp only [Act.put, List.setIfInBounds_toArray, List.set_cons_zero, List.set_cons_succ, i64_w, i32_w]
                                      rfl
                                    refine pure_ (i := 2) (N := some 90) (v := ?_) (a' := ?_) #[false, true, true, false, false, false, false, false, false, false, false, false, false, false, false, false] rfl rfl (any_of HT_.out (by kernel_rfl)) (fun _ _ _ h => h) (Or.inl ⟨by rfl, ?_⟩) ?_ ?_
                                    rotate_left
                                    · intro w'
                                      go_simp
                                      with_reducible rfl
                                    rotate_left
                                    · simp only [Act.put, List.setIfInBounds_toArray, List.set_cons_zero, List.set_cons_succ, i64_w, i32_w]
                                      rfl
                                    refine pure_ (i := 3) (N := some 91) (v := ?_) (a' := ?_) #[false, true, true, true, false, false, false, false, false, false, false, false, false, false, false, false] rfl rfl (any_of HT_.out (by kernel_rfl)) (fun _ _ _ h => h) (Or.inl ⟨by rfl, ?_⟩) ?_ ?_
                                    rotate_left
                                    · intro w'
                                      go_simp
                                      with_reducible rfl
                                    rotate_left
                                    · simp only [Act.put, List.setIfInBounds_toArray, List.set_cons_zero, List.set_cons_succ, i64_w, i32_w]
                                      rfl
                                    refine take_ (i := 0) (N := some 88) (v := ?_) (a' := ?_) #[true, true, true, true, false, false, false, false, false, false, false, false, false, false, false, false] rfl rfl (take_ofW HT_.out HW_.out (by kernel_rfl)) (fun _ _ _ h => h) (Or.inl ⟨by rfl, ?_⟩) hHeld ?_ ?_
                                    rotate_left
                                    · rintro w' ⟨s0, s1, s2, s3⟩
                                      go_simp
                                      with_reducible rfl
                                    rotate_left
                                    · simp only [Act.put, List.setIfInBounds_toArray, List.set_cons_zero, List.set_cons_succ, i64_w, i32_w]
                                      rfl
                                    refine take_ (i := 4) (N := some 92) (v := ?_) (a' := ?_) #[true, true, true, true, true, false, false, false, false, false, false, false, false, false, false, false] rfl rfl (take_ofW HT_.out HW_.out (by kernel_rfl)) (fun _ _ _ h => h) (Or.inl ⟨by rfl, ?_⟩) hHeld ?_ ?_
                                    rotate_left
                                    · rintro w' ⟨s0, s1, s2, s3⟩
                                      go_simp
                                      with_reducible rfl
                                    rotate_left
                                    · simp only [Act.put, List.setIfInBounds_toArray, List.set_cons_zero, List.set_cons_succ, i64_w, i32_w]
                                      rfl
                                    refine one_ (i := 5) (N := some 93) #[true, true, true, true, true, true, false, false, false, false, false, false, false, false, false, false] rfl rfl (one_of HT_.out (by kernel_rfl)) (by decide) (fun K hK => ?_)
                                    refine goes_ Try.func17 (by kernel_rfl) rfl #[.agg #[.int .i64 a0_0, .slice Ao12 t193.length co12], .int .i64 (rd t196 x15_5)] (by rfl) rfl rfl (by (try simp only [List.map_toArray, List.map_cons, List.map_nil]); first | done | rfl | (simp only [List.length_drop, List.length_take]; rfl)) ?_
                                    with_reducible refine (deadeyeref10_Pos.calls k5 a0_0 _ _ t193 (rd t196 x15_5) t221 _ ?side1 ?side2 A47.out).mono ?_
                                    (case side1 => repeat (first | exact (Kd.V_reads' HO_193001.out).2.2 | (with_reducible refine Kd.C_alloc ?_ _) | (with_reducible refine Kd.C_drewN ?_ _) | (with_reducible refine Kd.C_drew ?_)))
                                    (case side2 => exact (Kd.V_reads' HO_193001.out).2.1)
                                    rintro e w56 ⟨rfl, hb⟩
                                    have HS2_ := (hb.cell (World.block_lt_of_cell? _ _ (hHeld.2.2.1))).trans (hHeld.2.2.1)
                                    have HS3_ := (hb.cell (World.block_lt_of_cell? _ _ (hHeld.2.2.2))).trans (hHeld.2.2.2)
                                    refine ⟨_, rfl, ?_⟩
                                    have n0_ := Aside0.mk (Kd.V_below (by (with_reducible repeat (first | apply Kd.V_alloc | apply Kd.V_drewN | apply Kd.V_drew)); exact HO_2.out) hb)
                                    have n1_ := Aside0.mk (Kd.V_below (by (with_reducible repeat (first | apply Kd.V_alloc | apply Kd.V_drewN | apply Kd.V_drew)); exact HO_3.out) hb)
                                    have n2_ := Aside0.mk (Kd.V_below (by (with_reducible repeat (first | apply Kd.V_alloc | apply Kd.V_drewN | apply Kd.V_drew)); exact HO_193001.out) hb)
                                    have n3_ := Aside0.mk (blk_below (g := gb192) (o := .cells #[.int .i64 a0_0, .slice Ao12 t193.length co12] 30 (0, 0)) (by (with_reducible repeat (first | refine blk_drewN ?_ _ | refine blk_drew ?_ | refine blk_alloc ?_ _)); exact BK192.out) hb)
                                    have n4_ := Aside0.mk (below_step (by repeat (first | (with_reducible first | exact HB.out | apply below_alloc | apply pw_below_drewN | apply below_drew1 | refine below_set ?_ GE192.out) | exact HB.out)) hb)
                                    clear HO_2
                                    clear HO_3
                                    clear HO_193001
                                    clear BK192
                                    clear HB
                                    have HO_2 := n0_
                                    have HO_3 := n1_
                                    have HO_193001 := n2_
                                    have BK192 := n3_
                                    have HB := n4_
                                    clear n0_ n1_ n2_ n3_ n4_
                                    (try clear hb)
                                    (try clear hb2)
                                    (try clear hk)
                                    (try clear hi)
                                    refine hK.out _ _ ⟨(blk_cell BK192.out 0).trans rfl, (blk_cell BK192.out 1).trans rfl, HS2_, HS3_⟩ (fun hHeld => ?_)
                                    clear hK K
                                    refine norm_ (a' := ?_) ?_ ?_
                                    rotate_left
                                    · show Act.put _ (some 93) _ = _
                                      simp only [Act.put, List.setIfInBounds_toArray, List.set_cons_zero, List.set_cons_succ, i64_w, i32_w]
                                      rfl
                                    refine pure_ (i := 6) (N := some 94) (v := ?_) (a' := ?_) #[true, true, true, true, true, true, true, false, false, false, false, false, false, false, false, false] rfl rfl (any_of HT_.out (by kernel_rfl)) (fun _ _ _ h => h) (Or.inl ⟨by rfl, ?_⟩) ?_ ?_
                                    rotate_left
                                    · intro w'
                                      go_simp
                                      with_reducible rfl
                                    rotate_left
                                    · simp only [Act.put, List.setIfInBounds_toArray, List.set_cons_zero, List.set_cons_succ, i64_w, i32_w]
                                      rfl
                                    refine pure_ (i := 7) (N := some 95) (v := ?_) (a' := ?_) #[true, true, true, true, true, true, true, true, false, false, false, false, false, false, false, false] rfl rfl (any_of HT_.out (by kernel_rfl)) (fun _ _ _ h => h) (Or.inl ⟨by rfl, ?_⟩) ?_ ?_
                                    rotate_left
                                    · intro w'
                                      go_simp
                                      with_reducible rfl
                                    rotate_left
                                    · simp only [Act.put, List.setIfInBounds_toArray, List.set_cons_zero, List.set_cons_succ, i64_w, i32_w]
                                      rfl
                                    refine pure_ (i := 8) (N := some 96) (v := ?_) (a' := ?_) #[true, true, true, true, true, true, true, true, true, false, false, false, false, false, false, false] rfl rfl (any_of HT_.out (by kernel_rfl)) (fun _ _ _ h => h) (Or.inl ⟨by rfl, ?_⟩) ?_ ?_
                                    rotate_left
                                    · intro w'
                                      go_simp
                                      with_reducible rfl
                                    rotate_left
                                    · simp only [Act.put, List.setIfInBounds_toArray, List.set_cons_zero, List.set_cons_succ, i64_w, i32_w]
                                      rfl
                                    refine pure_ (i := 9) (N := some 97) (v := ?_) (a' := ?_) #[true, true, true, true, true, true, true, true, true, true, false, false, false, false, false, false] rfl rfl (any_of HT_.out (by kernel_rfl)) (fun _ _ _ h => h) (Or.inl ⟨by rfl, ?_⟩) ?_ ?_
                                    rotate_left
                                    · intro w'
                                      go_simp
                                      with_reducible rfl
                                    rotate_left
                                    · simp only [Act.put, List.setIfInBounds_toArray, List.set_cons_zero, List.set_cons_succ, i64_w, i32_w]
                                      rfl
                                    refine pure_ (i := 10) (N := some 98) (v := ?_) (a' := ?_) #[true, true, true, true, true, true, true, true, true, true, true, false, false, false, false, false] rfl rfl (any_of HT_.out (by kernel_rfl)) (fun _ _ _ h => h) (Or.inl ⟨by rfl, ?_⟩) ?_ ?_
                                    rotate_left
                                    · intro w'
                                      go_simp
                                      with_reducible rfl
                                    rotate_left
                                    · simp only [Act.put, List.setIfInBounds_toArray, List.set_cons_zero, List.set_cons_succ, i64_w, i32_w]
                                      rfl
                                    refine pure_ (i := 11) (N := some 99) (v := ?_) (a' := ?_) #[true, true, true, true, true, true, true, true, true, true, true, true, false, false, false, false] rfl rfl (any_of HT_.out (by kernel_rfl)) (fun _ _ _ h => h) (Or.inl ⟨by rfl, ?_⟩) ?_ ?_
                                    rotate_left
                                    · intro w'
                                      go_simp
                                      with_reducible rfl
                                    rotate_left
                                    · simp only [Act.put, List.setIfInBounds_toArray, List.set_cons_zero, List.set_cons_succ, i64_w, i32_w]
                                      rfl
                                    refine take_ (i := 12) (N := some 100) (v := ?_) (a' := ?_) #[true, true, true, true, true, true, true, true, true, true, true, true, true, false, false, false] rfl rfl (take_ofW HT_.out HW_.out (by kernel_rfl)) (fun _ _ _ h => h) (Or.inl ⟨by rfl, ?_⟩) hHeld ?_ ?_
                                    rotate_left
                                    · rintro w' ⟨s0, s1, s2, s3⟩
                                      go_simp
                                      with_reducible rfl
                                    rotate_left
                                    · simp only [Act.put, List.setIfInBounds_toArray, List.set_cons_zero, List.set_cons_succ, i64_w, i32_w]
                                      rfl
                                    refine one_ (i := 13) (N := some 101) #[true, true, true, true, true, true, true, true, true, true, true, true, true, true, false, false] rfl rfl (one_of HT_.out (by kernel_rfl)) (by decide) (fun K hK => ?_)
                                    refine goes_ Try.func15 (by kernel_rfl) rfl #[.slice Ao33 x2_6.length co33, .int .i64 (rd t196 x15_5)] (by rfl) rfl rfl (by (try simp only [List.map_toArray, List.map_cons, List.map_nil]); first | done | rfl | (simp only [List.length_drop, List.length_take]; rfl)) ?_
                                    with_reducible refine (deadeyelaw17_told.calls k5 _ _ x2_6 (rd t196 x15_5) false _ ?side1 ?side2 A49.out).mono ?_
                                    (case side1 => repeat (first | exact (Kd.V_reads' HO_2.out).2.2 | (with_reducible refine Kd.C_alloc ?_ _) | (with_reducible refine Kd.C_drewN ?_ _) | (with_reducible refine Kd.C_drew ?_)))
                                    (case side2 => exact (Kd.V_reads' HO_2.out).2.1)
                                    rintro e w' ⟨rfl, ⟨nd, rfl⟩⟩
                                    refine ⟨_, rfl, ?_⟩
                                    refine hK.out _ _ ⟨(blk_cell BK192.out 0).trans rfl, (blk_cell BK192.out 1).trans rfl, hHeld.2.2.1, hHeld.2.2.2⟩ (fun hHeld => ?_)
                                    clear hK K
                                    refine norm_ (a' := ?_) ?_ ?_
                                    rotate_left
                                    · show Act.put _ (some 101) _ = _
                                      simp only [Act.put, List.setIfInBounds_toArray, List.set_cons_zero, List.set_cons_succ, i64_w, i32_w]
                                      rfl
                                    refine pure_ (i := 14) (N := some 102) (v := ?_) (a' := ?_) #[true, true, true, true, true, true, true, true, true, true, true, true, true, true, true, false] rfl rfl (any_of HT_.out (by kernel_rfl)) (fun _ _ _ h => h) (Or.inl ⟨by rfl, ?_⟩) ?_ ?_
                                    rotate_left
                                    · intro w'
                                      go_simp
                                      with_reducible rfl
                                    rotate_left
                                    · simp only [Act.put, List.setIfInBounds_toArray, List.set_cons_zero, List.set_cons_succ, i64_w, i32_w]
                                      rfl
                                    refine pure_ (i := 15) (N := some 103) (v := ?_) (a' := ?_) #[true, true, true, true, true, true, true, true, true, true, true, true, true, true, true, true] rfl rfl (any_of HT_.out (by kernel_rfl)) (fun _ _ _ h => h) (Or.inl ⟨by rfl, ?_⟩) ?_ ?_
                                    rotate_left
                                    · intro w'
                                      go_simp
                                      with_reducible rfl
                                    rotate_left
                                    · simp only [Act.put, List.setIfInBounds_toArray, List.set_cons_zero, List.set_cons_succ, i64_w, i32_w]
                                      rfl
                                    refine done_ (done_of HT_.out (by kernel_rfl)) ?_
                                    try go_wp2
                                    go_roundg k5
                                    case measure => have := HJ6.out; have := HK2.out; have := HK3.out; have := HJ42.out; have := HK5.out; omega
                                    case rel => exact ⟨(false), (wrap64 (x15_5 + 1)), (by first | rfl | (simp; done) | (simp [*]; done)), (by first | rfl | (simp; done) | (simp [*]; done)), H', ⟨by have := HJ6.out; have := HK2.out; have := HK3.out; have := HJ42.out; have := HK5.out; omega⟩, ⟨by (with_reducible repeat (first | apply Kd.V_alloc | apply Kd.V_drewN | apply Kd.V_drew)); exact HO_2.out⟩, ⟨by (with_reducible repeat (first | apply Kd.V_alloc | apply Kd.V_drewN | apply Kd.V_drew)); exact HO_3.out⟩, ⟨by (with_reducible repeat (first | apply Kd.V_alloc | apply Kd.V_drewN | apply Kd.V_drew)); exact HO_193001.out⟩, ⟨by (with_reducible repeat (first | refine blk_drewN ?_ _ | refine blk_drew ?_ | refine blk_alloc ?_ _)); exact BK192.out⟩, ⟨by repeat (first | (with_reducible first | exact HB.out | apply below_alloc | apply pw_below_drewN | apply below_drew1 | refine below_set ?_ GE192.out) | exact HB.out)⟩⟩
                                · rw [if_neg c48] at H
                                  have c48b0 : decide (0 ≤ t221) = false := decide_eq_false c48
                                  clear c48
                                  have H' := Aside0.mk H
                                  clear H
                                  obtain ⟨Ao57, co57, eo57⟩ := Kd.V_slice HO_3.out
                                  subst eo57
                                  try go_wp2
                                  have n0_ := Aside0.mk (Kd.V_drew HO_2.out)
                                  have n1_ := Aside0.mk (Kd.V_drew HO_3.out)
                                  have n2_ := Aside0.mk (Kd.V_drew HO_193001.out)
                                  have n3_ := Aside0.mk (blk_drew BK192.out)
                                  have n4_ := Aside0.mk (below_drew1 HB.out)
                                  clear HO_2
                                  clear HO_3
                                  clear HO_193001
                                  clear BK192
                                  clear HB
                                  have HO_2 := n0_
                                  have HO_3 := n1_
                                  have HO_193001 := n2_
                                  have BK192 := n3_
                                  have HB := n4_
                                  clear n0_ n1_ n2_ n3_ n4_
                                  have p220 : 0 ≤ (x15_5 : Int) := of_decide_eq_true (by first | (with_reducible assumption) | assumption)
                                  have q220 : x15_5 < (t196.length : Int) := of_decide_eq_true (by first | (with_reducible assumption) | assumption)
                                  obtain ⟨ad220, e220, hx220_0⟩ := Kd.at_int (Kd.V_reads' HO_3.out).2.2 x15_5 p220 q220
                                  cases e220
                                  replace p220 := eq_true p220
                                  replace q220 := eq_true q220
                                  refine start_ (n := 16) (S := fun w' => w'.cell? ⟨gb192, 0, none⟩ = some (.int .i64 a0_0) ∧ w'.cell? ⟨gb192, 1, none⟩ = some (.slice Ao12 t193.length co12) ∧ w'.cell? (ad220.add (x15_5).toNat) = some (.int .i64 (rd t196 x15_5))) (ds := []) #[false, false, false, false, false, false, false, false, false, false, false, false, false, false, false, false] (by kernel_rfl) rfl rfl ⟨(blk_cell BK192.out 0).trans rfl, (blk_cell BK192.out 1).trans rfl, hx220_0⟩ (fun hHeld => ?_); refine with_tabW deadeyelaw17_PlanSources.tab25 deadeyelaw17_PlanSources.bits25 (fun HT_ HW_ => ?_)
                                  generalize wr.drew = w58 at HO_2 HO_3 HO_193001 BK192 HB hx220_0 hHeld ⊢
                                  refine pure_ (i := 1) (N := some 89) (v := ?_) (a' := ?_) #[false, true, false, false, false, false, false, false, false, false, false, false, false, false, false, false] rfl rfl (any_of HT_.out (by kernel_rfl)) (fun _ _ _ h => h) (Or.inl ⟨by rfl, ?_⟩) ?_ ?_
                                  rotate_left
                                  · intro w'
                                    go_simp
                                    with_reducible rfl
                                  rotate_left
                                  · simp only [Act.put, List.setIfInBounds_toArray, List.set_cons_zero, List.set_cons_succ, i64_w, i32_w]
                                    rfl
                                  refine pure_ (i := 2) (N := some 90) (v := ?_) (a' := ?_) #[false, true, true, false, false, false, false, false, false, false, false, false, false, false, false, false] rfl rfl (any_of HT_.out (by kernel_rfl)) (fun _ _ _ h => h) (Or.inl ⟨by rfl, ?_⟩) ?_ ?_
                                  rotate_left
                                  · intro w'
                                    go_simp
                                    with_reducible rfl
                                  rotate_left
                                  · simp only [Act.put, List.setIfInBounds_toArray, List.set_cons_zero, List.set_cons_succ, i64_w, i32_w]
                                    rfl
                                  refine pure_ (i := 3) (N := some 91) (v := ?_) (a' := ?_) #[false, true, true, true, false, false, false, false, false, false, false, false, false, false, false, false] rfl rfl (any_of HT_.out (by kernel_rfl)) (fun _ _ _ h => h) (Or.inl ⟨by rfl, ?_⟩) ?_ ?_
                                  rotate_left
                                  · intro w'
                                    go_simp
                                    with_reducible rfl
                                  rotate_left
                                  · simp only [Act.put, List.setIfInBounds_toArray, List.set_cons_zero, List.set_cons_succ, i64_w, i32_w]
                                    rfl
                                  refine take_ (i := 0) (N := some 88) (v := ?_) (a' := ?_) #[true, true, true, true, false, false, false, false, false, false, false, false, false, false, false, false] rfl rfl (take_ofW HT_.out HW_.out (by kernel_rfl)) (fun _ _ _ h => h) (Or.inl ⟨by rfl, ?_⟩) hHeld ?_ ?_
                                  rotate_left
                                  · rintro w' ⟨s0, s1, s2⟩
                                    go_simp
                                    with_reducible rfl
                                  rotate_left
                                  · simp only [Act.put, List.setIfInBounds_toArray, List.set_cons_zero, List.set_cons_succ, i64_w, i32_w]
                                    rfl
                                  refine take_ (i := 4) (N := some 92) (v := ?_) (a' := ?_) #[true, true, true, true, true, false, false, false, false, false, false, false, false, false, false, false] rfl rfl (take_ofW HT_.out HW_.out (by kernel_rfl)) (fun _ _ _ h => h) (Or.inl ⟨by rfl, ?_⟩) hHeld ?_ ?_
                                  rotate_left
                                  · rintro w' ⟨s0, s1, s2⟩
                                    go_simp
                                    with_reducible rfl
                                  rotate_left
                                  · simp only [Act.put, List.setIfInBounds_toArray, List.set_cons_zero, List.set_cons_succ, i64_w, i32_w]
                                    rfl
                                  refine one_ (i := 5) (N := some 93) #[true, true, true, true, true, true, false, false, false, false, false, false, false, false, false, false] rfl rfl (one_of HT_.out (by kernel_rfl)) (by decide) (fun K hK => ?_)
                                  refine goes_ Try.func17 (by kernel_rfl) rfl #[.agg #[.int .i64 a0_0, .slice Ao12 t193.length co12], .int .i64 (rd t196 x15_5)] (by rfl) rfl rfl (by (try simp only [List.map_toArray, List.map_cons, List.map_nil]); first | done | rfl | (simp only [List.length_drop, List.length_take]; rfl)) ?_
                                  with_reducible refine (deadeyeref10_Pos.calls k5 a0_0 _ _ t193 (rd t196 x15_5) t221 _ ?side1 ?side2 A47.out).mono ?_
                                  (case side1 => repeat (first | exact (Kd.V_reads' HO_193001.out).2.2 | (with_reducible refine Kd.C_alloc ?_ _) | (with_reducible refine Kd.C_drewN ?_ _) | (with_reducible refine Kd.C_drew ?_)))
                                  (case side2 => exact (Kd.V_reads' HO_193001.out).2.1)
                                  rintro e w59 ⟨rfl, hb⟩
                                  have HS2_ := (hb.cell (World.block_lt_of_cell? _ _ (hHeld.2.2))).trans (hHeld.2.2)
                                  refine ⟨_, rfl, ?_⟩
                                  have n0_ := Aside0.mk (Kd.V_below (by (with_reducible repeat (first | apply Kd.V_alloc | apply Kd.V_drewN | apply Kd.V_drew)); exact HO_2.out) hb)
                                  have n1_ := Aside0.mk (Kd.V_below (by (with_reducible repeat (first | apply Kd.V_alloc | apply Kd.V_drewN | apply Kd.V_drew)); exact HO_3.out) hb)
                                  have n2_ := Aside0.mk (Kd.V_below (by (with_reducible repeat (first | apply Kd.V_alloc | apply Kd.V_drewN | apply Kd.V_drew)); exact HO_193001.out) hb)
                                  have n3_ := Aside0.mk (blk_below (g := gb192) (o := .cells #[.int .i64 a0_0, .slice Ao12 t193.length co12] 30 (0, 0)) (by (with_reducible repeat (first | refine blk_drewN ?_ _ | refine blk_drew ?_ | refine blk_alloc ?_ _)); exact BK192.out) hb)
                                  have n4_ := Aside0.mk (below_step (by repeat (first | (with_reducible first | exact HB.out | apply below_alloc | apply pw_below_drewN | apply below_drew1 | refine below_set ?_ GE192.out) | exact HB.out)) hb)
                                  clear HO_2
                                  clear HO_3
                                  clear HO_193001
                                  clear BK192
                                  clear HB
                                  have HO_2 := n0_
                                  have HO_3 := n1_
                                  have HO_193001 := n2_
                                  have BK192 := n3_
                                  have HB := n4_
                                  clear n0_ n1_ n2_ n3_ n4_
                                  (try clear hb)
                                  (try clear hb2)
                                  (try clear hk)
                                  (try clear hi)
                                  refine hK.out _ _ ⟨(blk_cell BK192.out 0).trans rfl, (blk_cell BK192.out 1).trans rfl, HS2_⟩ (fun hHeld => ?_)
                                  clear hK K
                                  refine norm_ (a' := ?_) ?_ ?_
                                  rotate_left
                                  · show Act.put _ (some 93) _ = _
                                    simp only [Act.put, List.setIfInBounds_toArray, List.set_cons_zero, List.set_cons_succ, i64_w, i32_w]
                                    rfl
                                  refine pure_ (i := 6) (N := some 94) (v := ?_) (a' := ?_) #[true, true, true, true, true, true, true, false, false, false, false, false, false, false, false, false] rfl rfl (any_of HT_.out (by kernel_rfl)) (fun _ _ _ h => h) (Or.inl ⟨by rfl, ?_⟩) ?_ ?_
                                  rotate_left
                                  · intro w'
                                    go_simp
                                    with_reducible rfl
                                  rotate_left
                                  · simp only [Act.put, List.setIfInBounds_toArray, List.set_cons_zero, List.set_cons_succ, i64_w, i32_w]
                                    rfl
                                  refine pure_ (i := 7) (N := some 95) (v := ?_) (a' := ?_) #[true, true, true, true, true, true, true, true, false, false, false, false, false, false, false, false] rfl rfl (any_of HT_.out (by kernel_rfl)) (fun _ _ _ h => h) (Or.inl ⟨by rfl, ?_⟩) ?_ ?_
                                  rotate_left
                                  · intro w'
                                    go_simp
                                    with_reducible rfl
                                  rotate_left
                                  · simp only [Act.put, List.setIfInBounds_toArray, List.set_cons_zero, List.set_cons_succ, i64_w, i32_w]
                                    rfl
                                  refine pure_ (i := 8) (N := some 96) (v := undef) (a' := ?_) #[true, true, true, true, true, true, true, true, true, false, false, false, false, false, false, false] rfl rfl (any_of HT_.out (by kernel_rfl)) (fun _ _ _ h => h) (Or.inr ⟨by rfl, rfl⟩) ?_ ?_
                                  rotate_left
                                  · simp only [Act.put, List.setIfInBounds_toArray, List.set_cons_zero, List.set_cons_succ, i64_w, i32_w]
                                    rfl
                                  refine pure_ (i := 9) (N := some 97) (v := undef) (a' := ?_) #[true, true, true, true, true, true, true, true, true, true, false, false, false, false, false, false] rfl rfl (any_of HT_.out (by kernel_rfl)) (fun _ _ _ h => h) (Or.inr ⟨by rfl, rfl⟩) ?_ ?_
                                  rotate_left
                                  · simp only [Act.put, List.setIfInBounds_toArray, List.set_cons_zero, List.set_cons_succ, i64_w, i32_w]
                                    rfl
                                  refine pure_ (i := 10) (N := some 98) (v := undef) (a' := ?_) #[true, true, true, true, true, true, true, true, true, true, true, false, false, false, false, false] rfl rfl (any_of HT_.out (by kernel_rfl)) (fun _ _ _ h => h) (Or.inr ⟨by rfl, rfl⟩) ?_ ?_
                                  rotate_left
                                  · simp only [Act.put, List.setIfInBounds_toArray, List.set_cons_zero, List.set_cons_succ, i64_w, i32_w]
                                    rfl
                                  refine pure_ (i := 11) (N := some 99) (v := undef) (a' := ?_) #[true, true, true, true, true, true, true, true, true, true, true, true, false, false, false, false] rfl rfl (any_of HT_.out (by kernel_rfl)) (fun _ _ _ h => h) (Or.inr ⟨by rfl, rfl⟩) ?_ ?_
                                  rotate_left
                                  · simp only [Act.put, List.setIfInBounds_toArray, List.set_cons_zero, List.set_cons_succ, i64_w, i32_w]
                                    rfl
                                  refine pure_ (i := 12) (N := some 100) (v := undef) (a' := ?_) #[true, true, true, true, true, true, true, true, true, true, true, true, true, false, false, false] rfl rfl (any_of HT_.out (by kernel_rfl)) (fun _ _ _ h => h) (Or.inr ⟨by rfl, rfl⟩) ?_ ?_
                                  rotate_left
                                  · simp only [Act.put, List.setIfInBounds_toArray, List.set_cons_zero, List.set_cons_succ, i64_w, i32_w]
                                    rfl
                                  refine pure_ (i := 13) (N := some 101) (v := undef) (a' := ?_) #[true, true, true, true, true, true, true, true, true, true, true, true, true, true, false, false] rfl rfl (any_of HT_.out (by kernel_rfl)) (fun _ _ _ h => h) (Or.inr ⟨by rfl, rfl⟩) ?_ ?_
                                  rotate_left
                                  · simp only [Act.put, List.setIfInBounds_toArray, List.set_cons_zero, List.set_cons_succ, i64_w, i32_w]
                                    rfl
                                  refine pure_ (i := 14) (N := some 102) (v := undef) (a' := ?_) #[true, true, true, true, true, true, true, true, true, true, true, true, true, true, true, false] rfl rfl (any_of HT_.out (by kernel_rfl)) (fun _ _ _ h => h) (Or.inr ⟨by rfl, rfl⟩) ?_ ?_
                                  rotate_left
                                  · simp only [Act.put, List.setIfInBounds_toArray, List.set_cons_zero, List.set_cons_succ, i64_w, i32_w]
                                    rfl
                                  refine pure_ (i := 15) (N := some 103) (v := ?_) (a' := ?_) #[true, true, true, true, true, true, true, true, true, true, true, true, true, true, true, true] rfl rfl (any_of HT_.out (by kernel_rfl)) (fun _ _ _ h => h) (Or.inl ⟨by rfl, ?_⟩) ?_ ?_
                                  rotate_left
                                  · intro w'
                                    go_simp
                                    with_reducible rfl
                                  rotate_left
                                  · simp only [Act.put, List.setIfInBounds_toArray, List.set_cons_zero, List.set_cons_succ, i64_w, i32_w]
                                    rfl
                                  refine done_ (done_of HT_.out (by kernel_rfl)) ?_
                                  try go_wp2
                                  go_roundg k5
                                  case measure => have := HJ6.out; have := HK2.out; have := HK3.out; have := HJ42.out; have := HK5.out; omega
                                  case rel => exact ⟨(x14_5), (wrap64 (x15_5 + 1)), (by first | rfl | (simp; done) | (simp [*]; done)), (by first | rfl | (simp; done) | (simp [*]; done)), H', ⟨by have := HJ6.out; have := HK2.out; have := HK3.out; have := HJ42.out; have := HK5.out; omega⟩, ⟨by (with_reducible repeat (first | apply Kd.V_alloc | apply Kd.V_drewN | apply Kd.V_drew)); exact HO_2.out⟩, ⟨by (with_reducible repeat (first | apply Kd.V_alloc | apply Kd.V_drewN | apply Kd.V_drew)); exact HO_3.out⟩, ⟨by (with_reducible repeat (first | apply Kd.V_alloc | apply Kd.V_drewN | apply Kd.V_drew)); exact HO_193001.out⟩, ⟨by (with_reducible repeat (first | refine blk_drewN ?_ _ | refine blk_drew ?_ | refine blk_alloc ?_ _)); exact BK192.out⟩, ⟨by repeat (first | (with_reducible first | exact HB.out | apply below_alloc | apply pw_below_drewN | apply below_drew1 | refine below_set ?_ GE192.out) | exact HB.out)⟩⟩
                              · rw [if_neg c46] at H
                                exact absurd H (by simp)
                            · rw [if_neg c45] at H
                              have c45b0 : decide (x15_5 < (t196.length : Int)) = false := decide_eq_false c45
                              clear c45
                              replace H := Option.bind_eq_some_iff.mp H
                              obtain ⟨t218, A600, H⟩ := H
                              replace H : (if t218 = true then ((plan_Enough.f k5 a0_0 t193 a1 x2_6 t196).bind fun t219 => (some (t219 == x14_5))) else (some false)) = some r := H
                              have A60 := Aside0.mk A600
                              clear A600
                              by_cases c61 : t218 = true
                              · subst c61
                                have H1 : ((plan_Enough.f k5 a0_0 t193 a1 x2_6 t196).bind fun t219 => (some (t219 == x14_5))) = some r := by rw [if_pos rfl] at H; exact H
                                clear H
                                have H := H1
                                clear H1
                                replace H := Option.bind_eq_some_iff.mp H
                                obtain ⟨t219, A620, H⟩ := H
                                replace H : (some (t219 == x14_5)) = some r := H
                                have A62 := Aside0.mk A620
                                clear A620
                                obtain rfl := Option.some.inj H
                                obtain ⟨Ao63, co63, eo63⟩ := Kd.V_slice HO_3.out
                                subst eo63
                                go_wp2_with (first | ((with_reducible refine gate_callee (f := 12) rfl ?_); refine goesL_ (some 104) rfl rfl Try.func12 (by kernel_rfl) rfl #[] rfl (by (try simp only [List.map_toArray, List.map_cons, List.map_nil]); first | done | rfl | (simp only [List.length_drop, List.length_take]; rfl)) ?_; (with_reducible refine (deadeyelaw17_awake.calls k5  true _ A60.out).mono ?_); rintro e w64 ⟨rfl, hb⟩; refine ⟨_, rfl, ?_⟩; have n0_ := Aside0.mk (Kd.V_below (by (with_reducible repeat (first | apply Kd.V_alloc | apply Kd.V_drewN | apply Kd.V_drew)); exact HO_2.out) hb); have n1_ := Aside0.mk (Kd.V_below (by (with_reducible repeat (first | apply Kd.V_alloc | apply Kd.V_drewN | apply Kd.V_drew)); exact HO_3.out) hb); have n2_ := Aside0.mk (Kd.V_below (by (with_reducible repeat (first | apply Kd.V_alloc | apply Kd.V_drewN | apply Kd.V_drew)); exact HO_193001.out) hb); have n3_ := Aside0.mk (blk_below (g := gb192) (o := .cells #[.int .i64 a0_0, .slice Ao12 t193.length co12] 30 (0, 0)) (by (with_reducible repeat (first | refine blk_drewN ?_ _ | refine blk_drew ?_ | refine blk_alloc ?_ _)); exact BK192.out) hb); have n4_ := Aside0.mk (below_step (by repeat (first | (with_reducible first | exact HB.out | apply below_alloc | apply pw_below_drewN | apply below_drew1 | refine below_set ?_ GE192.out) | exact HB.out)) hb); clear HO_2; clear HO_3; clear HO_193001; clear BK192; clear HB; have HO_2 := n0_; have HO_3 := n1_; have HO_193001 := n2_; have BK192 := n3_; have HB := n4_; clear n0_ n1_ n2_ n3_ n4_; (try clear hb); (try clear hb2); (try clear hk); (try clear hi); have hcz65_0 : w64.cell? ⟨gb192, 0, none⟩ = some (.int .i64 a0_0) := (blk_cell BK192.out 0).trans rfl; have hcz65_1 : w64.cell? ⟨gb192, 1, none⟩ = some (.slice Ao12 t193.length co12) := (blk_cell BK192.out 1).trans rfl; have hfz65_0 := blk_frozen BK192.out 0; have hfz65_1 := blk_frozen BK192.out 1) | (go_at_call 18; (with_reducible refine (plan_Enough.calls k5 a0_0 _ _ t193 a1 _ _ x2_6 _ _ t196 t219 _ ?side1 ?side2 ?side3 ?side4 ?side5 ?side6 A62.out).mono ?_); (case side1 => repeat (first | exact (Kd.V_reads' HO_193001.out).2.2 | (with_reducible refine Kd.C_alloc ?_ _) | (with_reducible refine Kd.C_drewN ?_ _) | (with_reducible refine Kd.C_drew ?_))); (case side2 => exact (Kd.V_reads' HO_193001.out).2.1); (case side3 => repeat (first | exact (Kd.V_reads' HO_2.out).2.2 | (with_reducible refine Kd.C_alloc ?_ _) | (with_reducible refine Kd.C_drewN ?_ _) | (with_reducible refine Kd.C_drew ?_))); (case side4 => exact (Kd.V_reads' HO_2.out).2.1); (case side5 => repeat (first | exact (Kd.V_reads' HO_3.out).2.2 | (with_reducible refine Kd.C_alloc ?_ _) | (with_reducible refine Kd.C_drewN ?_ _) | (with_reducible refine Kd.C_drew ?_))); (case side6 => exact (Kd.V_reads' HO_3.out).2.1); rintro e w66 ⟨rfl, hb⟩; have n0_ := Aside0.mk (Kd.V_below (by (with_reducible repeat (first | apply Kd.V_alloc | apply Kd.V_drewN | apply Kd.V_drew)); exact HO_2.out) hb); have n1_ := Aside0.mk (Kd.V_below (by (with_reducible repeat (first | apply Kd.V_alloc | apply Kd.V_drewN | apply Kd.V_drew)); exact HO_3.out) hb); have n2_ := Aside0.mk (Kd.V_below (by (with_reducible repeat (first | apply Kd.V_alloc | apply Kd.V_drewN | apply Kd.V_drew)); exact HO_193001.out) hb); have n3_ := Aside0.mk (blk_below (g := gb192) (o := .cells #[.int .i64 a0_0, .slice Ao12 t193.length co12] 30 (0, 0)) (by (with_reducible repeat (first | refine blk_drewN ?_ _ | refine blk_drew ?_ | refine blk_alloc ?_ _)); exact BK192.out) hb); have n4_ := Aside0.mk (below_step (by repeat (first | (with_reducible first | exact HB.out | apply below_alloc | apply pw_below_drewN | apply below_drew1 | refine below_set ?_ GE192.out) | exact HB.out)) hb); clear HO_2; clear HO_3; clear HO_193001; clear BK192; clear HB; have HO_2 := n0_; have HO_3 := n1_; have HO_193001 := n2_; have BK192 := n3_; have HB := n4_; clear n0_ n1_ n2_ n3_ n4_; (try clear hb); (try clear hb2); (try clear hk); (try clear hi)))
                                go_ret
                                exact ⟨by first | rfl | (simp [errW_none, errW_some] <;> rfl) | (simp [*, errW_none, errW_some] <;> rfl), by repeat (first | (with_reducible first | exact HB.out | apply below_alloc | apply pw_below_drewN | apply below_drew1 | refine below_set ?_ GE192.out) | exact HB.out)⟩
                              · replace c61 := Bool.eq_false_iff.mpr c61
                                subst c61
                                have H1 : (some false) = some r := by rw [if_neg (show ¬ (false = true) by decide)] at H; exact H
                                clear H
                                have H := H1
                                clear H1
                                obtain rfl := Option.some.inj H
                                obtain ⟨Ao67, co67, eo67⟩ := Kd.V_slice HO_3.out
                                subst eo67
                                go_wp2_with (first | ((with_reducible refine gate_callee (f := 12) rfl ?_); refine goesL_ (some 104) rfl rfl Try.func12 (by kernel_rfl) rfl #[] rfl (by (try simp only [List.map_toArray, List.map_cons, List.map_nil]); first | done | rfl | (simp only [List.length_drop, List.length_take]; rfl)) ?_; (with_reducible refine (deadeyelaw17_awake.calls k5  false _ A60.out).mono ?_); rintro e w68 ⟨rfl, hb⟩; refine ⟨_, rfl, ?_⟩; have n0_ := Aside0.mk (Kd.V_below (by (with_reducible repeat (first | apply Kd.V_alloc | apply Kd.V_drewN | apply Kd.V_drew)); exact HO_2.out) hb); have n1_ := Aside0.mk (Kd.V_below (by (with_reducible repeat (first | apply Kd.V_alloc | apply Kd.V_drewN | apply Kd.V_drew)); exact HO_3.out) hb); have n2_ := Aside0.mk (Kd.V_below (by (with_reducible repeat (first | apply Kd.V_alloc | apply Kd.V_drewN | apply Kd.V_drew)); exact HO_193001.out) hb); have n3_ := Aside0.mk (blk_below (g := gb192) (o := .cells #[.int .i64 a0_0, .slice Ao12 t193.length co12] 30 (0, 0)) (by (with_reducible repeat (first | refine blk_drewN ?_ _ | refine blk_drew ?_ | refine blk_alloc ?_ _)); exact BK192.out) hb); have n4_ := Aside0.mk (below_step (by repeat (first | (with_reducible first | exact HB.out | apply below_alloc | apply pw_below_drewN | apply below_drew1 | refine below_set ?_ GE192.out) | exact HB.out)) hb); clear HO_2; clear HO_3; clear HO_193001; clear BK192; clear HB; have HO_2 := n0_; have HO_3 := n1_; have HO_193001 := n2_; have BK192 := n3_; have HB := n4_; clear n0_ n1_ n2_ n3_ n4_; (try clear hb); (try clear hb2); (try clear hk); (try clear hi)))
                                go_ret
                                exact ⟨by first | rfl | (simp [errW_none, errW_some] <;> rfl) | (simp [*, errW_none, errW_some] <;> rfl), by repeat (first | (with_reducible first | exact HB.out | apply below_alloc | apply pw_below_drewN | apply below_drew1 | refine below_set ?_ GE192.out) | exact HB.out)⟩
            · rw [if_neg c31] at H
              have c31b0 : ((t213.length : Int) == (x9_2.length : Int)) = false := beq_eq_false_iff_ne.mpr c31
              have c31b1 : ((t213.length : Int) != (x9_2.length : Int)) = true := bne_iff_ne.mpr c31
              have c31b2 : (t213.length == x9_2.length) = false := by first | simpa using c31 | (simp at c31 ⊢; omega)
              obtain rfl := Option.some.inj H
              have hcz69_0 : wr.cell? ⟨gb192, 0, none⟩ = some (.int .i64 a0_0) := (blk_cell BK192.out 0).trans rfl
              have hcz69_1 : wr.cell? ⟨gb192, 1, none⟩ = some (.slice Ao12 t193.length co12) := (blk_cell BK192.out 1).trans rfl
              have hfz69_0 := blk_frozen BK192.out 0
              have hfz69_1 := blk_frozen BK192.out 1
              obtain ⟨Ao70, co70, eo70⟩ := Kd.V_slice HO_2.out
              subst eo70
              go_wp2_with (first | ((with_reducible refine gate_callee (f := 16) rfl ?_); refine goesL_ (some 54) rfl rfl Try.func16 (by kernel_rfl) rfl #[.agg #[.int .i64 a0_0, .slice Ao12 t193.length co12], .slice Ao70 x2_6.length co70] rfl (by (try simp only [List.map_toArray, List.map_cons, List.map_nil]); first | done | rfl | (simp only [List.length_drop, List.length_take]; rfl)) ?_; (with_reducible refine (plan_Sources.calls k2 a0_0 _ _ t193 _ _ x2_6 t213 _ ?side1 ?side2 ?side3 ?side4 A30.out).mono ?_); (case side1 => repeat (first | exact (Kd.V_reads' HO_193001.out).2.2 | (with_reducible refine Kd.C_alloc ?_ _) | (with_reducible refine Kd.C_drewN ?_ _) | (with_reducible refine Kd.C_drew ?_))); (case side2 => exact (Kd.V_reads' HO_193001.out).2.1); (case side3 => repeat (first | exact (Kd.V_reads' HO_2.out).2.2 | (with_reducible refine Kd.C_alloc ?_ _) | (with_reducible refine Kd.C_drewN ?_ _) | (with_reducible refine Kd.C_drew ?_))); (case side4 => exact (Kd.V_reads' HO_2.out).2.1); rintro e w71 ⟨v214, rfl, ho0, hb⟩; refine ⟨_, rfl, ?_⟩; have n0_ := Aside0.mk (Kd.V_elder' (by (with_reducible repeat (first | apply Kd.V_alloc | apply Kd.V_drewN | apply Kd.V_drew)); exact HO_2.out) (Kd.R_base ho0) hb); have n1_ := Aside0.mk (Kd.V_elder' (by (with_reducible repeat (first | apply Kd.V_alloc | apply Kd.V_drewN | apply Kd.V_drew)); exact HO_3.out) (Kd.R_base ho0) hb); have n2_ := Aside0.mk (Kd.R_elder' (by (with_reducible repeat (first | apply Kd.R_alloc | apply Kd.R_drewN | apply Kd.R_drew)); exact HO_9.out) (Kd.R_base ho0) hb); have n3_ := Aside0.mk (Kd.V_elder' (by (with_reducible repeat (first | apply Kd.V_alloc | apply Kd.V_drewN | apply Kd.V_drew)); exact HO_193001.out) (Kd.R_base ho0) hb); have n4_ := Aside0.mk (Kd.R_lower (Kd.R_new' (Kd.R_newM (M := fun k_ => (w.heap.size ≤ k_)) ho0 (below_size (by repeat (first | (with_reducible first | exact HB.out | apply below_alloc | apply pw_below_drewN | apply below_drew1 | refine below_set ?_ GE192.out) | exact HB.out))) (fun k_ h_ => h_)) (Kd.R_lt (by (with_reducible repeat (first | apply Kd.R_alloc | apply Kd.R_drewN | apply Kd.R_drew)); exact HO_9.out))) (below_size (by repeat (first | (with_reducible first | exact HB.out | apply below_alloc | apply pw_below_drewN | apply below_drew1 | refine below_set ?_ GE192.out) | exact HB.out)))); have n5_ := Aside0.mk (blk_below (g := gb192) (o := .cells #[.int .i64 a0_0, .slice Ao12 t193.length co12] 30 (0, 0)) (by (with_reducible repeat (first | refine blk_drewN ?_ _ | refine blk_drew ?_ | refine blk_alloc ?_ _)); exact BK192.out) hb); have n6_ := Aside0.mk (below_step (by repeat (first | (with_reducible first | exact HB.out | apply below_alloc | apply pw_below_drewN | apply below_drew1 | refine below_set ?_ GE192.out) | exact HB.out)) hb); clear HO_2; clear HO_3; clear HO_9; clear HO_193001; clear BK192; clear HB; have HO_2 := n0_; have HO_3 := n1_; have HO_9 := n2_; have HO_193001 := n3_; have HO215 := n4_; have BK192 := n5_; have HB := n6_; clear n0_ n1_ n2_ n3_ n4_ n5_ n6_; (try clear hb); (try clear hb2); (try clear hk); (try clear hi); (try clear ho0); obtain ⟨Ao72, co72, eo72⟩ := Kd.R_slice HO215.out; subst eo72; obtain ⟨Ao73, co73, eo73⟩ := Kd.R_slice HO_9.out; subst eo73))
              go_ret
              exact ⟨by first | rfl | (simp [errW_none, errW_some] <;> rfl) | (simp [*, errW_none, errW_some] <;> rfl), by repeat (first | (with_reducible first | exact HB.out | apply below_alloc | apply pw_below_drewN | apply below_drew1 | refine below_set ?_ GE192.out) | exact HB.out)⟩

end Go.Proofs.Yteeeiaggkdlolaa.Pl
