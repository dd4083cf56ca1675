-- Lean text written by a program of this session (xp) for this seat's functions
import Derived.Test.YteeeiaggkdlolaaPl0
import Derived.Test.YteeeiaggkdlolaaPl3
import Derived.Test.YteeeiaggkdlolaaPl4
import Derived.Test.YteeeiaggkdlolaaPl6
namespace Go.Proofs.Yteeeiaggkdlolaa.Pl
open Go.RowKit Go.Proofs.YteeeiaggkdlolaaW.PrintWords Go.Proofs.YteeeiaggkdlolaaW.PrintLast Go.Proofs.YteeeiaggkdlolaaW.PrintMore
attribute [local go_sem] max2_int min2_int max_two min_two max_three min_three max_four min_four   -- for this text's walks alone
set_option linter.unusedVariables false
set_option linter.unusedSimpArgs false

/-! ### deadeyelaw17_PlanMembers: function 5 -/
mutual
def deadeyelaw17_PlanMembers.j0 : Nat → Int → List (S26) → List Int → Int → List Int → Option (Bool)
  | 0, _, _, _, _, _ => none
  | k + 1, x1, x2, x3, x226000, x226001 => deadeyelaw17_PlanMembers.l0 k x1 x2 x3 0 x226000 x226001
def deadeyelaw17_PlanMembers.l0 : Nat → Int → List (S26) → List Int → Int → Int → List Int → Option (Bool)
  | 0, _, _, _, _, _, _ => none
  | k + 1, x1, x2, x3, x9, x226000, x226001 => if x9 < (x3.length : Int) then (if 0 ≤ x9 then (if x9 ≤ (x3.length : Int) then ((deadeyelaw17_in.f k (x3.take (x9 : Int).toNat) (rd x3 x9)).bind fun t243 => (if t243 = true then ((deadeyelaw17_awake.f k).bind fun t244 => (some t244)) else (deadeyelaw17_PlanMembers.l0 k x1 x2 x3 (wrap64 (x9 + 1)) x226000 x226001))) else (none)) else (none)) else (deadeyelaw17_PlanMembers.l1 k x1 x2 x3 0 x226000 x226001)
def deadeyelaw17_PlanMembers.l1 : Nat → Int → List (S26) → List Int → Int → Int → List Int → Option (Bool)
  | 0, _, _, _, _, _, _ => none
  | k + 1, x1, x2, x3, x10, x226000, x226001 => if x10 < (x226001.length : Int) then (if 0 ≤ x10 then (if x10 ≤ (x226001.length : Int) then ((deadeyelaw17_in.f k (x226001.take (x10 : Int).toNat) (rd x226001 x10)).bind fun t251 => (if t251 = true then ((deadeyelaw17_awake.f k).bind fun t252 => (some t252)) else (deadeyelaw17_PlanMembers.l1 k x1 x2 x3 (wrap64 (x10 + 1)) x226000 x226001))) else (none)) else (none)) else (deadeyelaw17_PlanMembers.l2 k x1 x2 x3 (([] : List Int)) 0 x226000 x226001)
def deadeyelaw17_PlanMembers.l2 : Nat → Int → List (S26) → List Int → List Int → Int → Int → List Int → Option (Bool)
  | 0, _, _, _, _, _, _, _ => none
  | k + 1, x1, x2, x3, x11, x12, x226000, x226001 => if x12 < (x226001.length : Int) then (if 0 ≤ x12 then ((deadeyelaw17_told.f k x2 (rd x226001 x12)).bind fun t257 => (if t257 = true then ((deadeyelaw17_in.f k x3 (rd x226001 x12)).bind fun t259 => (if t259 = true then (if x11.length < 17592186044416 then (deadeyelaw17_PlanMembers.l2 k x1 x2 x3 (x11 ++ [rd x226001 x12]) (wrap64 (x12 + 1)) x226000 x226001) else (none)) else (deadeyelaw17_PlanMembers.l2 k x1 x2 x3 x11 (wrap64 (x12 + 1)) x226000 x226001))) else (deadeyelaw17_PlanMembers.l2 k x1 x2 x3 x11 (wrap64 (x12 + 1)) x226000 x226001))) else (none)) else (deadeyelaw17_PlanMembers.l3 k x1 x2 x3 x11 x226000 x226001)
def deadeyelaw17_PlanMembers.l3 : Nat → Int → List (S26) → List Int → List Int → Int → List Int → Option (Bool)
  | 0, _, _, _, _, _, _ => none
  | k + 1, x1, x2, x3, x11, x226000, x226001 => deadeyelaw17_PlanMembers.l4 k x1 x2 x3 x11 0 false 0 x226000 x226001
def deadeyelaw17_PlanMembers.l4 : Nat → Int → List (S26) → List Int → List Int → Int → Bool → Int → Int → List Int → Option (Bool)
  | 0, _, _, _, _, _, _, _, _, _ => none
  | k + 1, x1, x2, x3, x11, x13, x14, x15, x226000, x226001 => if x15 < (x3.length : Int) then (if 0 ≤ x15 then ((deadeyelaw17_in.f k x11 (rd x3 x15)).bind fun t265 => (if t265 = true then (deadeyelaw17_PlanMembers.l4 k x1 x2 x3 x11 x13 x14 (wrap64 (x15 + 1)) x226000 x226001) else (if x14 = true then (if (rd x3 x15) < x13 then (deadeyelaw17_PlanMembers.l4 k x1 x2 x3 x11 (rd x3 x15) true (wrap64 (x15 + 1)) x226000 x226001) else (deadeyelaw17_PlanMembers.l4 k x1 x2 x3 x11 x13 x14 (wrap64 (x15 + 1)) x226000 x226001)) else (deadeyelaw17_PlanMembers.l4 k x1 x2 x3 x11 (rd x3 x15) true (wrap64 (x15 + 1)) x226000 x226001)))) else (none)) else (if x14 = true then (if x11.length < 17592186044416 then (deadeyelaw17_PlanMembers.l3 k x1 x2 x3 (x11 ++ [x13]) x226000 x226001) else (none)) else ((plan_Members.f k x226000 x226001 x1 x2 x3).bind fun bt272 => (if x1 < 0 then (deadeyelaw17_PlanMembers.j6 k x1 x11 bt272.1 bt272.2 true) else (deadeyelaw17_PlanMembers.j6 k x1 x11 bt272.1 bt272.2 (decide (x1 > (x11.length : Int)))))))
def deadeyelaw17_PlanMembers.j6 : Nat → Int → List Int → List Int → Bool → Bool → Option (Bool)
  | 0, _, _, _, _, _ => none
  | k + 1, x1, x11, x16, x17, x144 => if x144 = true then ((deadeyelaw17_awake.f k).bind fun t276 => (if t276 = true then (if x17 = true then (some false) else (some ((x16.length : Int) == 0))) else (some false))) else ((deadeyelaw17_awake.f k).bind fun t277 => (if t277 = true then (if x17 = true then (if 0 ≤ x1 then (if x1 ≤ (x11.length : Int) then ((deadeyeref07_Ints.f k x16 (x11.take (x1 : Int).toNat)).bind fun t282 => (some t282)) else (none)) else (none)) else (some false)) else (some false)))
end
def deadeyelaw17_PlanMembers.f (k : Nat) (a0_0 : Int) (l0_1 : List Int) (a1 : Int) (l2 : List (S26)) (l3 : List Int) : Option (Bool) := (deadeyelaw17_small.f l0_1).bind fun t226 => ((deadeyelaw17_small.f l3).bind fun t229 => (if (l2.length : Int) > 40 then (if 40 ≤ (l2.length : Int) then (deadeyelaw17_PlanMembers.j0 k a1 (l2.take 40) t229 a0_0 t226) else (none)) else (deadeyelaw17_PlanMembers.j0 k a1 l2 t229 a0_0 t226)))
theorem deadeyelaw17_PlanMembers.mono_l : ∀ k, (∀ y0 y1 y2 y3 y4, LeO (deadeyelaw17_PlanMembers.j0 k y0 y1 y2 y3 y4) (deadeyelaw17_PlanMembers.j0 (k + 1) y0 y1 y2 y3 y4)) ∧ (∀ y0 y1 y2 y3 y4 y5, LeO (deadeyelaw17_PlanMembers.l0 k y0 y1 y2 y3 y4 y5) (deadeyelaw17_PlanMembers.l0 (k + 1) y0 y1 y2 y3 y4 y5)) ∧ (∀ y0 y1 y2 y3 y4 y5, LeO (deadeyelaw17_PlanMembers.l1 k y0 y1 y2 y3 y4 y5) (deadeyelaw17_PlanMembers.l1 (k + 1) y0 y1 y2 y3 y4 y5)) ∧ (∀ y0 y1 y2 y3 y4 y5 y6, LeO (deadeyelaw17_PlanMembers.l2 k y0 y1 y2 y3 y4 y5 y6) (deadeyelaw17_PlanMembers.l2 (k + 1) y0 y1 y2 y3 y4 y5 y6)) ∧ (∀ y0 y1 y2 y3 y4 y5, LeO (deadeyelaw17_PlanMembers.l3 k y0 y1 y2 y3 y4 y5) (deadeyelaw17_PlanMembers.l3 (k + 1) y0 y1 y2 y3 y4 y5)) ∧ (∀ y0 y1 y2 y3 y4 y5 y6 y7 y8, LeO (deadeyelaw17_PlanMembers.l4 k y0 y1 y2 y3 y4 y5 y6 y7 y8) (deadeyelaw17_PlanMembers.l4 (k + 1) y0 y1 y2 y3 y4 y5 y6 y7 y8)) ∧ (∀ y0 y1 y2 y3 y4, LeO (deadeyelaw17_PlanMembers.j6 k y0 y1 y2 y3 y4) (deadeyelaw17_PlanMembers.j6 (k + 1) y0 y1 y2 y3 y4))
  | 0 => ⟨fun _ _ _ _ _ r h => by simp [deadeyelaw17_PlanMembers.j0] at h, fun _ _ _ _ _ _ r h => by simp [deadeyelaw17_PlanMembers.l0] at h, fun _ _ _ _ _ _ r h => by simp [deadeyelaw17_PlanMembers.l1] at h, fun _ _ _ _ _ _ _ r h => by simp [deadeyelaw17_PlanMembers.l2] at h, fun _ _ _ _ _ _ r h => by simp [deadeyelaw17_PlanMembers.l3] at h, fun _ _ _ _ _ _ _ _ _ r h => by simp [deadeyelaw17_PlanMembers.l4] at h, fun _ _ _ _ _ r h => by simp [deadeyelaw17_PlanMembers.j6] at h⟩
  | k + 1 => by
    obtain ⟨ih0, ih1, ih2, ih3, ih4, ih5, ih6⟩ := deadeyelaw17_PlanMembers.mono_l k
    refine ⟨?_, ?_, ?_, ?_, ?_, ?_, ?_⟩
    · intro y0 y1 y2 y3 y4
      unfold deadeyelaw17_PlanMembers.j0
      repeat' first
      | (with_reducible exact ih0 _ _ _ _ _)
      | (with_reducible exact ih1 _ _ _ _ _ _)
      | (with_reducible exact ih2 _ _ _ _ _ _)
      | (with_reducible exact ih3 _ _ _ _ _ _ _)
      | (with_reducible exact ih4 _ _ _ _ _ _)
      | (with_reducible exact ih5 _ _ _ _ _ _ _ _ _)
      | (with_reducible exact ih6 _ _ _ _ _)
      | (with_reducible exact deadeyelaw17_awake.mono _)
      | (with_reducible exact deadeyelaw17_in.mono _ _ _)
      | (with_reducible exact deadeyelaw17_told.mono _ _ _)
      | (with_reducible exact deadeyeref07_Ints.mono _ _ _)
      | (with_reducible exact plan_Members.mono _ _ _ _ _ _)
      | (with_reducible exact LeO.refl _)
      | (with_reducible exact LeO.none _)
      | (with_reducible refine LeO.ite ?_ ?_)
      | (with_reducible refine LeO.bind ?_ (fun _ => ?_))
      | exact ih0 _ _ _ _ _
      | exact ih1 _ _ _ _ _ _
      | exact ih2 _ _ _ _ _ _
      | exact ih3 _ _ _ _ _ _ _
      | exact ih4 _ _ _ _ _ _
      | exact ih5 _ _ _ _ _ _ _ _ _
      | exact ih6 _ _ _ _ _
      | exact deadeyelaw17_awake.mono _
      | exact deadeyelaw17_in.mono _ _ _
      | exact deadeyelaw17_told.mono _ _ _
      | exact deadeyeref07_Ints.mono _ _ _
      | exact plan_Members.mono _ _ _ _ _ _
      | exact LeO.none _
      | refine LeO.ite ?_ ?_
      | refine LeO.bind ?_ (fun _ => ?_)
    · intro y0 y1 y2 y3 y4 y5
      unfold deadeyelaw17_PlanMembers.l0
      repeat' first
      | (with_reducible exact ih0 _ _ _ _ _)
      | (with_reducible exact ih1 _ _ _ _ _ _)
      | (with_reducible exact ih2 _ _ _ _ _ _)
      | (with_reducible exact ih3 _ _ _ _ _ _ _)
      | (with_reducible exact ih4 _ _ _ _ _ _)
      | (with_reducible exact ih5 _ _ _ _ _ _ _ _ _)
      | (with_reducible exact ih6 _ _ _ _ _)
      | (with_reducible exact deadeyelaw17_awake.mono _)
      | (with_reducible exact deadeyelaw17_in.mono _ _ _)
      | (with_reducible exact deadeyelaw17_told.mono _ _ _)
      | (with_reducible exact deadeyeref07_Ints.mono _ _ _)
      | (with_reducible exact plan_Members.mono _ _ _ _ _ _)
      | (with_reducible exact LeO.refl _)
      | (with_reducible exact LeO.none _)
      | (with_reducible refine LeO.ite ?_ ?_)
      | (with_reducible refine LeO.bind ?_ (fun _ => ?_))
      | exact ih0 _ _ _ _ _
      | exact ih1 _ _ _ _ _ _
      | exact ih2 _ _ _ _ _ _
      | exact ih3 _ _ _ _ _ _ _
      | exact ih4 _ _ _ _ _ _
      | exact ih5 _ _ _ _ _ _ _ _ _
      | exact ih6 _ _ _ _ _
      | exact deadeyelaw17_awake.mono _
      | exact deadeyelaw17_in.mono _ _ _
      | exact deadeyelaw17_told.mono _ _ _
      | exact deadeyeref07_Ints.mono _ _ _
      | exact plan_Members.mono _ _ _ _ _ _
      | exact LeO.none _
      | refine LeO.ite ?_ ?_
      | refine LeO.bind ?_ (fun _ => ?_)
    · intro y0 y1 y2 y3 y4 y5
      unfold deadeyelaw17_PlanMembers.l1
      repeat' first
      | (with_reducible exact ih0 _ _ _ _ _)
      | (with_reducible exact ih1 _ _ _ _ _ _)
      | (with_reducible exact ih2 _ _ _ _ _ _)
      | (with_reducible exact ih3 _ _ _ _ _ _ _)
      | (with_reducible exact ih4 _ _ _ _ _ _)
      | (with_reducible exact ih5 _ _ _ _ _ _ _ _ _)
      | (with_reducible exact ih6 _ _ _ _ _)
      | (with_reducible exact deadeyelaw17_awake.mono _)
      | (with_reducible exact deadeyelaw17_in.mono _ _ _)
      | (with_reducible exact deadeyelaw17_told.mono _ _ _)
      | (with_reducible exact deadeyeref07_Ints.mono _ _ _)
      | (with_reducible exact plan_Members.mono _ _ _ _ _ _)
      | (with_reducible exact LeO.refl _)
      | (with_reducible exact LeO.none _)
      | (with_reducible refine LeO.ite ?_ ?_)
      | (with_reducible refine LeO.bind ?_ (fun _ => ?_))
      | exact ih0 _ _ _ _ _
      | exact ih1 _ _ _ _ _ _
      | exact ih2 _ _ _ _ _ _
      | exact ih3 _ _ _ _ _ _ _
      | exact ih4 _ _ _ _ _ _
      | exact ih5 _ _ _ _ _ _ _ _ _
      | exact ih6 _ _ _ _ _
      | exact deadeyelaw17_awake.mono _
      | exact deadeyelaw17_in.mono _ _ _
      | exact deadeyelaw17_told.mono _ _ _
      | exact deadeyeref07_Ints.mono _ _ _
      | exact plan_Members.mono _ _ _ _ _ _
      | exact LeO.none _
      | refine LeO.ite ?_ ?_
      | refine LeO.bind ?_ (fun _ => ?_)
    · intro y0 y1 y2 y3 y4 y5 y6
      unfold deadeyelaw17_PlanMembers.l2
      repeat' first
      | (with_reducible exact ih0 _ _ _ _ _)
      | (with_reducible exact ih1 _ _ _ _ _ _)
      | (with_reducible exact ih2 _ _ _ _ _ _)
      | (with_reducible exact ih3 _ _ _ _ _ _ _)
      | (with_reducible exact ih4 _ _ _ _ _ _)
      | (with_reducible exact ih5 _ _ _ _ _ _ _ _ _)
      | (with_reducible exact ih6 _ _ _ _ _)
      | (with_reducible exact deadeyelaw17_awake.mono _)
      | (with_reducible exact deadeyelaw17_in.mono _ _ _)
      | (with_reducible exact deadeyelaw17_told.mono _ _ _)
      | (with_reducible exact deadeyeref07_Ints.mono _ _ _)
      | (with_reducible exact plan_Members.mono _ _ _ _ _ _)
      | (with_reducible exact LeO.refl _)
      | (with_reducible exact LeO.none _)
      | (with_reducible refine LeO.ite ?_ ?_)
      | (with_reducible refine LeO.bind ?_ (fun _ => ?_))
      | exact ih0 _ _ _ _ _
      | exact ih1 _ _ _ _ _ _
      | exact ih2 _ _ _ _ _ _
      | exact ih3 _ _ _ _ _ _ _
      | exact ih4 _ _ _ _ _ _
      | exact ih5 _ _ _ _ _ _ _ _ _
      | exact ih6 _ _ _ _ _
      | exact deadeyelaw17_awake.mono _
      | exact deadeyelaw17_in.mono _ _ _
      | exact deadeyelaw17_told.mono _ _ _
      | exact deadeyeref07_Ints.mono _ _ _
      | exact plan_Members.mono _ _ _ _ _ _
      | exact LeO.none _
      | refine LeO.ite ?_ ?_
      | refine LeO.bind ?_ (fun _ => ?_)
    · intro y0 y1 y2 y3 y4 y5
      unfold deadeyelaw17_PlanMembers.l3
      repeat' first
      | (with_reducible exact ih0 _ _ _ _ _)
      | (with_reducible exact ih1 _ _ _ _ _ _)
      | (with_reducible exact ih2 _ _ _ _ _ _)
      | (with_reducible exact ih3 _ _ _ _ _ _ _)
      | (with_reducible exact ih4 _ _ _ _ _ _)
      | (with_reducible exact ih5 _ _ _ _ _ _ _ _ _)
      | (with_reducible exact ih6 _ _ _ _ _)
      | (with_reducible exact deadeyelaw17_awake.mono _)
      | (with_reducible exact deadeyelaw17_in.mono _ _ _)
      | (with_reducible exact deadeyelaw17_told.mono _ _ _)
      | (with_reducible exact deadeyeref07_Ints.mono _ _ _)
      | (with_reducible exact plan_Members.mono _ _ _ _ _ _)
      | (with_reducible exact LeO.refl _)
      | (with_reducible exact LeO.none _)
      | (with_reducible refine LeO.ite ?_ ?_)
      | (with_reducible refine LeO.bind ?_ (fun _ => ?_))
      | exact ih0 _ _ _ _ _
      | exact ih1 _ _ _ _ _ _
      | exact ih2 _ _ _ _ _ _
      | exact ih3 _ _ _ _ _ _ _
      | exact ih4 _ _ _ _ _ _
      | exact ih5 _ _ _ _ _ _ _ _ _
      | exact ih6 _ _ _ _ _
      | exact deadeyelaw17_awake.mono _
      | exact deadeyelaw17_in.mono _ _ _
      | exact deadeyelaw17_told.mono _ _ _
      | exact deadeyeref07_Ints.mono _ _ _
      | exact plan_Members.mono _ _ _ _ _ _
      | exact LeO.none _
      | refine LeO.ite ?_ ?_
      | refine LeO.bind ?_ (fun _ => ?_)
    · intro y0 y1 y2 y3 y4 y5 y6 y7 y8
      unfold deadeyelaw17_PlanMembers.l4
      repeat' first
      | (with_reducible exact ih0 _ _ _ _ _)
      | (with_reducible exact ih1 _ _ _ _ _ _)
      | (with_reducible exact ih2 _ _ _ _ _ _)
      | (with_reducible exact ih3 _ _ _ _ _ _ _)
      | (with_reducible exact ih4 _ _ _ _ _ _)
      | (with_reducible exact ih5 _ _ _ _ _ _ _ _ _)
      | (with_reducible exact ih6 _ _ _ _ _)
      | (with_reducible exact deadeyelaw17_awake.mono _)
      | (with_reducible exact deadeyelaw17_in.mono _ _ _)
      | (with_reducible exact deadeyelaw17_told.mono _ _ _)
      | (with_reducible exact deadeyeref07_Ints.mono _ _ _)
      | (with_reducible exact plan_Members.mono _ _ _ _ _ _)
      | (with_reducible exact LeO.refl _)
      | (with_reducible exact LeO.none _)
      | (with_reducible refine LeO.ite ?_ ?_)
      | (with_reducible refine LeO.bind ?_ (fun _ => ?_))
      | exact ih0 _ _ _ _ _
      | exact ih1 _ _ _ _ _ _
      | exact ih2 _ _ _ _ _ _
      | exact ih3 _ _ _ _ _ _ _
      | exact ih4 _ _ _ _ _ _
      | exact ih5 _ _ _ _ _ _ _ _ _
      | exact ih6 _ _ _ _ _
      | exact deadeyelaw17_awake.mono _
      | exact deadeyelaw17_in.mono _ _ _
      | exact deadeyelaw17_told.mono _ _ _
      | exact deadeyeref07_Ints.mono _ _ _
      | exact plan_Members.mono _ _ _ _ _ _
      | exact LeO.none _
      | refine LeO.ite ?_ ?_
      | refine LeO.bind ?_ (fun _ => ?_)
    · intro y0 y1 y2 y3 y4
      unfold deadeyelaw17_PlanMembers.j6
      repeat' first
      | (with_reducible exact ih0 _ _ _ _ _)
      | (with_reducible exact ih1 _ _ _ _ _ _)
      | (with_reducible exact ih2 _ _ _ _ _ _)
      | (with_reducible exact ih3 _ _ _ _ _ _ _)
      | (with_reducible exact ih4 _ _ _ _ _ _)
      | (with_reducible exact ih5 _ _ _ _ _ _ _ _ _)
      | (with_reducible exact ih6 _ _ _ _ _)
      | (with_reducible exact deadeyelaw17_awake.mono _)
      | (with_reducible exact deadeyelaw17_in.mono _ _ _)
      | (with_reducible exact deadeyelaw17_told.mono _ _ _)
      | (with_reducible exact deadeyeref07_Ints.mono _ _ _)
      | (with_reducible exact plan_Members.mono _ _ _ _ _ _)
      | (with_reducible exact LeO.refl _)
      | (with_reducible exact LeO.none _)
      | (with_reducible refine LeO.ite ?_ ?_)
      | (with_reducible refine LeO.bind ?_ (fun _ => ?_))
      | exact ih0 _ _ _ _ _
      | exact ih1 _ _ _ _ _ _
      | exact ih2 _ _ _ _ _ _
      | exact ih3 _ _ _ _ _ _ _
      | exact ih4 _ _ _ _ _ _
      | exact ih5 _ _ _ _ _ _ _ _ _
      | exact ih6 _ _ _ _ _
      | exact deadeyelaw17_awake.mono _
      | exact deadeyelaw17_in.mono _ _ _
      | exact deadeyelaw17_told.mono _ _ _
      | exact deadeyeref07_Ints.mono _ _ _
      | exact plan_Members.mono _ _ _ _ _ _
      | exact LeO.none _
      | refine LeO.ite ?_ ?_
      | refine LeO.bind ?_ (fun _ => ?_)
theorem deadeyelaw17_PlanMembers.mono : ∀ a0 a1 a2 a3 a4 k, LeO (deadeyelaw17_PlanMembers.f k a0 a1 a2 a3 a4) (deadeyelaw17_PlanMembers.f (k + 1) a0 a1 a2 a3 a4) := by
  intro a0 a1 a2 a3 a4 k
  obtain ⟨ih0, ih1, ih2, ih3, ih4, ih5, ih6⟩ := deadeyelaw17_PlanMembers.mono_l k
  unfold deadeyelaw17_PlanMembers.f
  repeat' first
      | (with_reducible exact ih0 _ _ _ _ _)
      | (with_reducible exact ih1 _ _ _ _ _ _)
      | (with_reducible exact ih2 _ _ _ _ _ _)
      | (with_reducible exact ih3 _ _ _ _ _ _ _)
      | (with_reducible exact ih4 _ _ _ _ _ _)
      | (with_reducible exact ih5 _ _ _ _ _ _ _ _ _)
      | (with_reducible exact ih6 _ _ _ _ _)
      | (with_reducible exact deadeyelaw17_awake.mono _)
      | (with_reducible exact deadeyelaw17_in.mono _ _ _)
      | (with_reducible exact deadeyelaw17_told.mono _ _ _)
      | (with_reducible exact deadeyeref07_Ints.mono _ _ _)
      | (with_reducible exact plan_Members.mono _ _ _ _ _ _)
      | (with_reducible exact LeO.refl _)
      | (with_reducible exact LeO.none _)
      | (with_reducible refine LeO.ite ?_ ?_)
      | (with_reducible refine LeO.bind ?_ (fun _ => ?_))
      | exact ih0 _ _ _ _ _
      | exact ih1 _ _ _ _ _ _
      | exact ih2 _ _ _ _ _ _
      | exact ih3 _ _ _ _ _ _ _
      | exact ih4 _ _ _ _ _ _
      | exact ih5 _ _ _ _ _ _ _ _ _
      | exact ih6 _ _ _ _ _
      | exact deadeyelaw17_awake.mono _
      | exact deadeyelaw17_in.mono _ _ _
      | exact deadeyelaw17_told.mono _ _ _
      | exact deadeyeref07_Ints.mono _ _ _
      | exact plan_Members.mono _ _ _ _ _ _
      | exact LeO.none _
      | refine LeO.ite ?_ ?_
      | refine LeO.bind ?_ (fun _ => ?_)
set_option maxHeartbeats 8000000 in
set_option maxRecDepth 100000 in
theorem deadeyelaw17_PlanMembers.calls (k : Nat) (a0_0 : Int) (P0_1_ : Nat → Prop) (A0_1 : Option Addr) (c0_1 : Nat) (l0_1 : List Int) (a1 : Int) (P2_ : Nat → Prop) (A2 : Option Addr) (c2 : Nat) (l2 : List (S26)) (P3_ : Nat → Prop) (A3 : Option Addr) (c3 : Nat) (l3 : List Int) (r : Bool) (w : World) (hs0_1 : Kd.V (Kd.int .i64) 3 w w.heap.size (fun k_ => P0_1_ k_) (.slice A0_1 l0_1.length c0_1) l0_1) (hs2 : Kd.V k26 26 w w.heap.size (fun k_ => P2_ k_) (.slice A2 l2.length c2) l2) (hs3 : Kd.V (Kd.int .i64) 3 w w.heap.size (fun k_ => P3_ k_) (.slice A3 l3.length c3) l3) (h : deadeyelaw17_PlanMembers.f k a0_0 l0_1 a1 l2 l3 = some r) :
    Calls Try.prog 5 #[.agg #[.int .i64 a0_0, .slice A0_1 l0_1.length c0_1], .int .i64 a1, .slice A2 l2.length c2, .slice A3 l3.length c3] w fun e w' => e = .returned (.bool r) ∧ Below w.heap.size w w' := by
  have hu30 := Try.underlying30
  have HO0_1 := Aside0.mk (show Kd.V (Kd.int .i64) 3 w w.heap.size (fun k_ => ((P0_1_ k_ ∨ P2_ k_ ∨ P3_ k_) ∨ w.heap.size ≤ k_)) (.slice A0_1 l0_1.length c0_1) l0_1 from Kd.V_mono hs0_1 (fun k_ hk => .inl (.inl hk)))
  have HO2 := Aside0.mk (show Kd.V k26 26 w w.heap.size (fun k_ => ((P0_1_ k_ ∨ P2_ k_ ∨ P3_ k_) ∨ w.heap.size ≤ k_)) (.slice A2 l2.length c2) l2 from Kd.V_mono hs2 (fun k_ hk => .inl (.inr (.inl hk))))
  have HO3 := Aside0.mk (show Kd.V (Kd.int .i64) 3 w w.heap.size (fun k_ => ((P0_1_ k_ ∨ P2_ k_ ∨ P3_ k_) ∨ w.heap.size ≤ k_)) (.slice A3 l3.length c3) l3 from Kd.V_mono hs3 (fun k_ hk => .inl (.inr (.inr hk))))
  have HB := Aside0.mk (Below.refl w.heap.size w)
  have H : ((deadeyelaw17_small.f l0_1).bind fun t226 => ((deadeyelaw17_small.f l3).bind fun t229 => (if (l2.length : Int) > 40 then (if 40 ≤ (l2.length : Int) then (deadeyelaw17_PlanMembers.j0 k a1 (l2.take 40) t229 a0_0 t226) else (none)) else (deadeyelaw17_PlanMembers.j0 k a1 l2 t229 a0_0 t226)))) = some r := h
  clear h
  replace H := Option.bind_eq_some_iff.mp H
  obtain ⟨t226, A50, H⟩ := H
  replace H : ((deadeyelaw17_small.f l3).bind fun t229 => (if (l2.length : Int) > 40 then (if 40 ≤ (l2.length : Int) then (deadeyelaw17_PlanMembers.j0 k a1 (l2.take 40) t229 a0_0 t226) else (none)) else (deadeyelaw17_PlanMembers.j0 k a1 l2 t229 a0_0 t226))) = some r := H
  have A5 := Aside0.mk A50
  clear A50
  replace H := Option.bind_eq_some_iff.mp H
  obtain ⟨t229, A60, H⟩ := H
  replace H : (if (l2.length : Int) > 40 then (if 40 ≤ (l2.length : Int) then (deadeyelaw17_PlanMembers.j0 k a1 (l2.take 40) t229 a0_0 t226) else (none)) else (deadeyelaw17_PlanMembers.j0 k a1 l2 t229 a0_0 t226)) = some r := H
  have A6 := Aside0.mk A60
  clear A60
  have HC7 := Aside0.mk H
  clear H
  go_enter Try.func5, Try.ntmps5
  go_upto_if 26 with (first | ((with_reducible refine gate_dst (N := 4) rfl ?_); (try (refine gate_guard (by rfl) ?_; dsimp only)); refine box_event ?hg (N := 4) ?hd (cs := #[.int .i64 a0_0, .slice A0_1 l0_1.length c0_1]) (t := 30) ?hr ?_; (case hd => rfl); (case hg => rfl); (case hr => first | (go_simp; done) | (go_simp; rfl)); intro gb225 hg w8 hbox hb; have n0_ := Aside0.mk (Kd.V_below (Kd.V_elderB (by (with_reducible repeat (first | apply Kd.V_alloc | apply Kd.V_drewN | apply Kd.V_drew)); exact HO0_1.out) gb225 (Nat.le_of_eq hg.symm)) hb); have n1_ := Aside0.mk (Kd.V_below (Kd.V_elderB (by (with_reducible repeat (first | apply Kd.V_alloc | apply Kd.V_drewN | apply Kd.V_drew)); exact HO2.out) gb225 (Nat.le_of_eq hg.symm)) hb); have n2_ := Aside0.mk (Kd.V_below (Kd.V_elderB (by (with_reducible repeat (first | apply Kd.V_alloc | apply Kd.V_drewN | apply Kd.V_drew)); exact HO3.out) gb225 (Nat.le_of_eq hg.symm)) hb); have n3_ := Aside0.mk (below_step (by repeat (first | (with_reducible first | exact HB.out | apply below_alloc | apply pw_below_drewN | apply below_drew1) | exact HB.out)) hb); have n4_ := Aside0.mk (hbox); have n5_ := Aside0.mk ((by rw [hg]; exact (below_size (by repeat (first | (with_reducible first | exact HB.out | apply below_alloc | apply pw_below_drewN | apply below_drew1) | exact HB.out))) : w.heap.size ≤ gb225)); have n6_ := Aside0.mk ((by rw [hg]; exact (below_size (by repeat (first | (with_reducible first | exact HB.out | apply below_alloc | apply pw_below_drewN | apply below_drew1) | exact HB.out))) : w.heap.size ≤ gb225)); clear HO0_1; clear HO2; clear HO3; clear HB; have HO0_1 := n0_; have HO2 := n1_; have HO3 := n2_; have HB := n3_; have BK225 := n4_; have GW225 := n5_; have GE225 := n6_; clear n0_ n1_ n2_ n3_ n4_ n5_ n6_; clear hb hbox hg; have hcz9_0 : w8.cell? ⟨gb225, 0, none⟩ = some (.int .i64 a0_0) := (blk_cell BK225.out 0).trans rfl; have hcz9_1 : w8.cell? ⟨gb225, 1, none⟩ = some (.slice A0_1 l0_1.length c0_1) := (blk_cell BK225.out 1).trans rfl; have hfz9_0 := blk_frozen BK225.out 0; have hfz9_1 := blk_frozen BK225.out 1) | (go_at_call 14; (with_reducible refine (deadeyelaw17_small.calls (fun k_ => (((P0_1_ k_ ∨ P2_ k_ ∨ P3_ k_) ∨ w.heap.size ≤ k_) ∧ k_ ≠ gb225)) _ _ l0_1 t226 _ ?side1 A5.out).mono ?_); (case side1 => exact HO0_1.out); rintro e w10 ⟨v227, rfl, ho0, hb⟩; have n0_ := Aside0.mk (Kd.V_below (by (with_reducible repeat (first | apply Kd.V_alloc | apply Kd.V_drewN | apply Kd.V_drew)); exact HO0_1.out) hb); have n1_ := Aside0.mk (Kd.V_below (by (with_reducible repeat (first | apply Kd.V_alloc | apply Kd.V_drewN | apply Kd.V_drew)); exact HO2.out) hb); have n2_ := Aside0.mk (Kd.V_below (by (with_reducible repeat (first | apply Kd.V_alloc | apply Kd.V_drewN | apply Kd.V_drew)); exact HO3.out) hb); have n3_ := Aside0.mk (Kd.V_lower (Kd.V_mono (ok' := fun k_ => ((P0_1_ k_ ∨ P2_ k_ ∨ P3_ k_) ∨ w.heap.size ≤ k_) ∧ k_ ≠ gb225) ho0 (fun k_ hk_ => ⟨Or.elim hk_ (fun hs_ => hs_.1) (fun hn_ => (.inr (Nat.le_trans (below_size (by repeat (first | (with_reducible first | exact HB.out | apply below_alloc | apply pw_below_drewN | apply below_drew1 | refine below_set ?_ GE225.out) | exact HB.out))) hn_))), Or.elim hk_ (fun hs_ => hs_.2) (fun hn_ => (Kd.freshB (g := gb225) (o := .cells #[.int .i64 a0_0, .slice A0_1 l0_1.length c0_1] 30 (0, 0)) (by (with_reducible repeat (first | refine blk_drewN ?_ _ | refine blk_drew ?_ | refine blk_alloc ?_ _)); exact BK225.out) k_ hn_))⟩)) (below_size (by repeat (first | (with_reducible first | exact HB.out | apply below_alloc | apply pw_below_drewN | apply below_drew1 | refine below_set ?_ GE225.out) | exact HB.out)))); have n4_ := Aside0.mk (blk_below (g := gb225) (o := .cells #[.int .i64 a0_0, .slice A0_1 l0_1.length c0_1] 30 (0, 0)) (by (with_reducible repeat (first | refine blk_drewN ?_ _ | refine blk_drew ?_ | refine blk_alloc ?_ _)); exact BK225.out) hb); have n5_ := Aside0.mk (below_step (by repeat (first | (with_reducible first | exact HB.out | apply below_alloc | apply pw_below_drewN | apply below_drew1 | refine below_set ?_ GE225.out) | exact HB.out)) hb); clear HO0_1; clear HO2; clear HO3; clear BK225; clear HB; have HO0_1 := n0_; have HO2 := n1_; have HO3 := n2_; have HO228 := n3_; have BK225 := n4_; have HB := n5_; clear n0_ n1_ n2_ n3_ n4_ n5_; (try clear hb); (try clear hb2); (try clear hk); (try clear hi); (try clear ho0)) | (go_at_call 14; (with_reducible refine (deadeyelaw17_small.calls (fun k_ => (((P0_1_ k_ ∨ P2_ k_ ∨ P3_ k_) ∨ w.heap.size ≤ k_) ∧ k_ ≠ gb225)) _ _ l3 t229 _ ?side1 A6.out).mono ?_); (case side1 => exact HO3.out); rintro e w11 ⟨v230, rfl, ho0, hb⟩; have n0_ := Aside0.mk (Kd.V_below (by (with_reducible repeat (first | apply Kd.V_alloc | apply Kd.V_drewN | apply Kd.V_drew)); exact HO0_1.out) hb); have n1_ := Aside0.mk (Kd.V_below (by (with_reducible repeat (first | apply Kd.V_alloc | apply Kd.V_drewN | apply Kd.V_drew)); exact HO2.out) hb); have n2_ := Aside0.mk (Kd.V_below (by (with_reducible repeat (first | apply Kd.V_alloc | apply Kd.V_drewN | apply Kd.V_drew)); exact HO3.out) hb); have n3_ := Aside0.mk (Kd.V_below (by (with_reducible repeat (first | apply Kd.V_alloc | apply Kd.V_drewN | apply Kd.V_drew)); exact HO228.out) hb); have n4_ := Aside0.mk (Kd.V_lower (Kd.V_mono (ok' := fun k_ => ((P0_1_ k_ ∨ P2_ k_ ∨ P3_ k_) ∨ w.heap.size ≤ k_) ∧ k_ ≠ gb225) ho0 (fun k_ hk_ => ⟨Or.elim hk_ (fun hs_ => hs_.1) (fun hn_ => (.inr (Nat.le_trans (below_size (by repeat (first | (with_reducible first | exact HB.out | apply below_alloc | apply pw_below_drewN | apply below_drew1 | refine below_set ?_ GE225.out) | exact HB.out))) hn_))), Or.elim hk_ (fun hs_ => hs_.2) (fun hn_ => (Kd.freshB (g := gb225) (o := .cells #[.int .i64 a0_0, .slice A0_1 l0_1.length c0_1] 30 (0, 0)) (by (with_reducible repeat (first | refine blk_drewN ?_ _ | refine blk_drew ?_ | refine blk_alloc ?_ _)); exact BK225.out) k_ hn_))⟩)) (below_size (by repeat (first | (with_reducible first | exact HB.out | apply below_alloc | apply pw_below_drewN | apply below_drew1 | refine below_set ?_ GE225.out) | exact HB.out)))); have n5_ := Aside0.mk (blk_below (g := gb225) (o := .cells #[.int .i64 a0_0, .slice A0_1 l0_1.length c0_1] 30 (0, 0)) (by (with_reducible repeat (first | refine blk_drewN ?_ _ | refine blk_drew ?_ | refine blk_alloc ?_ _)); exact BK225.out) hb); have n6_ := Aside0.mk (below_step (by repeat (first | (with_reducible first | exact HB.out | apply below_alloc | apply pw_below_drewN | apply below_drew1 | refine below_set ?_ GE225.out) | exact HB.out)) hb); clear HO0_1; clear HO2; clear HO3; clear HO228; clear BK225; clear HB; have HO0_1 := n0_; have HO2 := n1_; have HO3 := n2_; have HO228 := n3_; have HO231 := n4_; have BK225 := n5_; have HB := n6_; clear n0_ n1_ n2_ n3_ n4_ n5_ n6_; (try clear hb); (try clear hb2); (try clear hk); (try clear hi); (try clear ho0); obtain ⟨Ao12, co12, eo12⟩ := Kd.V_slice HO228.out; subst eo12; have hcz13_0 : w11.cell? ⟨gb225, 0, none⟩ = some (.int .i64 a0_0) := (blk_cell BK225.out 0).trans rfl; have hcz13_1 : w11.cell? ⟨gb225, 1, none⟩ = some (.slice A0_1 l0_1.length c0_1) := (blk_cell BK225.out 1).trans rfl; have hfz13_0 := blk_frozen BK225.out 0; have hfz13_1 := blk_frozen BK225.out 1) | ((with_reducible refine gate_store (t := 28) (p := 23) rfl ?_); (try (rw [drewN_self w11]; generalize hq_ : World.drewN w11 _ = w11; have n0_ := Aside0.mk (Kd.V_at hq_ HO0_1.out); have n1_ := Aside0.mk (Kd.V_at hq_ HO2.out); have n2_ := Aside0.mk (Kd.V_at hq_ HO3.out); have n3_ := Aside0.mk (Kd.V_at hq_ HO228.out); have n4_ := Aside0.mk (Kd.V_at hq_ HO231.out); have n5_ := Aside0.mk (blk_at hq_ BK225.out); have n6_ := Aside0.mk (below_at hq_ HB.out); clear hq_ HO0_1 HO2 HO3 HO228 HO231 BK225 HB; have HO0_1 := n0_; have HO2 := n1_; have HO3 := n2_; have HO228 := n3_; have HO231 := n4_; have BK225 := n5_; have HB := n6_; clear n0_ n1_ n2_ n3_ n4_ n5_ n6_)); refine store_event (t := 28) (p := 23) (v := ?vo_w14) (w1 := (w11.setCell ⟨gb225, 1, none⟩ (.slice Ao12 t226.length co12))) ?hg ?ho ?hn ?hr ?_; (case ho => rfl); (case hg => rfl); (case hn => rfl); (case hr => first | (go_simp; done) | (go_simp; rfl)); intro w14 hw; have n0_ : Aside0 (Kd.V (Kd.int .i64) 3 w14 w.heap.size (fun k_ => ((P0_1_ k_ ∨ P2_ k_ ∨ P3_ k_) ∨ w.heap.size ≤ k_) ∧ k_ ≠ gb225) (.slice A0_1 l0_1.length c0_1) l0_1) := ⟨(by rw [hw]; exact (by (with_reducible repeat (first | apply Kd.V_alloc | apply Kd.V_drewN | apply Kd.V_drew)); exact Kd.V_mono (Kd.V_far (p := ⟨gb225, 1, none⟩) (Kd.V_mono HO0_1.out (fun k_ hk => (⟨hk, hk.2⟩ : _ ∧ k_ ≠ gb225))) (fun _ hk => hk.2) (.slice Ao12 t226.length co12)) (fun _ hk => ⟨hk.1.1, hk.1.2⟩)))⟩; have n1_ : Aside0 (Kd.V k26 26 w14 w.heap.size (fun k_ => ((P0_1_ k_ ∨ P2_ k_ ∨ P3_ k_) ∨ w.heap.size ≤ k_) ∧ k_ ≠ gb225) (.slice A2 l2.length c2) l2) := ⟨(by rw [hw]; exact (by (with_reducible repeat (first | apply Kd.V_alloc | apply Kd.V_drewN | apply Kd.V_drew)); exact Kd.V_mono (Kd.V_far (p := ⟨gb225, 1, none⟩) (Kd.V_mono HO2.out (fun k_ hk => (⟨hk, hk.2⟩ : _ ∧ k_ ≠ gb225))) (fun _ hk => hk.2) (.slice Ao12 t226.length co12)) (fun _ hk => ⟨hk.1.1, hk.1.2⟩)))⟩; have n2_ : Aside0 (Kd.V (Kd.int .i64) 3 w14 w.heap.size (fun k_ => ((P0_1_ k_ ∨ P2_ k_ ∨ P3_ k_) ∨ w.heap.size ≤ k_) ∧ k_ ≠ gb225) (.slice A3 l3.length c3) l3) := ⟨(by rw [hw]; exact (by (with_reducible repeat (first | apply Kd.V_alloc | apply Kd.V_drewN | apply Kd.V_drew)); exact Kd.V_mono (Kd.V_far (p := ⟨gb225, 1, none⟩) (Kd.V_mono HO3.out (fun k_ hk => (⟨hk, hk.2⟩ : _ ∧ k_ ≠ gb225))) (fun _ hk => hk.2) (.slice Ao12 t226.length co12)) (fun _ hk => ⟨hk.1.1, hk.1.2⟩)))⟩; have n3_ : Aside0 (Kd.V (Kd.int .i64) 3 w14 w.heap.size (fun k_ => ((P0_1_ k_ ∨ P2_ k_ ∨ P3_ k_) ∨ w.heap.size ≤ k_) ∧ k_ ≠ gb225) (.slice Ao12 t226.length co12) t226) := ⟨(by rw [hw]; exact (by (with_reducible repeat (first | apply Kd.V_alloc | apply Kd.V_drewN | apply Kd.V_drew)); exact Kd.V_mono (Kd.V_far (p := ⟨gb225, 1, none⟩) (Kd.V_mono HO228.out (fun k_ hk => (⟨hk, hk.2⟩ : _ ∧ k_ ≠ gb225))) (fun _ hk => hk.2) (.slice Ao12 t226.length co12)) (fun _ hk => ⟨hk.1.1, hk.1.2⟩)))⟩; have n4_ : Aside0 (Kd.V (Kd.int .i64) 3 w14 w.heap.size (fun k_ => ((P0_1_ k_ ∨ P2_ k_ ∨ P3_ k_) ∨ w.heap.size ≤ k_) ∧ k_ ≠ gb225) v230 t229) := ⟨(by rw [hw]; exact (by (with_reducible repeat (first | apply Kd.V_alloc | apply Kd.V_drewN | apply Kd.V_drew)); exact Kd.V_mono (Kd.V_far (p := ⟨gb225, 1, none⟩) (Kd.V_mono HO231.out (fun k_ hk => (⟨hk, hk.2⟩ : _ ∧ k_ ≠ gb225))) (fun _ hk => hk.2) (.slice Ao12 t226.length co12)) (fun _ hk => ⟨hk.1.1, hk.1.2⟩)))⟩; have n5_ : Aside0 (w14.heap[gb225]? = some (.cells #[.int .i64 a0_0, .slice Ao12 t226.length co12] 30 (0, 0))) := ⟨(by rw [hw]; exact (by (with_reducible repeat (first | refine blk_drewN ?_ _ | refine blk_drew ?_ | refine blk_alloc ?_ _)); refine blk_put (cs := #[.int .i64 a0_0, .slice A0_1 l0_1.length c0_1]) ?_ 1 _ rfl; (with_reducible repeat (first | refine blk_drewN ?_ _ | refine blk_drew ?_ | refine blk_alloc ?_ _)); exact BK225.out))⟩; have n6_ : Aside0 (Below w.heap.size w w14) := ⟨(by rw [hw]; exact (by repeat (first | (with_reducible first | exact HB.out | apply below_alloc | apply pw_below_drewN | apply below_drew1 | refine below_set ?_ GE225.out) | exact HB.out)))⟩; clear hw; clear HO0_1; clear HO2; clear HO3; clear HO228; clear HO231; clear BK225; clear HB; have HO0_1 := n0_; have HO2 := n1_; have HO3 := n2_; have HO228 := n3_; have HO231 := n4_; have BK225 := n5_; have HB := n6_; clear n0_ n1_ n2_ n3_ n4_ n5_ n6_))
  repeat (go_quiet (first | ((with_reducible refine gate_dst (N := 4) rfl ?_); (try (refine gate_guard (by rfl) ?_; dsimp only)); refine box_event ?hg (N := 4) ?hd (cs := #[.int .i64 a0_0, .slice A0_1 l0_1.length c0_1]) (t := 30) ?hr ?_; (case hd => rfl); (case hg => rfl); (case hr => first | (go_simp; done) | (go_simp; rfl)); intro gb225 hg w8 hbox hb; have n0_ := Aside0.mk (Kd.V_below (Kd.V_elderB (by (with_reducible repeat (first | apply Kd.V_alloc | apply Kd.V_drewN | apply Kd.V_drew)); exact HO0_1.out) gb225 (Nat.le_of_eq hg.symm)) hb); have n1_ := Aside0.mk (Kd.V_below (Kd.V_elderB (by (with_reducible repeat (first | apply Kd.V_alloc | apply Kd.V_drewN | apply Kd.V_drew)); exact HO2.out) gb225 (Nat.le_of_eq hg.symm)) hb); have n2_ := Aside0.mk (Kd.V_below (Kd.V_elderB (by (with_reducible repeat (first | apply Kd.V_alloc | apply Kd.V_drewN | apply Kd.V_drew)); exact HO3.out) gb225 (Nat.le_of_eq hg.symm)) hb); have n3_ := Aside0.mk (below_step (by repeat (first | (with_reducible first | exact HB.out | apply below_alloc | apply pw_below_drewN | apply below_drew1) | exact HB.out)) hb); have n4_ := Aside0.mk (hbox); have n5_ := Aside0.mk ((by rw [hg]; exact (below_size (by repeat (first | (with_reducible first | exact HB.out | apply below_alloc | apply pw_below_drewN | apply below_drew1) | exact HB.out))) : w.heap.size ≤ gb225)); have n6_ := Aside0.mk ((by rw [hg]; exact (below_size (by repeat (first | (with_reducible first | exact HB.out | apply below_alloc | apply pw_below_drewN | apply below_drew1) | exact HB.out))) : w.heap.size ≤ gb225)); clear HO0_1; clear HO2; clear HO3; clear HB; have HO0_1 := n0_; have HO2 := n1_; have HO3 := n2_; have HB := n3_; have BK225 := n4_; have GW225 := n5_; have GE225 := n6_; clear n0_ n1_ n2_ n3_ n4_ n5_ n6_; clear hb hbox hg; have hcz9_0 : w8.cell? ⟨gb225, 0, none⟩ = some (.int .i64 a0_0) := (blk_cell BK225.out 0).trans rfl; have hcz9_1 : w8.cell? ⟨gb225, 1, none⟩ = some (.slice A0_1 l0_1.length c0_1) := (blk_cell BK225.out 1).trans rfl; have hfz9_0 := blk_frozen BK225.out 0; have hfz9_1 := blk_frozen BK225.out 1) | (go_at_call 14; (with_reducible refine (deadeyelaw17_small.calls (fun k_ => (((P0_1_ k_ ∨ P2_ k_ ∨ P3_ k_) ∨ w.heap.size ≤ k_) ∧ k_ ≠ gb225)) _ _ l0_1 t226 _ ?side1 A5.out).mono ?_); (case side1 => exact HO0_1.out); rintro e w10 ⟨v227, rfl, ho0, hb⟩; have n0_ := Aside0.mk (Kd.V_below (by (with_reducible repeat (first | apply Kd.V_alloc | apply Kd.V_drewN | apply Kd.V_drew)); exact HO0_1.out) hb); have n1_ := Aside0.mk (Kd.V_below (by (with_reducible repeat (first | apply Kd.V_alloc | apply Kd.V_drewN | apply Kd.V_drew)); exact HO2.out) hb); have n2_ := Aside0.mk (Kd.V_below (by (with_reducible repeat (first | apply Kd.V_alloc | apply Kd.V_drewN | apply Kd.V_drew)); exact HO3.out) hb); have n3_ := Aside0.mk (Kd.V_lower (Kd.V_mono (ok' := fun k_ => ((P0_1_ k_ ∨ P2_ k_ ∨ P3_ k_) ∨ w.heap.size ≤ k_) ∧ k_ ≠ gb225) ho0 (fun k_ hk_ => ⟨Or.elim hk_ (fun hs_ => hs_.1) (fun hn_ => (.inr (Nat.le_trans (below_size (by repeat (first | (with_reducible first | exact HB.out | apply below_alloc | apply pw_below_drewN | apply below_drew1 | refine below_set ?_ GE225.out) | exact HB.out))) hn_))), Or.elim hk_ (fun hs_ => hs_.2) (fun hn_ => (Kd.freshB (g := gb225) (o := .cells #[.int .i64 a0_0, .slice A0_1 l0_1.length c0_1] 30 (0, 0)) (by (with_reducible repeat (first | refine blk_drewN ?_ _ | refine blk_drew ?_ | refine blk_alloc ?_ _)); exact BK225.out) k_ hn_))⟩)) (below_size (by repeat (first | (with_reducible first | exact HB.out | apply below_alloc | apply pw_below_drewN | apply below_drew1 | refine below_set ?_ GE225.out) | exact HB.out)))); have n4_ := Aside0.mk (blk_below (g := gb225) (o := .cells #[.int .i64 a0_0, .slice A0_1 l0_1.length c0_1] 30 (0, 0)) (by (with_reducible repeat (first | refine blk_drewN ?_ _ | refine blk_drew ?_ | refine blk_alloc ?_ _)); exact BK225.out) hb); have n5_ := Aside0.mk (below_step (by repeat (first | (with_reducible first | exact HB.out | apply below_alloc | apply pw_below_drewN | apply below_drew1 | refine below_set ?_ GE225.out) | exact HB.out)) hb); clear HO0_1; clear HO2; clear HO3; clear BK225; clear HB; have HO0_1 := n0_; have HO2 := n1_; have HO3 := n2_; have HO228 := n3_; have BK225 := n4_; have HB := n5_; clear n0_ n1_ n2_ n3_ n4_ n5_; (try clear hb); (try clear hb2); (try clear hk); (try clear hi); (try clear ho0)) | (go_at_call 14; (with_reducible refine (deadeyelaw17_small.calls (fun k_ => (((P0_1_ k_ ∨ P2_ k_ ∨ P3_ k_) ∨ w.heap.size ≤ k_) ∧ k_ ≠ gb225)) _ _ l3 t229 _ ?side1 A6.out).mono ?_); (case side1 => exact HO3.out); rintro e w11 ⟨v230, rfl, ho0, hb⟩; have n0_ := Aside0.mk (Kd.V_below (by (with_reducible repeat (first | apply Kd.V_alloc | apply Kd.V_drewN | apply Kd.V_drew)); exact HO0_1.out) hb); have n1_ := Aside0.mk (Kd.V_below (by (with_reducible repeat (first | apply Kd.V_alloc | apply Kd.V_drewN | apply Kd.V_drew)); exact HO2.out) hb); have n2_ := Aside0.mk (Kd.V_below (by (with_reducible repeat (first | apply Kd.V_alloc | apply Kd.V_drewN | apply Kd.V_drew)); exact HO3.out) hb); have n3_ := Aside0.mk (Kd.V_below (by (with_reducible repeat (first | apply Kd.V_alloc | apply Kd.V_drewN | apply Kd.V_drew)); exact HO228.out) hb); have n4_ := Aside0.mk (Kd.V_lower (Kd.V_mono (ok' := fun k_ => ((P0_1_ k_ ∨ P2_ k_ ∨ P3_ k_) ∨ w.heap.size ≤ k_) ∧ k_ ≠ gb225) ho0 (fun k_ hk_ => ⟨Or.elim hk_ (fun hs_ => hs_.1) (fun hn_ => (.inr (Nat.le_trans (below_size (by repeat (first | (with_reducible first | exact HB.out | apply below_alloc | apply pw_below_drewN | apply below_drew1 | refine below_set ?_ GE225.out) | exact HB.out))) hn_))), Or.elim hk_ (fun hs_ => hs_.2) (fun hn_ => (Kd.freshB (g := gb225) (o := .cells #[.int .i64 a0_0, .slice A0_1 l0_1.length c0_1] 30 (0, 0)) (by (with_reducible repeat (first | refine blk_drewN ?_ _ | refine blk_drew ?_ | refine blk_alloc ?_ _)); exact BK225.out) k_ hn_))⟩)) (below_size (by repeat (first | (with_reducible first | exact HB.out | apply below_alloc | apply pw_below_drewN | apply below_drew1 | refine below_set ?_ GE225.out) | exact HB.out)))); have n5_ := Aside0.mk (blk_below (g := gb225) (o := .cells #[.int .i64 a0_0, .slice A0_1 l0_1.length c0_1] 30 (0, 0)) (by (with_reducible repeat (first | refine blk_drewN ?_ _ | refine blk_drew ?_ | refine blk_alloc ?_ _)); exact BK225.out) hb); have n6_ := Aside0.mk (below_step (by repeat (first | (with_reducible first | exact HB.out | apply below_alloc | apply pw_below_drewN | apply below_drew1 | refine below_set ?_ GE225.out) | exact HB.out)) hb); clear HO0_1; clear HO2; clear HO3; clear HO228; clear BK225; clear HB; have HO0_1 := n0_; have HO2 := n1_; have HO3 := n2_; have HO228 := n3_; have HO231 := n4_; have BK225 := n5_; have HB := n6_; clear n0_ n1_ n2_ n3_ n4_ n5_ n6_; (try clear hb); (try clear hb2); (try clear hk); (try clear hi); (try clear ho0); obtain ⟨Ao12, co12, eo12⟩ := Kd.V_slice HO228.out; subst eo12; have hcz13_0 : w11.cell? ⟨gb225, 0, none⟩ = some (.int .i64 a0_0) := (blk_cell BK225.out 0).trans rfl; have hcz13_1 : w11.cell? ⟨gb225, 1, none⟩ = some (.slice A0_1 l0_1.length c0_1) := (blk_cell BK225.out 1).trans rfl; have hfz13_0 := blk_frozen BK225.out 0; have hfz13_1 := blk_frozen BK225.out 1) | ((with_reducible refine gate_store (t := 28) (p := 23) rfl ?_); (try (rw [drewN_self w11]; generalize hq_ : World.drewN w11 _ = w11; have n0_ := Aside0.mk (Kd.V_at hq_ HO0_1.out); have n1_ := Aside0.mk (Kd.V_at hq_ HO2.out); have n2_ := Aside0.mk (Kd.V_at hq_ HO3.out); have n3_ := Aside0.mk (Kd.V_at hq_ HO228.out); have n4_ := Aside0.mk (Kd.V_at hq_ HO231.out); have n5_ := Aside0.mk (blk_at hq_ BK225.out); have n6_ := Aside0.mk (below_at hq_ HB.out); clear hq_ HO0_1 HO2 HO3 HO228 HO231 BK225 HB; have HO0_1 := n0_; have HO2 := n1_; have HO3 := n2_; have HO228 := n3_; have HO231 := n4_; have BK225 := n5_; have HB := n6_; clear n0_ n1_ n2_ n3_ n4_ n5_ n6_)); refine store_event (t := 28) (p := 23) (v := ?vo_w14) (w1 := (w11.setCell ⟨gb225, 1, none⟩ (.slice Ao12 t226.length co12))) ?hg ?ho ?hn ?hr ?_; (case ho => rfl); (case hg => rfl); (case hn => rfl); (case hr => first | (go_simp; done) | (go_simp; rfl)); intro w14 hw; have n0_ : Aside0 (Kd.V (Kd.int .i64) 3 w14 w.heap.size (fun k_ => ((P0_1_ k_ ∨ P2_ k_ ∨ P3_ k_) ∨ w.heap.size ≤ k_) ∧ k_ ≠ gb225) (.slice A0_1 l0_1.length c0_1) l0_1) := ⟨(by rw [hw]; exact (by (with_reducible repeat (first | apply Kd.V_alloc | apply Kd.V_drewN | apply Kd.V_drew)); exact Kd.V_mono (Kd.V_far (p := ⟨gb225, 1, none⟩) (Kd.V_mono HO0_1.out (fun k_ hk => (⟨hk, hk.2⟩ : _ ∧ k_ ≠ gb225))) (fun _ hk => hk.2) (.slice Ao12 t226.length co12)) (fun _ hk => ⟨hk.1.1, hk.1.2⟩)))⟩; have n1_ : Aside0 (Kd.V k26 26 w14 w.heap.size (fun k_ => ((P0_1_ k_ ∨ P2_ k_ ∨ P3_ k_) ∨ w.heap.size ≤ k_) ∧ k_ ≠ gb225) (.slice A2 l2.length c2) l2) := ⟨(by rw [hw]; exact (by (with_reducible repeat (first | apply Kd.V_alloc | apply Kd.V_drewN | apply Kd.V_drew)); exact Kd.V_mono (Kd.V_far (p := ⟨gb225, 1, none⟩) (Kd.V_mono HO2.out (fun k_ hk => (⟨hk, hk.2⟩ : _ ∧ k_ ≠ gb225))) (fun _ hk => hk.2) (.slice Ao12 t226.length co12)) (fun _ hk => ⟨hk.1.1, hk.1.2⟩)))⟩; have n2_ : Aside0 (Kd.V (Kd.int .i64) 3 w14 w.heap.size (fun k_ => ((P0_1_ k_ ∨ P2_ k_ ∨ P3_ k_) ∨ w.heap.size ≤ k_) ∧ k_ ≠ gb225) (.slice A3 l3.length c3) l3) := ⟨(by rw [hw]; exact (by (with_reducible repeat (first | apply Kd.V_alloc | apply Kd.V_drewN | apply Kd.V_drew)); exact Kd.V_mono (Kd.V_far (p := ⟨gb225, 1, none⟩) (Kd.V_mono HO3.out (fun k_ hk => (⟨hk, hk.2⟩ : _ ∧ k_ ≠ gb225))) (fun _ hk => hk.2) (.slice Ao12 t226.length co12)) (fun _ hk => ⟨hk.1.1, hk.1.2⟩)))⟩; have n3_ : Aside0 (Kd.V (Kd.int .i64) 3 w14 w.heap.size (fun k_ => ((P0_1_ k_ ∨ P2_ k_ ∨ P3_ k_) ∨ w.heap.size ≤ k_) ∧ k_ ≠ gb225) (.slice Ao12 t226.length co12) t226) := ⟨(by rw [hw]; exact (by (with_reducible repeat (first | apply Kd.V_alloc | apply Kd.V_drewN | apply Kd.V_drew)); exact Kd.V_mono (Kd.V_far (p := ⟨gb225, 1, none⟩) (Kd.V_mono HO228.out (fun k_ hk => (⟨hk, hk.2⟩ : _ ∧ k_ ≠ gb225))) (fun _ hk => hk.2) (.slice Ao12 t226.length co12)) (fun _ hk => ⟨hk.1.1, hk.1.2⟩)))⟩; have n4_ : Aside0 (Kd.V (Kd.int .i64) 3 w14 w.heap.size (fun k_ => ((P0_1_ k_ ∨ P2_ k_ ∨ P3_ k_) ∨ w.heap.size ≤ k_) ∧ k_ ≠ gb225) v230 t229) := ⟨(by rw [hw]; exact (by (with_reducible repeat (first | apply Kd.V_alloc | apply Kd.V_drewN | apply Kd.V_drew)); exact Kd.V_mono (Kd.V_far (p := ⟨gb225, 1, none⟩) (Kd.V_mono HO231.out (fun k_ hk => (⟨hk, hk.2⟩ : _ ∧ k_ ≠ gb225))) (fun _ hk => hk.2) (.slice Ao12 t226.length co12)) (fun _ hk => ⟨hk.1.1, hk.1.2⟩)))⟩; have n5_ : Aside0 (w14.heap[gb225]? = some (.cells #[.int .i64 a0_0, .slice Ao12 t226.length co12] 30 (0, 0))) := ⟨(by rw [hw]; exact (by (with_reducible repeat (first | refine blk_drewN ?_ _ | refine blk_drew ?_ | refine blk_alloc ?_ _)); refine blk_put (cs := #[.int .i64 a0_0, .slice A0_1 l0_1.length c0_1]) ?_ 1 _ rfl; (with_reducible repeat (first | refine blk_drewN ?_ _ | refine blk_drew ?_ | refine blk_alloc ?_ _)); exact BK225.out))⟩; have n6_ : Aside0 (Below w.heap.size w w14) := ⟨(by rw [hw]; exact (by repeat (first | (with_reducible first | exact HB.out | apply below_alloc | apply pw_below_drewN | apply below_drew1 | refine below_set ?_ GE225.out) | exact HB.out)))⟩; clear hw; clear HO0_1; clear HO2; clear HO3; clear HO228; clear HO231; clear BK225; clear HB; have HO0_1 := n0_; have HO2 := n1_; have HO3 := n2_; have HO228 := n3_; have HO231 := n4_; have BK225 := n5_; have HB := n6_; clear n0_ n1_ n2_ n3_ n4_ n5_ n6_)); go_upto_if 26 with (first | ((with_reducible refine gate_dst (N := 4) rfl ?_); (try (refine gate_guard (by rfl) ?_; dsimp only)); refine box_event ?hg (N := 4) ?hd (cs := #[.int .i64 a0_0, .slice A0_1 l0_1.length c0_1]) (t := 30) ?hr ?_; (case hd => rfl); (case hg => rfl); (case hr => first | (go_simp; done) | (go_simp; rfl)); intro gb225 hg w8 hbox hb; have n0_ := Aside0.mk (Kd.V_below (Kd.V_elderB (by (with_reducible repeat (first | apply Kd.V_alloc | apply Kd.V_drewN | apply Kd.V_drew)); exact HO0_1.out) gb225 (Nat.le_of_eq hg.symm)) hb); have n1_ := Aside0.mk (Kd.V_below (Kd.V_elderB (by (with_reducible repeat (first | apply Kd.V_alloc | apply Kd.V_drewN | apply Kd.V_drew)); exact HO2.out) gb225 (Nat.le_of_eq hg.symm)) hb); have n2_ := Aside0.mk (Kd.V_below (Kd.V_elderB (by (with_reducible repeat (first | apply Kd.V_alloc | apply Kd.V_drewN | apply Kd.V_drew)); exact HO3.out) gb225 (Nat.le_of_eq hg.symm)) hb); have n3_ := Aside0.mk (below_step (by repeat (first | (with_reducible first | exact HB.out | apply below_alloc | apply pw_below_drewN | apply below_drew1) | exact HB.out)) hb); have n4_ := Aside0.mk (hbox); have n5_ := Aside0.mk ((by rw [hg]; exact (below_size (by repeat (first | (with_reducible first | exact HB.out | apply below_alloc | apply pw_below_drewN | apply below_drew1) | exact HB.out))) : w.heap.size ≤ gb225)); have n6_ := Aside0.mk ((by rw [hg]; exact (below_size (by repeat (first | (with_reducible first | exact HB.out | apply below_alloc | apply pw_below_drewN | apply below_drew1) | exact HB.out))) : w.heap.size ≤ gb225)); clear HO0_1; clear HO2; clear HO3; clear HB; have HO0_1 := n0_; have HO2 := n1_; have HO3 := n2_; have HB := n3_; have BK225 := n4_; have GW225 := n5_; have GE225 := n6_; clear n0_ n1_ n2_ n3_ n4_ n5_ n6_; clear hb hbox hg; have hcz9_0 : w8.cell? ⟨gb225, 0, none⟩ = some (.int .i64 a0_0) := (blk_cell BK225.out 0).trans rfl; have hcz9_1 : w8.cell? ⟨gb225, 1, none⟩ = some (.slice A0_1 l0_1.length c0_1) := (blk_cell BK225.out 1).trans rfl; have hfz9_0 := blk_frozen BK225.out 0; have hfz9_1 := blk_frozen BK225.out 1) | (go_at_call 14; (with_reducible refine (deadeyelaw17_small.calls (fun k_ => (((P0_1_ k_ ∨ P2_ k_ ∨ P3_ k_) ∨ w.heap.size ≤ k_) ∧ k_ ≠ gb225)) _ _ l0_1 t226 _ ?side1 A5.out).mono ?_); (case side1 => exact HO0_1.out); rintro e w10 ⟨v227, rfl, ho0, hb⟩; have n0_ := Aside0.mk (Kd.V_below (by (with_reducible repeat (first | apply Kd.V_alloc | apply Kd.V_drewN | apply Kd.V_drew)); exact HO0_1.out) hb); have n1_ := Aside0.mk (Kd.V_below (by (with_reducible repeat (first | apply Kd.V_alloc | apply Kd.V_drewN | apply Kd.V_drew)); exact HO2.out) hb); have n2_ := Aside0.mk (Kd.V_below (by (with_reducible repeat (first | apply Kd.V_alloc | apply Kd.V_drewN | apply Kd.V_drew)); exact HO3.out) hb); have n3_ := Aside0.mk (Kd.V_lower (Kd.V_mono (ok' := fun k_ => ((P0_1_ k_ ∨ P2_ k_ ∨ P3_ k_) ∨ w.heap.size ≤ k_) ∧ k_ ≠ gb225) ho0 (fun k_ hk_ => ⟨Or.elim hk_ (fun hs_ => hs_.1) (fun hn_ => (.inr (Nat.le_trans (below_size (by repeat (first | (with_reducible first | exact HB.out | apply below_alloc | apply pw_below_drewN | apply below_drew1 | refine below_set ?_ GE225.out) | exact HB.out))) hn_))), Or.elim hk_ (fun hs_ => hs_.2) (fun hn_ => (Kd.freshB (g := gb225) (o := .cells #[.int .i64 a0_0, .slice A0_1 l0_1.length c0_1] 30 (0, 0)) (by (with_reducible repeat (first | refine blk_drewN ?_ _ | refine blk_drew ?_ | refine blk_alloc ?_ _)); exact BK225.out) k_ hn_))⟩)) (below_size (by repeat (first | (with_reducible first | exact HB.out | apply below_alloc | apply pw_below_drewN | apply below_drew1 | refine below_set ?_ GE225.out) | exact HB.out)))); have n4_ := Aside0.mk (blk_below (g := gb225) (o := .cells #[.int .i64 a0_0, .slice A0_1 l0_1.length c0_1] 30 (0, 0)) (by (with_reducible repeat (first | refine blk_drewN ?_ _ | refine blk_drew ?_ | refine blk_alloc ?_ _)); exact BK225.out) hb); have n5_ := Aside0.mk (below_step (by repeat (first | (with_reducible first | exact HB.out | apply below_alloc | apply pw_below_drewN | apply below_drew1 | refine below_set ?_ GE225.out) | exact HB.out)) hb); clear HO0_1; clear HO2; clear HO3; clear BK225; clear HB; have HO0_1 := n0_; have HO2 := n1_; have HO3 := n2_; have HO228 := n3_; have BK225 := n4_; have HB := n5_; clear n0_ n1_ n2_ n3_ n4_ n5_; (try clear hb); (try clear hb2); (try clear hk); (try clear hi); (try clear ho0)) | (go_at_call 14; (with_reducible refine (deadeyelaw17_small.calls (fun k_ => (((P0_1_ k_ ∨ P2_ k_ ∨ P3_ k_) ∨ w.heap.size ≤ k_) ∧ k_ ≠ gb225)) _ _ l3 t229 _ ?side1 A6.out).mono ?_); (case side1 => exact HO3.out); rintro e w11 ⟨v230, rfl, ho0, hb⟩; have n0_ := Aside0.mk (Kd.V_below (by (with_reducible repeat (first | apply Kd.V_alloc | apply Kd.V_drewN | apply Kd.V_drew)); exact HO0_1.out) hb); have n1_ := Aside0.mk (Kd.V_below (by (with_reducible repeat (first | apply Kd.V_alloc | apply Kd.V_drewN | apply Kd.V_drew)); exact HO2.out) hb); have n2_ := Aside0.mk (Kd.V_below (by (with_reducible repeat (first | apply Kd.V_alloc | apply Kd.V_drewN | apply Kd.V_drew)); exact HO3.out) hb); have n3_ := Aside0.mk (Kd.V_below (by (with_reducible repeat (first | apply Kd.V_alloc | apply Kd.V_drewN | apply Kd.V_drew)); exact HO228.out) hb); have n4_ := Aside0.mk (Kd.V_lower (Kd.V_mono (ok' := fun k_ => ((P0_1_ k_ ∨ P2_ k_ ∨ P3_ k_) ∨ w.heap.size ≤ k_) ∧ k_ ≠ gb225) ho0 (fun k_ hk_ => ⟨Or.elim hk_ (fun hs_ => hs_.1) (fun hn_ => (.inr (Nat.le_trans (below_size (by repeat (first | (with_reducible first | exact HB.out | apply below_alloc | apply pw_below_drewN | apply below_drew1 | refine below_set ?_ GE225.out) | exact HB.out))) hn_))), Or.elim hk_ (fun hs_ => hs_.2) (fun hn_ => (Kd.freshB (g := gb225) (o := .cells #[.int .i64 a0_0, .slice A0_1 l0_1.length c0_1] 30 (0, 0)) (by (with_reducible repeat (first | refine blk_drewN ?_ _ | refine blk_drew ?_ | refine blk_alloc ?_ _)); exact BK225.out) k_ hn_))⟩)) (below_size (by repeat (first | (with_reducible first | exact HB.out | apply below_alloc | apply pw_below_drewN | apply below_drew1 | refine below_set ?_ GE225.out) | exact HB.out)))); have n5_ := Aside0.mk (blk_below (g := gb225) (o := .cells #[.int .i64 a0_0, .slice A0_1 l0_1.length c0_1] 30 (0, 0)) (by (with_reducible repeat (first | refine blk_drewN ?_ _ | refine blk_drew ?_ | refine blk_alloc ?_ _)); exact BK225.out) hb); have n6_ := Aside0.mk (below_step (by repeat (first | (with_reducible first | exact HB.out | apply below_alloc | apply pw_below_drewN | apply below_drew1 | refine below_set ?_ GE225.out) | exact HB.out)) hb); clear HO0_1; clear HO2; clear HO3; clear HO228; clear BK225; clear HB; have HO0_1 := n0_; have HO2 := n1_; have HO3 := n2_; have HO228 := n3_; have HO231 := n4_; have BK225 := n5_; have HB := n6_; clear n0_ n1_ n2_ n3_ n4_ n5_ n6_; (try clear hb); (try clear hb2); (try clear hk); (try clear hi); (try clear ho0); obtain ⟨Ao12, co12, eo12⟩ := Kd.V_slice HO228.out; subst eo12; have hcz13_0 : w11.cell? ⟨gb225, 0, none⟩ = some (.int .i64 a0_0) := (blk_cell BK225.out 0).trans rfl; have hcz13_1 : w11.cell? ⟨gb225, 1, none⟩ = some (.slice A0_1 l0_1.length c0_1) := (blk_cell BK225.out 1).trans rfl; have hfz13_0 := blk_frozen BK225.out 0; have hfz13_1 := blk_frozen BK225.out 1) | ((with_reducible refine gate_store (t := 28) (p := 23) rfl ?_); (try (rw [drewN_self w11]; generalize hq_ : World.drewN w11 _ = w11; have n0_ := Aside0.mk (Kd.V_at hq_ HO0_1.out); have n1_ := Aside0.mk (Kd.V_at hq_ HO2.out); have n2_ := Aside0.mk (Kd.V_at hq_ HO3.out); have n3_ := Aside0.mk (Kd.V_at hq_ HO228.out); have n4_ := Aside0.mk (Kd.V_at hq_ HO231.out); have n5_ := Aside0.mk (blk_at hq_ BK225.out); have n6_ := Aside0.mk (below_at hq_ HB.out); clear hq_ HO0_1 HO2 HO3 HO228 HO231 BK225 HB; have HO0_1 := n0_; have HO2 := n1_; have HO3 := n2_; have HO228 := n3_; have HO231 := n4_; have BK225 := n5_; have HB := n6_; clear n0_ n1_ n2_ n3_ n4_ n5_ n6_)); refine store_event (t := 28) (p := 23) (v := ?vo_w14) (w1 := (w11.setCell ⟨gb225, 1, none⟩ (.slice Ao12 t226.length co12))) ?hg ?ho ?hn ?hr ?_; (case ho => rfl); (case hg => rfl); (case hn => rfl); (case hr => first | (go_simp; done) | (go_simp; rfl)); intro w14 hw; have n0_ : Aside0 (Kd.V (Kd.int .i64) 3 w14 w.heap.size (fun k_ => ((P0_1_ k_ ∨ P2_ k_ ∨ P3_ k_) ∨ w.heap.size ≤ k_) ∧ k_ ≠ gb225) (.slice A0_1 l0_1.length c0_1) l0_1) := ⟨(by rw [hw]; exact (by (with_reducible repeat (first | apply Kd.V_alloc | apply Kd.V_drewN | apply Kd.V_drew)); exact Kd.V_mono (Kd.V_far (p := ⟨gb225, 1, none⟩) (Kd.V_mono HO0_1.out (fun k_ hk => (⟨hk, hk.2⟩ : _ ∧ k_ ≠ gb225))) (fun _ hk => hk.2) (.slice Ao12 t226.length co12)) (fun _ hk => ⟨hk.1.1, hk.1.2⟩)))⟩; have n1_ : Aside0 (Kd.V k26 26 w14 w.heap.size (fun k_ => ((P0_1_ k_ ∨ P2_ k_ ∨ P3_ k_) ∨ w.heap.size ≤ k_) ∧ k_ ≠ gb225) (.slice A2 l2.length c2) l2) := ⟨(by rw [hw]; exact (by (with_reducible repeat (first | apply Kd.V_alloc | apply Kd.V_drewN | apply Kd.V_drew)); exact Kd.V_mono (Kd.V_far (p := ⟨gb225, 1, none⟩) (Kd.V_mono HO2.out (fun k_ hk => (⟨hk, hk.2⟩ : _ ∧ k_ ≠ gb225))) (fun _ hk => hk.2) (.slice Ao12 t226.length co12)) (fun _ hk => ⟨hk.1.1, hk.1.2⟩)))⟩; have n2_ : Aside0 (Kd.V (Kd.int .i64) 3 w14 w.heap.size (fun k_ => ((P0_1_ k_ ∨ P2_ k_ ∨ P3_ k_) ∨ w.heap.size ≤ k_) ∧ k_ ≠ gb225) (.slice A3 l3.length c3) l3) := ⟨(by rw [hw]; exact (by (with_reducible repeat (first | apply Kd.V_alloc | apply Kd.V_drewN | apply Kd.V_drew)); exact Kd.V_mono (Kd.V_far (p := ⟨gb225, 1, none⟩) (Kd.V_mono HO3.out (fun k_ hk => (⟨hk, hk.2⟩ : _ ∧ k_ ≠ gb225))) (fun _ hk => hk.2) (.slice Ao12 t226.length co12)) (fun _ hk => ⟨hk.1.1, hk.1.2⟩)))⟩; have n3_ : Aside0 (Kd.V (Kd.int .i64) 3 w14 w.heap.size (fun k_ => ((P0_1_ k_ ∨ P2_ k_ ∨ P3_ k_) ∨ w.heap.size ≤ k_) ∧ k_ ≠ gb225) (.slice Ao12 t226.length co12) t226) := ⟨(by rw [hw]; exact (by (with_reducible repeat (first | apply Kd.V_alloc | apply Kd.V_drewN | apply Kd.V_drew)); exact Kd.V_mono (Kd.V_far (p := ⟨gb225, 1, none⟩) (Kd.V_mono HO228.out (fun k_ hk => (⟨hk, hk.2⟩ : _ ∧ k_ ≠ gb225))) (fun _ hk => hk.2) (.slice Ao12 t226.length co12)) (fun _ hk => ⟨hk.1.1, hk.1.2⟩)))⟩; have n4_ : Aside0 (Kd.V (Kd.int .i64) 3 w14 w.heap.size (fun k_ => ((P0_1_ k_ ∨ P2_ k_ ∨ P3_ k_) ∨ w.heap.size ≤ k_) ∧ k_ ≠ gb225) v230 t229) := ⟨(by rw [hw]; exact (by (with_reducible repeat (first | apply Kd.V_alloc | apply Kd.V_drewN | apply Kd.V_drew)); exact Kd.V_mono (Kd.V_far (p := ⟨gb225, 1, none⟩) (Kd.V_mono HO231.out (fun k_ hk => (⟨hk, hk.2⟩ : _ ∧ k_ ≠ gb225))) (fun _ hk => hk.2) (.slice Ao12 t226.length co12)) (fun _ hk => ⟨hk.1.1, hk.1.2⟩)))⟩; have n5_ : Aside0 (w14.heap[gb225]? = some (.cells #[.int .i64 a0_0, .slice Ao12 t226.length co12] 30 (0, 0))) := ⟨(by rw [hw]; exact (by (with_reducible repeat (first | refine blk_drewN ?_ _ | refine blk_drew ?_ | refine blk_alloc ?_ _)); refine blk_put (cs := #[.int .i64 a0_0, .slice A0_1 l0_1.length c0_1]) ?_ 1 _ rfl; (with_reducible repeat (first | refine blk_drewN ?_ _ | refine blk_drew ?_ | refine blk_alloc ?_ _)); exact BK225.out))⟩; have n6_ : Aside0 (Below w.heap.size w w14) := ⟨(by rw [hw]; exact (by repeat (first | (with_reducible first | exact HB.out | apply below_alloc | apply pw_below_drewN | apply below_drew1 | refine below_set ?_ GE225.out) | exact HB.out)))⟩; clear hw; clear HO0_1; clear HO2; clear HO3; clear HO228; clear HO231; clear BK225; clear HB; have HO0_1 := n0_; have HO2 := n1_; have HO3 := n2_; have HO228 := n3_; have HO231 := n4_; have BK225 := n5_; have HB := n6_; clear n0_ n1_ n2_ n3_ n4_ n5_ n6_)))
  (try simp only [Act.put, List.setIfInBounds_toArray, List.set_cons_zero, List.set_cons_succ])
  go_cut [2] (fun v2 wc => ∃ (kq : Nat) (x2_6 : List (S26)), Aside0 (deadeyelaw17_PlanMembers.j0 kq a1 x2_6 t229 a0_0 t226 = some r) ∧ Aside0 (kq ≤ k) ∧ Aside0 (Kd.V k26 26 wc w.heap.size (fun k_ => ((P0_1_ k_ ∨ P2_ k_ ∨ P3_ k_) ∨ w.heap.size ≤ k_) ∧ k_ ≠ gb225) v2 x2_6) ∧ Aside0 (Kd.V (Kd.int .i64) 3 wc w.heap.size (fun k_ => ((P0_1_ k_ ∨ P2_ k_ ∨ P3_ k_) ∨ w.heap.size ≤ k_) ∧ k_ ≠ gb225) v230 t229) ∧ Aside0 (Kd.V (Kd.int .i64) 3 wc w.heap.size (fun k_ => ((P0_1_ k_ ∨ P2_ k_ ∨ P3_ k_) ∨ w.heap.size ≤ k_) ∧ k_ ≠ gb225) (.slice Ao12 t226.length co12) t226) ∧ Aside0 (wc.heap[gb225]? = some (.cells #[.int .i64 a0_0, (.slice Ao12 t226.length co12)] 30 (0, 0))) ∧ Aside0 (Below w.heap.size w wc))
  case first =>
    have H := HC7.out
    clear HC7
    by_cases c15 : (l2.length : Int) > 40
    · rw [if_pos c15] at H
      have c15b0 : decide (40 < (l2.length : Int)) = true := decide_eq_true c15
      have c15b1 : decide (40 < l2.length) = true := decide_eq_true (by omega)
      clear c15
      (first | rw [c15b0] | (simp only [i64_w, i32_w]; rw [c15b0]) | skip)
      by_cases c16 : 40 ≤ (l2.length : Int)
      · rw [if_pos c16] at H
        have c16b0 := eq_true c16
        have c16b1 : decide (40 ≤ (l2.length : Int)) = true := decide_eq_true c16
        clear c16
        obtain ⟨y232, hy232⟩ : ∃ y_ : List (S26), y_ = (l2.take 40) := ⟨_, rfl⟩
        replace H : (deadeyelaw17_PlanMembers.j0 k a1 y232 t229 a0_0 t226) = some r := by first | (rw [hy232]; with_reducible exact H) | (have H2_ := (Option.bind_some _ _).symm.trans H; rw [hy232]; with_reducible exact H2_) | (have H2_ := (Option.bind_some _ _).symm.trans H; with_reducible exact H2_) | with_reducible exact H | (rw [hy232]; exact H) | exact H
        have Ny232 := Aside0.mk hy232
        clear hy232
        have H' := Aside0.mk H
        clear H
        have q17 : (40 : Int) ≤ ((l2.length : Int) : Int) := of_decide_eq_true (by first | (with_reducible assumption) | assumption)
        obtain ⟨i017, hi017, _, hsz17, _⟩ := info_parts info26
        have hroom17 : l2.length ≤ c2 := (Kd.V_reads' HO2.out).2.1
        have hC17 : Kd.F k26 _ _ A2 l2.length l2 := (Kd.V_at (base := w.heap.size) HO2.out).2.2
        have hcut17 := cut_to (P := Try.prog) 22 26 .i64 Try.underlying22 hi017 A2 l2.length c2 40 (by omega) q17 hroom17
        have hr17 := Kd.F_take (m := 40) hC17 (by omega)
        have hy17 : y232.length = (40 : Int).toNat := (by rw [Ny232.out, List.length_take]; omega)
        rw [← Ny232.out] at hr17
        rw [← hy17] at hcut17
        have HO236 := Aside0.mk (show Kd.V k26 26 _ w.heap.size _ (.slice A2 y232.length c2) y232 from Kd.V_mk (by omega) hr17)
        have HC236 := Aside0.mk (show y232.length ≤ c2 from by omega)
        clear hr17 hC17 hroom17 hi017 hsz17
        have KY17 := Aside0.mk hy17
        clear hy17
        replace q17 := eq_true q17
        go_wp2
        repeat (go_quiet (fail); try go_wp2)
        go_meet
        case rel => exact ⟨_, (y232), H', ⟨by first | omega | exact Nat.le_refl _⟩, ⟨by (with_reducible repeat (first | apply Kd.V_alloc | apply Kd.V_drewN | apply Kd.V_drew)); exact HO236.out⟩, ⟨by (with_reducible repeat (first | apply Kd.V_alloc | apply Kd.V_drewN | apply Kd.V_drew)); exact HO231.out⟩, ⟨by (with_reducible repeat (first | apply Kd.V_alloc | apply Kd.V_drewN | apply Kd.V_drew)); exact HO228.out⟩, ⟨by (with_reducible repeat (first | refine blk_drewN ?_ _ | refine blk_drew ?_ | refine blk_alloc ?_ _)); exact BK225.out⟩, ⟨by repeat (first | (with_reducible first | exact HB.out | apply below_alloc | apply pw_below_drewN | apply below_drew1 | refine below_set ?_ GE225.out) | exact HB.out)⟩⟩
      · rw [if_neg c16] at H
        exact absurd H (by simp)
    · rw [if_neg c15] at H
      have c15b0 : decide (40 < (l2.length : Int)) = false := decide_eq_false c15
      have c15b1 : decide (40 < l2.length) = false := decide_eq_false (by omega)
      clear c15
      (first | rw [c15b0] | (simp only [i64_w, i32_w]; rw [c15b0]) | skip)
      have H' := Aside0.mk H
      clear H
      go_wp2
      repeat (go_quiet (fail); try go_wp2)
      go_meet
      case rel => exact ⟨_, (l2), H', ⟨by first | omega | exact Nat.le_refl _⟩, ⟨by (with_reducible repeat (first | apply Kd.V_alloc | apply Kd.V_drewN | apply Kd.V_drew)); exact HO2.out⟩, ⟨by (with_reducible repeat (first | apply Kd.V_alloc | apply Kd.V_drewN | apply Kd.V_drew)); exact HO231.out⟩, ⟨by (with_reducible repeat (first | apply Kd.V_alloc | apply Kd.V_drewN | apply Kd.V_drew)); exact HO228.out⟩, ⟨by (with_reducible repeat (first | refine blk_drewN ?_ _ | refine blk_drew ?_ | refine blk_alloc ?_ _)); exact BK225.out⟩, ⟨by repeat (first | (with_reducible first | exact HB.out | apply below_alloc | apply pw_below_drewN | apply below_drew1 | refine below_set ?_ GE225.out) | exact HB.out)⟩⟩
  case rest =>
    clear HC7
    try clear c1
    try clear q1
    try clear c2
    try clear p2
    try clear c3
    try clear c5
    try clear c15
    try clear c15b0
    try clear c15b1
    try clear c16
    try clear c16b0
    try clear c16b1
    try clear q17
    try clear hcz13_0
    try clear hcz13_1
    try clear hcz9_0
    try clear hcz9_1
    try clear hfz13_0
    try clear hfz13_1
    try clear hfz9_0
    try clear hfz9_1
    try clear q17
    obtain ⟨kq, x2_6, HA, HJ6, HO_2, HO_3, HO_226001, BK225, HB⟩ := hcut
    cases kq with
    | zero => exact absurd HA.out (by simp [deadeyelaw17_PlanMembers.j0])
    | succ kj6 =>
      have H := HA.out
      clear HA
      simp only [deadeyelaw17_PlanMembers.j0] at H
      have H' := Aside0.mk H
      clear H
      go_wp2
      repeat (go_quiet (fail); try go_wp2)
      go_loopg [9] kj6 (fun kq v9 w' => ∃ (x9_2 : Int), v9 = .int .i64 x9_2 ∧ Aside0 (deadeyelaw17_PlanMembers.l0 kq a1 x2_6 t229 x9_2 a0_0 t226 = some r) ∧ Aside0 (kq ≤ kj6) ∧ Aside0 (Kd.V k26 26 w' w.heap.size (fun k_ => ((P0_1_ k_ ∨ P2_ k_ ∨ P3_ k_) ∨ w.heap.size ≤ k_) ∧ k_ ≠ gb225) u2 x2_6) ∧ Aside0 (Kd.V (Kd.int .i64) 3 w' w.heap.size (fun k_ => ((P0_1_ k_ ∨ P2_ k_ ∨ P3_ k_) ∨ w.heap.size ≤ k_) ∧ k_ ≠ gb225) v230 t229) ∧ Aside0 (Kd.V (Kd.int .i64) 3 w' w.heap.size (fun k_ => ((P0_1_ k_ ∨ P2_ k_ ∨ P3_ k_) ∨ w.heap.size ≤ k_) ∧ k_ ≠ gb225) (.slice Ao12 t226.length co12) t226) ∧ Aside0 (w'.heap[gb225]? = some (.cells #[.int .i64 a0_0, (.slice Ao12 t226.length co12)] 30 (0, 0))) ∧ Aside0 (Below w.heap.size w w'))
      case atStart => exact ⟨(0), (by first | rfl | (simp; done) | (simp [*]; done)), H', ⟨Nat.le_refl _⟩, ⟨by (with_reducible repeat (first | apply Kd.V_alloc | apply Kd.V_drewN | apply Kd.V_drew)); exact HO_2.out⟩, ⟨by (with_reducible repeat (first | apply Kd.V_alloc | apply Kd.V_drewN | apply Kd.V_drew)); exact HO_3.out⟩, ⟨by (with_reducible repeat (first | apply Kd.V_alloc | apply Kd.V_drewN | apply Kd.V_drew)); exact HO_226001.out⟩, ⟨by (with_reducible repeat (first | refine blk_drewN ?_ _ | refine blk_drew ?_ | refine blk_alloc ?_ _)); exact BK225.out⟩, ⟨by repeat (first | (with_reducible first | exact HB.out | apply below_alloc | apply pw_below_drewN | apply below_drew1 | refine below_set ?_ GE225.out) | exact HB.out)⟩⟩
      case round =>
        clear H'
        try clear c1
        try clear q1
        try clear c2
        try clear p2
        try clear c3
        try clear c5
        try clear c15
        try clear c15b0
        try clear c15b1
        try clear c16
        try clear c16b0
        try clear c16b1
        try clear q17
        try clear hcz13_0
        try clear hcz13_1
        try clear hcz9_0
        try clear hcz9_1
        try clear hfz13_0
        try clear hfz13_1
        try clear hfz9_0
        try clear hfz9_1
        try clear p2
        try clear q1
        try clear q17
        obtain ⟨x9_2, rfl, HA, HK2, HO_2, HO_3, HO_226001, BK225, HB⟩ := hrel
        cases gk with
        | zero => exact absurd HA.out (by simp [deadeyelaw17_PlanMembers.l0])
        | succ k2 =>
          have H := HA.out
          clear HA
          simp only [deadeyelaw17_PlanMembers.l0] at H
          by_cases c18 : x9_2 < (t229.length : Int)
          · rw [if_pos c18] at H
            have c18b0 : decide (x9_2 < (t229.length : Int)) = true := decide_eq_true c18
            clear c18
            by_cases c19 : 0 ≤ x9_2
            · rw [if_pos c19] at H
              have c19b0 := eq_true c19
              have c19b1 : decide (0 ≤ x9_2) = true := decide_eq_true c19
              clear c19
              by_cases c20 : x9_2 ≤ (t229.length : Int)
              · rw [if_pos c20] at H
                have c20b0 := eq_true c20
                have c20b1 : decide (x9_2 ≤ (t229.length : Int)) = true := decide_eq_true c20
                clear c20
                obtain ⟨y237, hy237⟩ : ∃ y_ : List Int, y_ = (t229.take (x9_2 : Int).toNat) := ⟨_, rfl⟩
                replace H : ((deadeyelaw17_in.f k2 y237 (rd t229 x9_2)).bind fun t243 => (if t243 = true then ((deadeyelaw17_awake.f k2).bind fun t244 => (some t244)) else (deadeyelaw17_PlanMembers.l0 k2 a1 x2_6 t229 (wrap64 (x9_2 + 1)) a0_0 t226))) = some r := by first | (rw [hy237]; with_reducible exact H) | (have H2_ := (Option.bind_some _ _).symm.trans H; rw [hy237]; with_reducible exact H2_) | (have H2_ := (Option.bind_some _ _).symm.trans H; with_reducible exact H2_) | with_reducible exact H | (rw [hy237]; exact H) | exact H
                have Ny237 := Aside0.mk hy237
                clear hy237
                replace H := Option.bind_eq_some_iff.mp H
                obtain ⟨t243, A210, H⟩ := H
                replace H : (if t243 = true then ((deadeyelaw17_awake.f k2).bind fun t244 => (some t244)) else (deadeyelaw17_PlanMembers.l0 k2 a1 x2_6 t229 (wrap64 (x9_2 + 1)) a0_0 t226)) = some r := H
                have A21 := Aside0.mk A210
                clear A210
                by_cases c22 : t243 = true
                · subst c22
                  have H1 : ((deadeyelaw17_awake.f k2).bind fun t244 => (some t244)) = some r := by rw [if_pos rfl] at H; exact H
                  clear H
                  have H := H1
                  clear H1
                  replace H := Option.bind_eq_some_iff.mp H
                  obtain ⟨t244, A230, H⟩ := H
                  replace H : (some t244) = some r := H
                  have A23 := Aside0.mk A230
                  clear A230
                  obtain rfl := Option.some.inj H
                  obtain ⟨Ao24, co24, eo24⟩ := Kd.V_slice HO_3.out
                  subst eo24
                  have q25 : (x9_2 : Int) ≤ ((t229.length : Int) : Int) := of_decide_eq_true (by first | (with_reducible assumption) | assumption)
                  obtain ⟨i025, hi025, _, hsz25, _⟩ := info_parts info3
                  have hroom25 : t229.length ≤ co24 := (Kd.V_reads' HO_3.out).2.1
                  have hC25 : Kd.F (Kd.int .i64) _ _ Ao24 t229.length t229 := (Kd.V_at (base := w.heap.size) HO_3.out).2.2
                  have hcut25 := cut_to (P := Try.prog) 28 3 .i64 Try.underlying28 hi025 Ao24 t229.length co24 x9_2 (of_decide_eq_true (by first | (with_reducible assumption) | assumption)) q25 hroom25
                  have hr25 := Kd.F_take (m := (x9_2 : Int).toNat) hC25 (by omega)
                  have hy25 : y237.length = (x9_2 : Int).toNat := (by rw [Ny237.out, List.length_take]; omega)
                  rw [← Ny237.out] at hr25
                  rw [← hy25] at hcut25
                  have HO241 := Aside0.mk (show Kd.V (Kd.int .i64) 3 _ w.heap.size _ (.slice Ao24 y237.length co24) y237 from Kd.V_mk (by omega) hr25)
                  have HC241 := Aside0.mk (show y237.length ≤ co24 from by omega)
                  clear hr25 hC25 hroom25 hi025 hsz25
                  have KY25 := Aside0.mk hy25
                  clear hy25
                  replace q25 := eq_true q25
                  have p242 : 0 ≤ (x9_2 : Int) := of_decide_eq_true (by first | (with_reducible assumption) | assumption)
                  have q242 : x9_2 < (t229.length : Int) := of_decide_eq_true (by first | (with_reducible assumption) | assumption)
                  obtain ⟨ad242, e242, hx242_0⟩ := Kd.at_int (Kd.V_reads' HO_3.out).2.2 x9_2 p242 q242
                  cases e242
                  replace p242 := eq_true p242
                  replace q242 := eq_true q242
                  go_wp2_with (first | (go_at_call 19; (with_reducible refine (deadeyelaw17_in.calls k2 _ _ y237 (rd t229 x9_2) true _ ?side1 ?side2 A21.out).mono ?_); (case side1 => repeat (first | exact (Kd.V_reads' HO241.out).2.2 | (with_reducible refine Kd.C_alloc ?_ _) | (with_reducible refine Kd.C_drewN ?_ _) | (with_reducible refine Kd.C_drew ?_))); (case side2 => exact (Kd.V_reads' HO241.out).2.1); rintro e w' ⟨rfl, ⟨nd, rfl⟩⟩; (try first | exact ⟨rfl, _, World.drewN_drewN _ _ _⟩ | exact ⟨rfl, _, Eq.trans (World.drewN_drewN _ _ _) (congrArg (World.drewN _) (Nat.add_assoc _ _ _))⟩)) | (go_at_call 12; (with_reducible refine (deadeyelaw17_awake.calls k2  t244 _ A23.out).mono ?_); rintro e w26 ⟨rfl, hb⟩; have n0_ := Aside0.mk (Kd.V_below (by (with_reducible repeat (first | apply Kd.V_alloc | apply Kd.V_drewN | apply Kd.V_drew)); exact HO_2.out) hb); have n1_ := Aside0.mk (Kd.V_below (by (with_reducible repeat (first | apply Kd.V_alloc | apply Kd.V_drewN | apply Kd.V_drew)); exact HO_3.out) hb); have n2_ := Aside0.mk (Kd.V_below (by (with_reducible repeat (first | apply Kd.V_alloc | apply Kd.V_drewN | apply Kd.V_drew)); exact HO_226001.out) hb); have n3_ := Aside0.mk (Kd.V_below (by (with_reducible repeat (first | apply Kd.V_alloc | apply Kd.V_drewN | apply Kd.V_drew)); exact HO241.out) hb); have n4_ := Aside0.mk (blk_below (g := gb225) (o := .cells #[.int .i64 a0_0, .slice Ao12 t226.length co12] 30 (0, 0)) (by (with_reducible repeat (first | refine blk_drewN ?_ _ | refine blk_drew ?_ | refine blk_alloc ?_ _)); exact BK225.out) hb); have n5_ := Aside0.mk (below_step (by repeat (first | (with_reducible first | exact HB.out | apply below_alloc | apply pw_below_drewN | apply below_drew1 | refine below_set ?_ GE225.out) | exact HB.out)) hb); clear HO_2; clear HO_3; clear HO_226001; clear HO241; clear BK225; clear HB; have HO_2 := n0_; have HO_3 := n1_; have HO_226001 := n2_; have HO241 := n3_; have BK225 := n4_; have HB := n5_; clear n0_ n1_ n2_ n3_ n4_ n5_; (try clear hb); (try clear hb2); (try clear hk); (try clear hi)))
                  repeat (go_quiet (first | (go_at_call 19; (with_reducible refine (deadeyelaw17_in.calls k2 _ _ y237 (rd t229 x9_2) true _ ?side1 ?side2 A21.out).mono ?_); (case side1 => repeat (first | exact (Kd.V_reads' HO241.out).2.2 | (with_reducible refine Kd.C_alloc ?_ _) | (with_reducible refine Kd.C_drewN ?_ _) | (with_reducible refine Kd.C_drew ?_))); (case side2 => exact (Kd.V_reads' HO241.out).2.1); rintro e w' ⟨rfl, ⟨nd, rfl⟩⟩; (try first | exact ⟨rfl, _, World.drewN_drewN _ _ _⟩ | exact ⟨rfl, _, Eq.trans (World.drewN_drewN _ _ _) (congrArg (World.drewN _) (Nat.add_assoc _ _ _))⟩)) | (go_at_call 12; (with_reducible refine (deadeyelaw17_awake.calls k2  t244 _ A23.out).mono ?_); rintro e w26 ⟨rfl, hb⟩; have n0_ := Aside0.mk (Kd.V_below (by (with_reducible repeat (first | apply Kd.V_alloc | apply Kd.V_drewN | apply Kd.V_drew)); exact HO_2.out) hb); have n1_ := Aside0.mk (Kd.V_below (by (with_reducible repeat (first | apply Kd.V_alloc | apply Kd.V_drewN | apply Kd.V_drew)); exact HO_3.out) hb); have n2_ := Aside0.mk (Kd.V_below (by (with_reducible repeat (first | apply Kd.V_alloc | apply Kd.V_drewN | apply Kd.V_drew)); exact HO_226001.out) hb); have n3_ := Aside0.mk (Kd.V_below (by (with_reducible repeat (first | apply Kd.V_alloc | apply Kd.V_drewN | apply Kd.V_drew)); exact HO241.out) hb); have n4_ := Aside0.mk (blk_below (g := gb225) (o := .cells #[.int .i64 a0_0, .slice Ao12 t226.length co12] 30 (0, 0)) (by (with_reducible repeat (first | refine blk_drewN ?_ _ | refine blk_drew ?_ | refine blk_alloc ?_ _)); exact BK225.out) hb); have n5_ := Aside0.mk (below_step (by repeat (first | (with_reducible first | exact HB.out | apply below_alloc | apply pw_below_drewN | apply below_drew1 | refine below_set ?_ GE225.out) | exact HB.out)) hb); clear HO_2; clear HO_3; clear HO_226001; clear HO241; clear BK225; clear HB; have HO_2 := n0_; have HO_3 := n1_; have HO_226001 := n2_; have HO241 := n3_; have BK225 := n4_; have HB := n5_; clear n0_ n1_ n2_ n3_ n4_ n5_; (try clear hb); (try clear hb2); (try clear hk); (try clear hi))); try go_wp2_with (first | (go_at_call 19; (with_reducible refine (deadeyelaw17_in.calls k2 _ _ y237 (rd t229 x9_2) true _ ?side1 ?side2 A21.out).mono ?_); (case side1 => repeat (first | exact (Kd.V_reads' HO241.out).2.2 | (with_reducible refine Kd.C_alloc ?_ _) | (with_reducible refine Kd.C_drewN ?_ _) | (with_reducible refine Kd.C_drew ?_))); (case side2 => exact (Kd.V_reads' HO241.out).2.1); rintro e w' ⟨rfl, ⟨nd, rfl⟩⟩; (try first | exact ⟨rfl, _, World.drewN_drewN _ _ _⟩ | exact ⟨rfl, _, Eq.trans (World.drewN_drewN _ _ _) (congrArg (World.drewN _) (Nat.add_assoc _ _ _))⟩)) | (go_at_call 12; (with_reducible refine (deadeyelaw17_awake.calls k2  t244 _ A23.out).mono ?_); rintro e w26 ⟨rfl, hb⟩; have n0_ := Aside0.mk (Kd.V_below (by (with_reducible repeat (first | apply Kd.V_alloc | apply Kd.V_drewN | apply Kd.V_drew)); exact HO_2.out) hb); have n1_ := Aside0.mk (Kd.V_below (by (with_reducible repeat (first | apply Kd.V_alloc | apply Kd.V_drewN | apply Kd.V_drew)); exact HO_3.out) hb); have n2_ := Aside0.mk (Kd.V_below (by (with_reducible repeat (first | apply Kd.V_alloc | apply Kd.V_drewN | apply Kd.V_drew)); exact HO_226001.out) hb); have n3_ := Aside0.mk (Kd.V_below (by (with_reducible repeat (first | apply Kd.V_alloc | apply Kd.V_drewN | apply Kd.V_drew)); exact HO241.out) hb); have n4_ := Aside0.mk (blk_below (g := gb225) (o := .cells #[.int .i64 a0_0, .slice Ao12 t226.length co12] 30 (0, 0)) (by (with_reducible repeat (first | refine blk_drewN ?_ _ | refine blk_drew ?_ | refine blk_alloc ?_ _)); exact BK225.out) hb); have n5_ := Aside0.mk (below_step (by repeat (first | (with_reducible first | exact HB.out | apply below_alloc | apply pw_below_drewN | apply below_drew1 | refine below_set ?_ GE225.out) | exact HB.out)) hb); clear HO_2; clear HO_3; clear HO_226001; clear HO241; clear BK225; clear HB; have HO_2 := n0_; have HO_3 := n1_; have HO_226001 := n2_; have HO241 := n3_; have BK225 := n4_; have HB := n5_; clear n0_ n1_ n2_ n3_ n4_ n5_; (try clear hb); (try clear hb2); (try clear hk); (try clear hi))))
                  go_ret
                  exact ⟨by first | rfl | (simp [errW_none, errW_some] <;> rfl) | (simp [*, errW_none, errW_some] <;> rfl), by repeat (first | (with_reducible first | exact HB.out | apply below_alloc | apply pw_below_drewN | apply below_drew1 | refine below_set ?_ GE225.out) | exact HB.out)⟩
                · replace c22 := Bool.eq_false_iff.mpr c22
                  subst c22
                  have H1 : (deadeyelaw17_PlanMembers.l0 k2 a1 x2_6 t229 (wrap64 (x9_2 + 1)) a0_0 t226) = some r := by rw [if_neg (show ¬ (false = true) by decide)] at H; exact H
                  clear H
                  have H := H1
                  clear H1
                  have H' := Aside0.mk H
                  clear H
                  obtain ⟨Ao27, co27, eo27⟩ := Kd.V_slice HO_3.out
                  subst eo27
                  have q28 : (x9_2 : Int) ≤ ((t229.length : Int) : Int) := of_decide_eq_true (by first | (with_reducible assumption) | assumption)
                  obtain ⟨i028, hi028, _, hsz28, _⟩ := info_parts info3
                  have hroom28 : t229.length ≤ co27 := (Kd.V_reads' HO_3.out).2.1
                  have hC28 : Kd.F (Kd.int .i64) _ _ Ao27 t229.length t229 := (Kd.V_at (base := w.heap.size) HO_3.out).2.2
                  have hcut28 := cut_to (P := Try.prog) 28 3 .i64 Try.underlying28 hi028 Ao27 t229.length co27 x9_2 (of_decide_eq_true (by first | (with_reducible assumption) | assumption)) q28 hroom28
                  have hr28 := Kd.F_take (m := (x9_2 : Int).toNat) hC28 (by omega)
                  have hy28 : y237.length = (x9_2 : Int).toNat := (by rw [Ny237.out, List.length_take]; omega)
                  rw [← Ny237.out] at hr28
                  rw [← hy28] at hcut28
                  have HO241 := Aside0.mk (show Kd.V (Kd.int .i64) 3 _ w.heap.size _ (.slice Ao27 y237.length co27) y237 from Kd.V_mk (by omega) hr28)
                  have HC241 := Aside0.mk (show y237.length ≤ co27 from by omega)
                  clear hr28 hC28 hroom28 hi028 hsz28
                  have KY28 := Aside0.mk hy28
                  clear hy28
                  replace q28 := eq_true q28
                  have p242 : 0 ≤ (x9_2 : Int) := of_decide_eq_true (by first | (with_reducible assumption) | assumption)
                  have q242 : x9_2 < (t229.length : Int) := of_decide_eq_true (by first | (with_reducible assumption) | assumption)
                  obtain ⟨ad242, e242, hx242_0⟩ := Kd.at_int (Kd.V_reads' HO_3.out).2.2 x9_2 p242 q242
                  cases e242
                  replace p242 := eq_true p242
                  replace q242 := eq_true q242
                  go_wp2_with (first | (go_at_call 19; (with_reducible refine (deadeyelaw17_in.calls k2 _ _ y237 (rd t229 x9_2) false _ ?side1 ?side2 A21.out).mono ?_); (case side1 => repeat (first | exact (Kd.V_reads' HO241.out).2.2 | (with_reducible refine Kd.C_alloc ?_ _) | (with_reducible refine Kd.C_drewN ?_ _) | (with_reducible refine Kd.C_drew ?_))); (case side2 => exact (Kd.V_reads' HO241.out).2.1); rintro e w' ⟨rfl, ⟨nd, rfl⟩⟩; (try first | exact ⟨rfl, _, World.drewN_drewN _ _ _⟩ | exact ⟨rfl, _, Eq.trans (World.drewN_drewN _ _ _) (congrArg (World.drewN _) (Nat.add_assoc _ _ _))⟩)))
                  repeat (go_quiet (first | (go_at_call 19; (with_reducible refine (deadeyelaw17_in.calls k2 _ _ y237 (rd t229 x9_2) false _ ?side1 ?side2 A21.out).mono ?_); (case side1 => repeat (first | exact (Kd.V_reads' HO241.out).2.2 | (with_reducible refine Kd.C_alloc ?_ _) | (with_reducible refine Kd.C_drewN ?_ _) | (with_reducible refine Kd.C_drew ?_))); (case side2 => exact (Kd.V_reads' HO241.out).2.1); rintro e w' ⟨rfl, ⟨nd, rfl⟩⟩; (try first | exact ⟨rfl, _, World.drewN_drewN _ _ _⟩ | exact ⟨rfl, _, Eq.trans (World.drewN_drewN _ _ _) (congrArg (World.drewN _) (Nat.add_assoc _ _ _))⟩))); try go_wp2_with (first | (go_at_call 19; (with_reducible refine (deadeyelaw17_in.calls k2 _ _ y237 (rd t229 x9_2) false _ ?side1 ?side2 A21.out).mono ?_); (case side1 => repeat (first | exact (Kd.V_reads' HO241.out).2.2 | (with_reducible refine Kd.C_alloc ?_ _) | (with_reducible refine Kd.C_drewN ?_ _) | (with_reducible refine Kd.C_drew ?_))); (case side2 => exact (Kd.V_reads' HO241.out).2.1); rintro e w' ⟨rfl, ⟨nd, rfl⟩⟩; (try first | exact ⟨rfl, _, World.drewN_drewN _ _ _⟩ | exact ⟨rfl, _, Eq.trans (World.drewN_drewN _ _ _) (congrArg (World.drewN _) (Nat.add_assoc _ _ _))⟩))))
                  go_roundg k2
                  case measure => have := HJ6.out; have := HK2.out; omega
                  case rel => exact ⟨(wrap64 (x9_2 + 1)), (by first | rfl | (simp; done) | (simp [*]; done)), H', ⟨by have := HJ6.out; have := HK2.out; omega⟩, ⟨by (with_reducible repeat (first | apply Kd.V_alloc | apply Kd.V_drewN | apply Kd.V_drew)); exact HO_2.out⟩, ⟨by (with_reducible repeat (first | apply Kd.V_alloc | apply Kd.V_drewN | apply Kd.V_drew)); exact HO_3.out⟩, ⟨by (with_reducible repeat (first | apply Kd.V_alloc | apply Kd.V_drewN | apply Kd.V_drew)); exact HO_226001.out⟩, ⟨by (with_reducible repeat (first | refine blk_drewN ?_ _ | refine blk_drew ?_ | refine blk_alloc ?_ _)); exact BK225.out⟩, ⟨by repeat (first | (with_reducible first | exact HB.out | apply below_alloc | apply pw_below_drewN | apply below_drew1 | refine below_set ?_ GE225.out) | exact HB.out)⟩⟩
              · rw [if_neg c20] at H
                exact absurd H (by simp)
            · rw [if_neg c19] at H
              exact absurd H (by simp)
          · rw [if_neg c18] at H
            have c18b0 : decide (x9_2 < (t229.length : Int)) = false := decide_eq_false c18
            clear c18
            have H' := Aside0.mk H
            clear H
            obtain ⟨Ao29, co29, eo29⟩ := Kd.V_slice HO_3.out
            subst eo29
            go_wp2
            repeat (go_quiet (fail); try go_wp2)
            go_loopg [10] k2 (fun kq v10 w' => ∃ (x10_3 : Int), v10 = .int .i64 x10_3 ∧ Aside0 (deadeyelaw17_PlanMembers.l1 kq a1 x2_6 t229 x10_3 a0_0 t226 = some r) ∧ Aside0 (kq ≤ k2) ∧ Aside0 (Kd.V k26 26 w' w.heap.size (fun k_ => ((P0_1_ k_ ∨ P2_ k_ ∨ P3_ k_) ∨ w.heap.size ≤ k_) ∧ k_ ≠ gb225) u2 x2_6) ∧ Aside0 (Kd.V (Kd.int .i64) 3 w' w.heap.size (fun k_ => ((P0_1_ k_ ∨ P2_ k_ ∨ P3_ k_) ∨ w.heap.size ≤ k_) ∧ k_ ≠ gb225) (.slice Ao29 t229.length co29) t229) ∧ Aside0 (Kd.V (Kd.int .i64) 3 w' w.heap.size (fun k_ => ((P0_1_ k_ ∨ P2_ k_ ∨ P3_ k_) ∨ w.heap.size ≤ k_) ∧ k_ ≠ gb225) (.slice Ao12 t226.length co12) t226) ∧ Aside0 (w'.heap[gb225]? = some (.cells #[.int .i64 a0_0, (.slice Ao12 t226.length co12)] 30 (0, 0))) ∧ Aside0 (Below w.heap.size w w'))
            case atStart => exact ⟨(0), (by first | rfl | (simp; done) | (simp [*]; done)), H', ⟨Nat.le_refl _⟩, ⟨by (with_reducible repeat (first | apply Kd.V_alloc | apply Kd.V_drewN | apply Kd.V_drew)); exact HO_2.out⟩, ⟨by (with_reducible repeat (first | apply Kd.V_alloc | apply Kd.V_drewN | apply Kd.V_drew)); exact HO_3.out⟩, ⟨by (with_reducible repeat (first | apply Kd.V_alloc | apply Kd.V_drewN | apply Kd.V_drew)); exact HO_226001.out⟩, ⟨by (with_reducible repeat (first | refine blk_drewN ?_ _ | refine blk_drew ?_ | refine blk_alloc ?_ _)); exact BK225.out⟩, ⟨by repeat (first | (with_reducible first | exact HB.out | apply below_alloc | apply pw_below_drewN | apply below_drew1 | refine below_set ?_ GE225.out) | exact HB.out)⟩⟩
            case round =>
              clear H'
              try clear c1
              try clear q1
              try clear c2
              try clear p2
              try clear q2
              try clear hx2
              try clear c3
              try clear c5
              try clear p6
              try clear c15
              try clear c15b0
              try clear c15b1
              try clear c16
              try clear c16b0
              try clear c16b1
              try clear q17
              try clear c18
              try clear c18b0
              try clear c19
              try clear c19b0
              try clear c19b1
              try clear c20
              try clear c20b0
              try clear c20b1
              try clear c22
              try clear p24
              try clear q24
              try clear hx24
              try clear q25
              try clear q28
              try clear hcz13_0
              try clear hcz13_1
              try clear hcz9_0
              try clear hcz9_1
              try clear hfz13_0
              try clear hfz13_1
              try clear hfz9_0
              try clear hfz9_1
              try clear hx242_0
              try clear p2
              try clear p242
              try clear q1
              try clear q17
              try clear q242
              try clear q25
              try clear q28
              obtain ⟨x10_3, rfl, HA, HK3, HO_2, HO_3, HO_226001, BK225, HB⟩ := hrel
              cases gk with
              | zero => exact absurd HA.out (by simp [deadeyelaw17_PlanMembers.l1])
              | succ k3 =>
                have H := HA.out
                clear HA
                simp only [deadeyelaw17_PlanMembers.l1] at H
                by_cases c30 : x10_3 < (t226.length : Int)
                · rw [if_pos c30] at H
                  have c30b0 : decide (x10_3 < (t226.length : Int)) = true := decide_eq_true c30
                  clear c30
                  by_cases c31 : 0 ≤ x10_3
                  · rw [if_pos c31] at H
                    have c31b0 := eq_true c31
                    have c31b1 : decide (0 ≤ x10_3) = true := decide_eq_true c31
                    clear c31
                    by_cases c32 : x10_3 ≤ (t226.length : Int)
                    · rw [if_pos c32] at H
                      have c32b0 := eq_true c32
                      have c32b1 : decide (x10_3 ≤ (t226.length : Int)) = true := decide_eq_true c32
                      clear c32
                      obtain ⟨y245, hy245⟩ : ∃ y_ : List Int, y_ = (t226.take (x10_3 : Int).toNat) := ⟨_, rfl⟩
                      replace H : ((deadeyelaw17_in.f k3 y245 (rd t226 x10_3)).bind fun t251 => (if t251 = true then ((deadeyelaw17_awake.f k3).bind fun t252 => (some t252)) else (deadeyelaw17_PlanMembers.l1 k3 a1 x2_6 t229 (wrap64 (x10_3 + 1)) a0_0 t226))) = some r := by first | (rw [hy245]; with_reducible exact H) | (have H2_ := (Option.bind_some _ _).symm.trans H; rw [hy245]; with_reducible exact H2_) | (have H2_ := (Option.bind_some _ _).symm.trans H; with_reducible exact H2_) | with_reducible exact H | (rw [hy245]; exact H) | exact H
                      have Ny245 := Aside0.mk hy245
                      clear hy245
                      replace H := Option.bind_eq_some_iff.mp H
                      obtain ⟨t251, A330, H⟩ := H
                      replace H : (if t251 = true then ((deadeyelaw17_awake.f k3).bind fun t252 => (some t252)) else (deadeyelaw17_PlanMembers.l1 k3 a1 x2_6 t229 (wrap64 (x10_3 + 1)) a0_0 t226)) = some r := H
                      have A33 := Aside0.mk A330
                      clear A330
                      by_cases c34 : t251 = true
                      · subst c34
                        have H1 : ((deadeyelaw17_awake.f k3).bind fun t252 => (some t252)) = some r := by rw [if_pos rfl] at H; exact H
                        clear H
                        have H := H1
                        clear H1
                        replace H := Option.bind_eq_some_iff.mp H
                        obtain ⟨t252, A350, H⟩ := H
                        replace H : (some t252) = some r := H
                        have A35 := Aside0.mk A350
                        clear A350
                        obtain rfl := Option.some.inj H
                        have hcz36_0 : wr.cell? ⟨gb225, 0, none⟩ = some (.int .i64 a0_0) := (blk_cell BK225.out 0).trans rfl
                        have hcz36_1 : wr.cell? ⟨gb225, 1, none⟩ = some (.slice Ao12 t226.length co12) := (blk_cell BK225.out 1).trans rfl
                        have hfz36_0 := blk_frozen BK225.out 0
                        have hfz36_1 := blk_frozen BK225.out 1
                        have q37 : (x10_3 : Int) ≤ ((t226.length : Int) : Int) := of_decide_eq_true (by first | (with_reducible assumption) | assumption)
                        obtain ⟨i037, hi037, _, hsz37, _⟩ := info_parts info3
                        have hroom37 : t226.length ≤ co12 := (Kd.V_reads' HO_226001.out).2.1
                        have hC37 : Kd.F (Kd.int .i64) _ _ Ao12 t226.length t226 := (Kd.V_at (base := w.heap.size) HO_226001.out).2.2
                        have hcut37 := cut_to (P := Try.prog) 28 3 .i64 Try.underlying28 hi037 Ao12 t226.length co12 x10_3 (of_decide_eq_true (by first | (with_reducible assumption) | assumption)) q37 hroom37
                        have hr37 := Kd.F_take (m := (x10_3 : Int).toNat) hC37 (by omega)
                        have hy37 : y245.length = (x10_3 : Int).toNat := (by rw [Ny245.out, List.length_take]; omega)
                        rw [← Ny245.out] at hr37
                        rw [← hy37] at hcut37
                        have HO249 := Aside0.mk (show Kd.V (Kd.int .i64) 3 _ w.heap.size _ (.slice Ao12 y245.length co12) y245 from Kd.V_mk (by omega) hr37)
                        have HC249 := Aside0.mk (show y245.length ≤ co12 from by omega)
                        clear hr37 hC37 hroom37 hi037 hsz37
                        have KY37 := Aside0.mk hy37
                        clear hy37
                        replace q37 := eq_true q37
                        have p250 : 0 ≤ (x10_3 : Int) := of_decide_eq_true (by first | (with_reducible assumption) | assumption)
                        have q250 : x10_3 < (t226.length : Int) := of_decide_eq_true (by first | (with_reducible assumption) | assumption)
                        obtain ⟨ad250, e250, hx250_0⟩ := Kd.at_int (Kd.V_reads' HO_226001.out).2.2 x10_3 p250 q250
                        cases e250
                        replace p250 := eq_true p250
                        replace q250 := eq_true q250
                        go_wp2_with (first | (go_at_call 19; (with_reducible refine (deadeyelaw17_in.calls k3 _ _ y245 (rd t226 x10_3) true _ ?side1 ?side2 A33.out).mono ?_); (case side1 => repeat (first | exact (Kd.V_reads' HO249.out).2.2 | (with_reducible refine Kd.C_alloc ?_ _) | (with_reducible refine Kd.C_drewN ?_ _) | (with_reducible refine Kd.C_drew ?_))); (case side2 => exact (Kd.V_reads' HO249.out).2.1); rintro e w' ⟨rfl, ⟨nd, rfl⟩⟩; (try first | exact ⟨rfl, _, World.drewN_drewN _ _ _⟩ | exact ⟨rfl, _, Eq.trans (World.drewN_drewN _ _ _) (congrArg (World.drewN _) (Nat.add_assoc _ _ _))⟩)) | (go_at_call 12; (with_reducible refine (deadeyelaw17_awake.calls k3  t252 _ A35.out).mono ?_); rintro e w38 ⟨rfl, hb⟩; have n0_ := Aside0.mk (Kd.V_below (by (with_reducible repeat (first | apply Kd.V_alloc | apply Kd.V_drewN | apply Kd.V_drew)); exact HO_2.out) hb); have n1_ := Aside0.mk (Kd.V_below (by (with_reducible repeat (first | apply Kd.V_alloc | apply Kd.V_drewN | apply Kd.V_drew)); exact HO_3.out) hb); have n2_ := Aside0.mk (Kd.V_below (by (with_reducible repeat (first | apply Kd.V_alloc | apply Kd.V_drewN | apply Kd.V_drew)); exact HO_226001.out) hb); have n3_ := Aside0.mk (Kd.V_below (by (with_reducible repeat (first | apply Kd.V_alloc | apply Kd.V_drewN | apply Kd.V_drew)); exact HO249.out) hb); have n4_ := Aside0.mk (blk_below (g := gb225) (o := .cells #[.int .i64 a0_0, .slice (some ad250) t226.length co12] 30 (0, 0)) (by (with_reducible repeat (first | refine blk_drewN ?_ _ | refine blk_drew ?_ | refine blk_alloc ?_ _)); exact BK225.out) hb); have n5_ := Aside0.mk (below_step (by repeat (first | (with_reducible first | exact HB.out | apply below_alloc | apply pw_below_drewN | apply below_drew1 | refine below_set ?_ GE225.out) | exact HB.out)) hb); clear HO_2; clear HO_3; clear HO_226001; clear HO249; clear BK225; clear HB; have HO_2 := n0_; have HO_3 := n1_; have HO_226001 := n2_; have HO249 := n3_; have BK225 := n4_; have HB := n5_; clear n0_ n1_ n2_ n3_ n4_ n5_; (try clear hb); (try clear hb2); (try clear hk); (try clear hi)))
                        repeat (go_quiet (first | (go_at_call 19; (with_reducible refine (deadeyelaw17_in.calls k3 _ _ y245 (rd t226 x10_3) true _ ?side1 ?side2 A33.out).mono ?_); (case side1 => repeat (first | exact (Kd.V_reads' HO249.out).2.2 | (with_reducible refine Kd.C_alloc ?_ _) | (with_reducible refine Kd.C_drewN ?_ _) | (with_reducible refine Kd.C_drew ?_))); (case side2 => exact (Kd.V_reads' HO249.out).2.1); rintro e w' ⟨rfl, ⟨nd, rfl⟩⟩; (try first | exact ⟨rfl, _, World.drewN_drewN _ _ _⟩ | exact ⟨rfl, _, Eq.trans (World.drewN_drewN _ _ _) (congrArg (World.drewN _) (Nat.add_assoc _ _ _))⟩)) | (go_at_call 12; (with_reducible refine (deadeyelaw17_awake.calls k3  t252 _ A35.out).mono ?_); rintro e w38 ⟨rfl, hb⟩; have n0_ := Aside0.mk (Kd.V_below (by (with_reducible repeat (first | apply Kd.V_alloc | apply Kd.V_drewN | apply Kd.V_drew)); exact HO_2.out) hb); have n1_ := Aside0.mk (Kd.V_below (by (with_reducible repeat (first | apply Kd.V_alloc | apply Kd.V_drewN | apply Kd.V_drew)); exact HO_3.out) hb); have n2_ := Aside0.mk (Kd.V_below (by (with_reducible repeat (first | apply Kd.V_alloc | apply Kd.V_drewN | apply Kd.V_drew)); exact HO_226001.out) hb); have n3_ := Aside0.mk (Kd.V_below (by (with_reducible repeat (first | apply Kd.V_alloc | apply Kd.V_drewN | apply Kd.V_drew)); exact HO249.out) hb); have n4_ := Aside0.mk (blk_below (g := gb225) (o := .cells #[.int .i64 a0_0, .slice (some ad250) t226.length co12] 30 (0, 0)) (by (with_reducible repeat (first | refine blk_drewN ?_ _ | refine blk_drew ?_ | refine blk_alloc ?_ _)); exact BK225.out) hb); have n5_ := Aside0.mk (below_step (by repeat (first | (with_reducible first | exact HB.out | apply below_alloc | apply pw_below_drewN | apply below_drew1 | refine below_set ?_ GE225.out) | exact HB.out)) hb); clear HO_2; clear HO_3; clear HO_226001; clear HO249; clear BK225; clear HB; have HO_2 := n0_; have HO_3 := n1_; have HO_226001 := n2_; have HO249 := n3_; have BK225 := n4_; have HB := n5_; clear n0_ n1_ n2_ n3_ n4_ n5_; (try clear hb); (try clear hb2); (try clear hk); (try clear hi))); try go_wp2_with (first | (go_at_call 19; (with_reducible refine (deadeyelaw17_in.calls k3 _ _ y245 (rd t226 x10_3) true _ ?side1 ?side2 A33.out).mono ?_); (case side1 => repeat (first | exact (Kd.V_reads' HO249.out).2.2 | (with_reducible refine Kd.C_alloc ?_ _) | (with_reducible refine Kd.C_drewN ?_ _) | (with_reducible refine Kd.C_drew ?_))); (case side2 => exact (Kd.V_reads' HO249.out).2.1); rintro e w' ⟨rfl, ⟨nd, rfl⟩⟩; (try first | exact ⟨rfl, _, World.drewN_drewN _ _ _⟩ | exact ⟨rfl, _, Eq.trans (World.drewN_drewN _ _ _) (congrArg (World.drewN _) (Nat.add_assoc _ _ _))⟩)) | (go_at_call 12; (with_reducible refine (deadeyelaw17_awake.calls k3  t252 _ A35.out).mono ?_); rintro e w38 ⟨rfl, hb⟩; have n0_ := Aside0.mk (Kd.V_below (by (with_reducible repeat (first | apply Kd.V_alloc | apply Kd.V_drewN | apply Kd.V_drew)); exact HO_2.out) hb); have n1_ := Aside0.mk (Kd.V_below (by (with_reducible repeat (first | apply Kd.V_alloc | apply Kd.V_drewN | apply Kd.V_drew)); exact HO_3.out) hb); have n2_ := Aside0.mk (Kd.V_below (by (with_reducible repeat (first | apply Kd.V_alloc | apply Kd.V_drewN | apply Kd.V_drew)); exact HO_226001.out) hb); have n3_ := Aside0.mk (Kd.V_below (by (with_reducible repeat (first | apply Kd.V_alloc | apply Kd.V_drewN | apply Kd.V_drew)); exact HO249.out) hb); have n4_ := Aside0.mk (blk_below (g := gb225) (o := .cells #[.int .i64 a0_0, .slice (some ad250) t226.length co12] 30 (0, 0)) (by (with_reducible repeat (first | refine blk_drewN ?_ _ | refine blk_drew ?_ | refine blk_alloc ?_ _)); exact BK225.out) hb); have n5_ := Aside0.mk (below_step (by repeat (first | (with_reducible first | exact HB.out | apply below_alloc | apply pw_below_drewN | apply below_drew1 | refine below_set ?_ GE225.out) | exact HB.out)) hb); clear HO_2; clear HO_3; clear HO_226001; clear HO249; clear BK225; clear HB; have HO_2 := n0_; have HO_3 := n1_; have HO_226001 := n2_; have HO249 := n3_; have BK225 := n4_; have HB := n5_; clear n0_ n1_ n2_ n3_ n4_ n5_; (try clear hb); (try clear hb2); (try clear hk); (try clear hi))))
                        go_ret
                        exact ⟨by first | rfl | (simp [errW_none, errW_some] <;> rfl) | (simp [*, errW_none, errW_some] <;> rfl), by repeat (first | (with_reducible first | exact HB.out | apply below_alloc | apply pw_below_drewN | apply below_drew1 | refine below_set ?_ GE225.out) | exact HB.out)⟩
                      · replace c34 := Bool.eq_false_iff.mpr c34
                        subst c34
                        have H1 : (deadeyelaw17_PlanMembers.l1 k3 a1 x2_6 t229 (wrap64 (x10_3 + 1)) a0_0 t226) = some r := by rw [if_neg (show ¬ (false = true) by decide)] at H; exact H
                        clear H
                        have H := H1
                        clear H1
                        have H' := Aside0.mk H
                        clear H
                        have hcz39_0 : wr.cell? ⟨gb225, 0, none⟩ = some (.int .i64 a0_0) := (blk_cell BK225.out 0).trans rfl
                        have hcz39_1 : wr.cell? ⟨gb225, 1, none⟩ = some (.slice Ao12 t226.length co12) := (blk_cell BK225.out 1).trans rfl
                        have hfz39_0 := blk_frozen BK225.out 0
                        have hfz39_1 := blk_frozen BK225.out 1
                        have q40 : (x10_3 : Int) ≤ ((t226.length : Int) : Int) := of_decide_eq_true (by first | (with_reducible assumption) | assumption)
                        obtain ⟨i040, hi040, _, hsz40, _⟩ := info_parts info3
                        have hroom40 : t226.length ≤ co12 := (Kd.V_reads' HO_226001.out).2.1
                        have hC40 : Kd.F (Kd.int .i64) _ _ Ao12 t226.length t226 := (Kd.V_at (base := w.heap.size) HO_226001.out).2.2
                        have hcut40 := cut_to (P := Try.prog) 28 3 .i64 Try.underlying28 hi040 Ao12 t226.length co12 x10_3 (of_decide_eq_true (by first | (with_reducible assumption) | assumption)) q40 hroom40
                        have hr40 := Kd.F_take (m := (x10_3 : Int).toNat) hC40 (by omega)
                        have hy40 : y245.length = (x10_3 : Int).toNat := (by rw [Ny245.out, List.length_take]; omega)
                        rw [← Ny245.out] at hr40
                        rw [← hy40] at hcut40
                        have HO249 := Aside0.mk (show Kd.V (Kd.int .i64) 3 _ w.heap.size _ (.slice Ao12 y245.length co12) y245 from Kd.V_mk (by omega) hr40)
                        have HC249 := Aside0.mk (show y245.length ≤ co12 from by omega)
                        clear hr40 hC40 hroom40 hi040 hsz40
                        have KY40 := Aside0.mk hy40
                        clear hy40
                        replace q40 := eq_true q40
                        have p250 : 0 ≤ (x10_3 : Int) := of_decide_eq_true (by first | (with_reducible assumption) | assumption)
                        have q250 : x10_3 < (t226.length : Int) := of_decide_eq_true (by first | (with_reducible assumption) | assumption)
                        obtain ⟨ad250, e250, hx250_0⟩ := Kd.at_int (Kd.V_reads' HO_226001.out).2.2 x10_3 p250 q250
                        cases e250
                        replace p250 := eq_true p250
                        replace q250 := eq_true q250
                        go_wp2_with (first | (go_at_call 19; (with_reducible refine (deadeyelaw17_in.calls k3 _ _ y245 (rd t226 x10_3) false _ ?side1 ?side2 A33.out).mono ?_); (case side1 => repeat (first | exact (Kd.V_reads' HO249.out).2.2 | (with_reducible refine Kd.C_alloc ?_ _) | (with_reducible refine Kd.C_drewN ?_ _) | (with_reducible refine Kd.C_drew ?_))); (case side2 => exact (Kd.V_reads' HO249.out).2.1); rintro e w' ⟨rfl, ⟨nd, rfl⟩⟩; (try first | exact ⟨rfl, _, World.drewN_drewN _ _ _⟩ | exact ⟨rfl, _, Eq.trans (World.drewN_drewN _ _ _) (congrArg (World.drewN _) (Nat.add_assoc _ _ _))⟩)))
                        repeat (go_quiet (first | (go_at_call 19; (with_reducible refine (deadeyelaw17_in.calls k3 _ _ y245 (rd t226 x10_3) false _ ?side1 ?side2 A33.out).mono ?_); (case side1 => repeat (first | exact (Kd.V_reads' HO249.out).2.2 | (with_reducible refine Kd.C_alloc ?_ _) | (with_reducible refine Kd.C_drewN ?_ _) | (with_reducible refine Kd.C_drew ?_))); (case side2 => exact (Kd.V_reads' HO249.out).2.1); rintro e w' ⟨rfl, ⟨nd, rfl⟩⟩; (try first | exact ⟨rfl, _, World.drewN_drewN _ _ _⟩ | exact ⟨rfl, _, Eq.trans (World.drewN_drewN _ _ _) (congrArg (World.drewN _) (Nat.add_assoc _ _ _))⟩))); try go_wp2_with (first | (go_at_call 19; (with_reducible refine (deadeyelaw17_in.calls k3 _ _ y245 (rd t226 x10_3) false _ ?side1 ?side2 A33.out).mono ?_); (case side1 => repeat (first | exact (Kd.V_reads' HO249.out).2.2 | (with_reducible refine Kd.C_alloc ?_ _) | (with_reducible refine Kd.C_drewN ?_ _) | (with_reducible refine Kd.C_drew ?_))); (case side2 => exact (Kd.V_reads' HO249.out).2.1); rintro e w' ⟨rfl, ⟨nd, rfl⟩⟩; (try first | exact ⟨rfl, _, World.drewN_drewN _ _ _⟩ | exact ⟨rfl, _, Eq.trans (World.drewN_drewN _ _ _) (congrArg (World.drewN _) (Nat.add_assoc _ _ _))⟩))))
                        go_roundg k3
                        case measure => have := HJ6.out; have := HK2.out; have := HK3.out; omega
                        case rel => exact ⟨(wrap64 (x10_3 + 1)), (by first | rfl | (simp; done) | (simp [*]; done)), H', ⟨by have := HJ6.out; have := HK2.out; have := HK3.out; omega⟩, ⟨by (with_reducible repeat (first | apply Kd.V_alloc | apply Kd.V_drewN | apply Kd.V_drew)); exact HO_2.out⟩, ⟨by (with_reducible repeat (first | apply Kd.V_alloc | apply Kd.V_drewN | apply Kd.V_drew)); exact HO_3.out⟩, ⟨by (with_reducible repeat (first | apply Kd.V_alloc | apply Kd.V_drewN | apply Kd.V_drew)); exact HO_226001.out⟩, ⟨by (with_reducible repeat (first | refine blk_drewN ?_ _ | refine blk_drew ?_ | refine blk_alloc ?_ _)); exact BK225.out⟩, ⟨by repeat (first | (with_reducible first | exact HB.out | apply below_alloc | apply pw_below_drewN | apply below_drew1 | refine below_set ?_ GE225.out) | exact HB.out)⟩⟩
                    · rw [if_neg c32] at H
                      exact absurd H (by simp)
                  · rw [if_neg c31] at H
                    exact absurd H (by simp)
                · rw [if_neg c30] at H
                  have c30b0 : decide (x10_3 < (t226.length : Int)) = false := decide_eq_false c30
                  clear c30
                  obtain ⟨y253, hy253⟩ : ∃ y_ : List Int, y_ = (([] : List Int)) := ⟨_, rfl⟩
                  replace H : (deadeyelaw17_PlanMembers.l2 k3 a1 x2_6 t229 y253 0 a0_0 t226) = some r := by first | (rw [hy253]; with_reducible exact H) | (have H2_ := (Option.bind_some _ _).symm.trans H; rw [hy253]; with_reducible exact H2_) | (have H2_ := (Option.bind_some _ _).symm.trans H; with_reducible exact H2_) | with_reducible exact H | (rw [hy253]; exact H) | exact H
                  have Ny253 := Aside0.mk hy253
                  clear hy253
                  have H' := Aside0.mk H
                  clear H
                  have hcz41_0 : wr.cell? ⟨gb225, 0, none⟩ = some (.int .i64 a0_0) := (blk_cell BK225.out 0).trans rfl
                  have hcz41_1 : wr.cell? ⟨gb225, 1, none⟩ = some (.slice Ao12 t226.length co12) := (blk_cell BK225.out 1).trans rfl
                  have hfz41_0 := blk_frozen BK225.out 0
                  have hfz41_1 := blk_frozen BK225.out 1
                  go_wp2_with (first | ((with_reducible refine gate_dst (N := 62) rfl ?_); (try (refine gate_guard (by rfl) ?_; dsimp only)); refine Kd.R_lit (Kd.int .i64) _ 3 ?hg (N := 62) ?hd (xs := ([] : List Int)) (inner := []) (ok := fun _ => True) (okp := fun _ => True) ?hr ?hp (fun _ hk => hk) trivial (Below.refl _ _) (Nat.le_refl _) (by simp) ?_; (case hd => rfl); (case hg => rfl); (case hr => first | (go_simp; done) | (go_simp; rfl)); (case hp => exact (Reps.none _ _)); intro v254 w42 ho43 hb hg_ hnew_; clear hg_ hnew_; (first | rw [← Ny253.out] at ho43 | (simp only [Int.reduceToNat] at ho43; rw [← Ny253.out] at ho43)); have n0_ := Aside0.mk (Kd.V_elder' (by (with_reducible repeat (first | apply Kd.V_alloc | apply Kd.V_drewN | apply Kd.V_drew)); exact HO_2.out) (Kd.R_base ho43) hb); have n1_ := Aside0.mk (Kd.V_elder' (by (with_reducible repeat (first | apply Kd.V_alloc | apply Kd.V_drewN | apply Kd.V_drew)); exact HO_3.out) (Kd.R_base ho43) hb); have n2_ := Aside0.mk (Kd.V_elder' (by (with_reducible repeat (first | apply Kd.V_alloc | apply Kd.V_drewN | apply Kd.V_drew)); exact HO_226001.out) (Kd.R_base ho43) hb); have n3_ := Aside0.mk (Kd.R_lower (Kd.R_newM (M := fun k_ => (w.heap.size ≤ k_)) ho43 (below_size (by repeat (first | (with_reducible first | exact HB.out | apply below_alloc | apply pw_below_drewN | apply below_drew1 | refine below_set ?_ GE225.out) | exact HB.out))) (fun k_ h_ => h_)) (below_size (by repeat (first | (with_reducible first | exact HB.out | apply below_alloc | apply pw_below_drewN | apply below_drew1 | refine below_set ?_ GE225.out) | exact HB.out)))); have n4_ := Aside0.mk (blk_below (g := gb225) (o := .cells #[.int .i64 a0_0, .slice Ao12 t226.length co12] 30 (0, 0)) (by (with_reducible repeat (first | refine blk_drewN ?_ _ | refine blk_drew ?_ | refine blk_alloc ?_ _)); exact BK225.out) hb); have n5_ := Aside0.mk (below_step (by repeat (first | (with_reducible first | exact HB.out | apply below_alloc | apply pw_below_drewN | apply below_drew1 | refine below_set ?_ GE225.out) | exact HB.out)) hb); clear HO_2; clear HO_3; clear HO_226001; clear BK225; clear HB; have HO_2 := n0_; have HO_3 := n1_; have HO_226001 := n2_; have HO255 := n3_; have BK225 := n4_; have HB := n5_; clear n0_ n1_ n2_ n3_ n4_ n5_; clear hb ho43))
                  repeat (go_quiet (first | ((with_reducible refine gate_dst (N := 62) rfl ?_); (try (refine gate_guard (by rfl) ?_; dsimp only)); refine Kd.R_lit (Kd.int .i64) _ 3 ?hg (N := 62) ?hd (xs := ([] : List Int)) (inner := []) (ok := fun _ => True) (okp := fun _ => True) ?hr ?hp (fun _ hk => hk) trivial (Below.refl _ _) (Nat.le_refl _) (by simp) ?_; (case hd => rfl); (case hg => rfl); (case hr => first | (go_simp; done) | (go_simp; rfl)); (case hp => exact (Reps.none _ _)); intro v254 w42 ho43 hb hg_ hnew_; clear hg_ hnew_; (first | rw [← Ny253.out] at ho43 | (simp only [Int.reduceToNat] at ho43; rw [← Ny253.out] at ho43)); have n0_ := Aside0.mk (Kd.V_elder' (by (with_reducible repeat (first | apply Kd.V_alloc | apply Kd.V_drewN | apply Kd.V_drew)); exact HO_2.out) (Kd.R_base ho43) hb); have n1_ := Aside0.mk (Kd.V_elder' (by (with_reducible repeat (first | apply Kd.V_alloc | apply Kd.V_drewN | apply Kd.V_drew)); exact HO_3.out) (Kd.R_base ho43) hb); have n2_ := Aside0.mk (Kd.V_elder' (by (with_reducible repeat (first | apply Kd.V_alloc | apply Kd.V_drewN | apply Kd.V_drew)); exact HO_226001.out) (Kd.R_base ho43) hb); have n3_ := Aside0.mk (Kd.R_lower (Kd.R_newM (M := fun k_ => (w.heap.size ≤ k_)) ho43 (below_size (by repeat (first | (with_reducible first | exact HB.out | apply below_alloc | apply pw_below_drewN | apply below_drew1 | refine below_set ?_ GE225.out) | exact HB.out))) (fun k_ h_ => h_)) (below_size (by repeat (first | (with_reducible first | exact HB.out | apply below_alloc | apply pw_below_drewN | apply below_drew1 | refine below_set ?_ GE225.out) | exact HB.out)))); have n4_ := Aside0.mk (blk_below (g := gb225) (o := .cells #[.int .i64 a0_0, .slice Ao12 t226.length co12] 30 (0, 0)) (by (with_reducible repeat (first | refine blk_drewN ?_ _ | refine blk_drew ?_ | refine blk_alloc ?_ _)); exact BK225.out) hb); have n5_ := Aside0.mk (below_step (by repeat (first | (with_reducible first | exact HB.out | apply below_alloc | apply pw_below_drewN | apply below_drew1 | refine below_set ?_ GE225.out) | exact HB.out)) hb); clear HO_2; clear HO_3; clear HO_226001; clear BK225; clear HB; have HO_2 := n0_; have HO_3 := n1_; have HO_226001 := n2_; have HO255 := n3_; have BK225 := n4_; have HB := n5_; clear n0_ n1_ n2_ n3_ n4_ n5_; clear hb ho43)); try go_wp2_with (first | ((with_reducible refine gate_dst (N := 62) rfl ?_); (try (refine gate_guard (by rfl) ?_; dsimp only)); refine Kd.R_lit (Kd.int .i64) _ 3 ?hg (N := 62) ?hd (xs := ([] : List Int)) (inner := []) (ok := fun _ => True) (okp := fun _ => True) ?hr ?hp (fun _ hk => hk) trivial (Below.refl _ _) (Nat.le_refl _) (by simp) ?_; (case hd => rfl); (case hg => rfl); (case hr => first | (go_simp; done) | (go_simp; rfl)); (case hp => exact (Reps.none _ _)); intro v254 w42 ho43 hb hg_ hnew_; clear hg_ hnew_; (first | rw [← Ny253.out] at ho43 | (simp only [Int.reduceToNat] at ho43; rw [← Ny253.out] at ho43)); have n0_ := Aside0.mk (Kd.V_elder' (by (with_reducible repeat (first | apply Kd.V_alloc | apply Kd.V_drewN | apply Kd.V_drew)); exact HO_2.out) (Kd.R_base ho43) hb); have n1_ := Aside0.mk (Kd.V_elder' (by (with_reducible repeat (first | apply Kd.V_alloc | apply Kd.V_drewN | apply Kd.V_drew)); exact HO_3.out) (Kd.R_base ho43) hb); have n2_ := Aside0.mk (Kd.V_elder' (by (with_reducible repeat (first | apply Kd.V_alloc | apply Kd.V_drewN | apply Kd.V_drew)); exact HO_226001.out) (Kd.R_base ho43) hb); have n3_ := Aside0.mk (Kd.R_lower (Kd.R_newM (M := fun k_ => (w.heap.size ≤ k_)) ho43 (below_size (by repeat (first | (with_reducible first | exact HB.out | apply below_alloc | apply pw_below_drewN | apply below_drew1 | refine below_set ?_ GE225.out) | exact HB.out))) (fun k_ h_ => h_)) (below_size (by repeat (first | (with_reducible first | exact HB.out | apply below_alloc | apply pw_below_drewN | apply below_drew1 | refine below_set ?_ GE225.out) | exact HB.out)))); have n4_ := Aside0.mk (blk_below (g := gb225) (o := .cells #[.int .i64 a0_0, .slice Ao12 t226.length co12] 30 (0, 0)) (by (with_reducible repeat (first | refine blk_drewN ?_ _ | refine blk_drew ?_ | refine blk_alloc ?_ _)); exact BK225.out) hb); have n5_ := Aside0.mk (below_step (by repeat (first | (with_reducible first | exact HB.out | apply below_alloc | apply pw_below_drewN | apply below_drew1 | refine below_set ?_ GE225.out) | exact HB.out)) hb); clear HO_2; clear HO_3; clear HO_226001; clear BK225; clear HB; have HO_2 := n0_; have HO_3 := n1_; have HO_226001 := n2_; have HO255 := n3_; have BK225 := n4_; have HB := n5_; clear n0_ n1_ n2_ n3_ n4_ n5_; clear hb ho43)))
                  go_loopg [11, 12] k3 (fun kq v11 v12 w' => ∃ (x11_4 : List Int) (x12_4 : Int), v12 = .int .i64 x12_4 ∧ Aside0 (deadeyelaw17_PlanMembers.l2 kq a1 x2_6 t229 x11_4 x12_4 a0_0 t226 = some r) ∧ Aside0 (kq ≤ k3) ∧ Aside0 (Kd.V k26 26 w' w.heap.size (fun k_ => ((P0_1_ k_ ∨ P2_ k_ ∨ P3_ k_) ∨ w.heap.size ≤ k_) ∧ some k_ ≠ (v11 : Value).ownBlock ∧ k_ ≠ gb225) u2 x2_6) ∧ Aside0 (Kd.V (Kd.int .i64) 3 w' w.heap.size (fun k_ => ((P0_1_ k_ ∨ P2_ k_ ∨ P3_ k_) ∨ w.heap.size ≤ k_) ∧ some k_ ≠ (v11 : Value).ownBlock ∧ k_ ≠ gb225) (.slice Ao29 t229.length co29) t229) ∧ Aside0 (Kd.R (Kd.int .i64) 3 w' w.heap.size (fun k_ => (w.heap.size ≤ k_)) v11 x11_4) ∧ Aside0 (Kd.V (Kd.int .i64) 3 w' w.heap.size (fun k_ => ((P0_1_ k_ ∨ P2_ k_ ∨ P3_ k_) ∨ w.heap.size ≤ k_) ∧ some k_ ≠ (v11 : Value).ownBlock ∧ k_ ≠ gb225) (.slice Ao12 t226.length co12) t226) ∧ Aside0 (w'.heap[gb225]? = some (.cells #[.int .i64 a0_0, (.slice Ao12 t226.length co12)] 30 (0, 0))) ∧ Aside0 (Below w.heap.size w w'))
                  case atStart => exact ⟨(y253), (0), (by first | rfl | (simp; done) | (simp [*]; done)), H', ⟨Nat.le_refl _⟩, ⟨by (with_reducible repeat (first | apply Kd.V_alloc | apply Kd.V_drewN | apply Kd.V_drew)); exact Kd.V_mono HO_2.out (fun _ hk => ⟨hk.1.1, ⟨hk.2, hk.1.2⟩⟩)⟩, ⟨by (with_reducible repeat (first | apply Kd.V_alloc | apply Kd.V_drewN | apply Kd.V_drew)); exact Kd.V_mono HO_3.out (fun _ hk => ⟨hk.1.1, ⟨hk.2, hk.1.2⟩⟩)⟩, ⟨by (with_reducible repeat (first | apply Kd.R_alloc | apply Kd.R_drewN | apply Kd.R_drew)); exact Kd.R_mono HO255.out (fun _ hk => hk.1)⟩, ⟨by (with_reducible repeat (first | apply Kd.V_alloc | apply Kd.V_drewN | apply Kd.V_drew)); exact Kd.V_mono HO_226001.out (fun _ hk => ⟨hk.1.1, ⟨hk.2, hk.1.2⟩⟩)⟩, ⟨by (with_reducible repeat (first | refine blk_drewN ?_ _ | refine blk_drew ?_ | refine blk_alloc ?_ _)); exact BK225.out⟩, ⟨by repeat (first | (with_reducible first | exact HB.out | apply below_alloc | apply pw_below_drewN | apply below_drew1 | refine below_set ?_ GE225.out) | exact HB.out)⟩⟩
                  case round =>
                    clear H'
                    try clear c1
                    try clear q1
                    try clear c2
                    try clear p2
                    try clear q2
                    try clear hx2
                    try clear c3
                    try clear q3
                    try clear q4
                    try clear c5
                    try clear p6
                    try clear c15
                    try clear c15b0
                    try clear c15b1
                    try clear c16
                    try clear c16b0
                    try clear c16b1
                    try clear q17
                    try clear c18
                    try clear c18b0
                    try clear c19
                    try clear c19b0
                    try clear c19b1
                    try clear c20
                    try clear c20b0
                    try clear c20b1
                    try clear c22
                    try clear p24
                    try clear q24
                    try clear hx24
                    try clear p25
                    try clear q25
                    try clear hx25
                    try clear q28
                    try clear c30
                    try clear c30b0
                    try clear c31
                    try clear c31b0
                    try clear c31b1
                    try clear c32
                    try clear c32b0
                    try clear c32b1
                    try clear c34
                    try clear q37
                    try clear q40
                    try clear hcz13_0
                    try clear hcz13_1
                    try clear hcz36_0
                    try clear hcz36_1
                    try clear hcz39_0
                    try clear hcz39_1
                    try clear hcz41_0
                    try clear hcz41_1
                    try clear hcz9_0
                    try clear hcz9_1
                    try clear hfz13_0
                    try clear hfz13_1
                    try clear hfz36_0
                    try clear hfz36_1
                    try clear hfz39_0
                    try clear hfz39_1
                    try clear hfz41_0
                    try clear hfz41_1
                    try clear hfz9_0
                    try clear hfz9_1
                    try clear hx242_0
                    try clear hx250_0
                    try clear p2
                    try clear p24
                    try clear p242
                    try clear p250
                    try clear p6
                    try clear q1
                    try clear q17
                    try clear q2
                    try clear q24
                    try clear q242
                    try clear q25
                    try clear q250
                    try clear q28
                    try clear q37
                    try clear q40
                    obtain ⟨x11_4, x12_4, rfl, HA, HK4, HO_2, HO_3, HO_11, HO_226001, BK225, HB⟩ := hrel
                    cases gk with
                    | zero => exact absurd HA.out (by simp [deadeyelaw17_PlanMembers.l2])
                    | succ k4 =>
                      have H := HA.out
                      clear HA
                      simp only [deadeyelaw17_PlanMembers.l2] at H
                      by_cases c44 : x12_4 < (t226.length : Int)
                      · rw [if_pos c44] at H
                        have c44b0 : decide (x12_4 < (t226.length : Int)) = true := decide_eq_true c44
                        clear c44
                        by_cases c45 : 0 ≤ x12_4
                        · rw [if_pos c45] at H
                          have c45b0 : decide (0 ≤ x12_4) = true := decide_eq_true c45
                          clear c45
                          replace H := Option.bind_eq_some_iff.mp H
                          obtain ⟨t257, A460, H⟩ := H
                          replace H : (if t257 = true then ((deadeyelaw17_in.f k4 t229 (rd t226 x12_4)).bind fun t259 => (if t259 = true then (if x11_4.length < 17592186044416 then (deadeyelaw17_PlanMembers.l2 k4 a1 x2_6 t229 (x11_4 ++ [rd t226 x12_4]) (wrap64 (x12_4 + 1)) a0_0 t226) else (none)) else (deadeyelaw17_PlanMembers.l2 k4 a1 x2_6 t229 x11_4 (wrap64 (x12_4 + 1)) a0_0 t226))) else (deadeyelaw17_PlanMembers.l2 k4 a1 x2_6 t229 x11_4 (wrap64 (x12_4 + 1)) a0_0 t226)) = some r := H
                          have A46 := Aside0.mk A460
                          clear A460
                          by_cases c47 : t257 = true
                          · subst c47
                            have H1 : ((deadeyelaw17_in.f k4 t229 (rd t226 x12_4)).bind fun t259 => (if t259 = true then (if x11_4.length < 17592186044416 then (deadeyelaw17_PlanMembers.l2 k4 a1 x2_6 t229 (x11_4 ++ [rd t226 x12_4]) (wrap64 (x12_4 + 1)) a0_0 t226) else (none)) else (deadeyelaw17_PlanMembers.l2 k4 a1 x2_6 t229 x11_4 (wrap64 (x12_4 + 1)) a0_0 t226))) = some r := by rw [if_pos rfl] at H; exact H
                            clear H
                            have H := H1
                            clear H1
                            replace H := Option.bind_eq_some_iff.mp H
                            obtain ⟨t259, A480, H⟩ := H
                            replace H : (if t259 = true then (if x11_4.length < 17592186044416 then (deadeyelaw17_PlanMembers.l2 k4 a1 x2_6 t229 (x11_4 ++ [rd t226 x12_4]) (wrap64 (x12_4 + 1)) a0_0 t226) else (none)) else (deadeyelaw17_PlanMembers.l2 k4 a1 x2_6 t229 x11_4 (wrap64 (x12_4 + 1)) a0_0 t226)) = some r := H
                            have A48 := Aside0.mk A480
                            clear A480
                            by_cases c49 : t259 = true
                            · subst c49
                              have H1 : (if x11_4.length < 17592186044416 then (deadeyelaw17_PlanMembers.l2 k4 a1 x2_6 t229 (x11_4 ++ [rd t226 x12_4]) (wrap64 (x12_4 + 1)) a0_0 t226) else (none)) = some r := by rw [if_pos rfl] at H; exact H
                              clear H
                              have H := H1
                              clear H1
                              by_cases c50 : x11_4.length < 17592186044416
                              · rw [if_pos c50] at H
                                have LMc50 := Aside0.mk c50
                                clear c50
                                obtain ⟨y261, hy261⟩ : ∃ y_ : List Int, y_ = (x11_4 ++ [rd t226 x12_4]) := ⟨_, rfl⟩
                                replace H : (deadeyelaw17_PlanMembers.l2 k4 a1 x2_6 t229 y261 (wrap64 (x12_4 + 1)) a0_0 t226) = some r := by first | (rw [hy261]; with_reducible exact H) | (have H2_ := (Option.bind_some _ _).symm.trans H; rw [hy261]; with_reducible exact H2_) | (have H2_ := (Option.bind_some _ _).symm.trans H; with_reducible exact H2_) | with_reducible exact H | (rw [hy261]; exact H) | exact H
                                have Ny261 := Aside0.mk hy261
                                clear hy261
                                have H' := Aside0.mk H
                                clear H
                                have hcz51_0 : wr.cell? ⟨gb225, 0, none⟩ = some (.int .i64 a0_0) := (blk_cell BK225.out 0).trans rfl
                                have hcz51_1 : wr.cell? ⟨gb225, 1, none⟩ = some (.slice Ao12 t226.length co12) := (blk_cell BK225.out 1).trans rfl
                                have hfz51_0 := blk_frozen BK225.out 0
                                have hfz51_1 := blk_frozen BK225.out 1
                                have p256 : 0 ≤ (x12_4 : Int) := of_decide_eq_true (by first | (with_reducible assumption) | assumption)
                                have q256 : x12_4 < (t226.length : Int) := of_decide_eq_true (by first | (with_reducible assumption) | assumption)
                                obtain ⟨ad256, e256, hx256_0⟩ := Kd.at_int (Kd.V_reads' HO_226001.out).2.2 x12_4 p256 q256
                                cases e256
                                replace p256 := eq_true p256
                                replace q256 := eq_true q256
                                obtain ⟨Ao52, co52, eo52⟩ := Kd.V_slice HO_2.out
                                subst eo52
                                go_wp2_with (first | (go_at_call 15; (with_reducible refine (deadeyelaw17_told.calls k4 _ _ x2_6 (rd t226 x12_4) true _ ?side1 ?side2 A46.out).mono ?_); (case side1 => repeat (first | exact (Kd.V_reads' HO_2.out).2.2 | (with_reducible refine Kd.C_alloc ?_ _) | (with_reducible refine Kd.C_drewN ?_ _) | (with_reducible refine Kd.C_drew ?_))); (case side2 => exact (Kd.V_reads' HO_2.out).2.1); rintro e w' ⟨rfl, ⟨nd, rfl⟩⟩; (try first | exact ⟨rfl, _, World.drewN_drewN _ _ _⟩ | exact ⟨rfl, _, Eq.trans (World.drewN_drewN _ _ _) (congrArg (World.drewN _) (Nat.add_assoc _ _ _))⟩); have p258 : 0 ≤ (x12_4 : Int) := of_decide_eq_true (by first | (with_reducible assumption) | assumption); have q258 : x12_4 < (t226.length : Int) := of_decide_eq_true (by first | (with_reducible assumption) | assumption); obtain ⟨ad258, e258, hx258_0⟩ := Kd.at_int (Kd.V_reads' HO_226001.out).2.2 x12_4 p258 q258; obtain rfl : ad256 = ad258 := (by injection e258); replace p258 := eq_true p258; replace q258 := eq_true q258) | (go_at_call 19; (with_reducible refine (deadeyelaw17_in.calls k4 _ _ t229 (rd t226 x12_4) true _ ?side1 ?side2 A48.out).mono ?_); (case side1 => repeat (first | exact (Kd.V_reads' HO_3.out).2.2 | (with_reducible refine Kd.C_alloc ?_ _) | (with_reducible refine Kd.C_drewN ?_ _) | (with_reducible refine Kd.C_drew ?_))); (case side2 => exact (Kd.V_reads' HO_3.out).2.1); rintro e w' ⟨rfl, ⟨nd, rfl⟩⟩; (try first | exact ⟨rfl, _, World.drewN_drewN _ _ _⟩ | exact ⟨rfl, _, Eq.trans (World.drewN_drewN _ _ _) (congrArg (World.drewN _) (Nat.add_assoc _ _ _))⟩); have p260 : 0 ≤ (x12_4 : Int) := of_decide_eq_true (by first | (with_reducible assumption) | assumption); have q260 : x12_4 < (t226.length : Int) := of_decide_eq_true (by first | (with_reducible assumption) | assumption); obtain ⟨ad260, e260, hx260_0⟩ := Kd.at_int (Kd.V_reads' HO_226001.out).2.2 x12_4 p260 q260; obtain rfl : ad256 = ad260 := (by injection e260); replace p260 := eq_true p260; replace q260 := eq_true q260) | ((with_reducible refine gate_builtin (b := .append) (xs := #[.tmp 86, .tmp 92]) rfl ?_); (try (refine gate_guard (by rfl) ?_; dsimp only)); at_builtin; refine Kd.R_append (Kd.int .i64) (w0 := w) w.heap.size rfl (.tmp 86) (.tmp 92) 28 3 (.int .i64 0) 8 rfl Try.underlying28 info3 rfl (by decide) (by omega) u11 x11_4 (rd t226 x12_4) [.int .i64 (rd t226 x12_4)] (fun k_ => (w.heap.size ≤ k_)) (fun _ => False) rfl rfl ?aP (fun _ hk => hk.elim) ?aF ?aO ?aB ?aS ?aL ?_; (case aP => exact rfl); (case aB => exact (by repeat (first | (with_reducible first | exact HB.out | apply below_alloc | apply pw_below_drewN | apply below_drew1 | refine below_set ?_ GE225.out) | exact HB.out))); (case aF => exact (fun k_ hk => (Nat.le_trans (below_size (by repeat (first | (with_reducible first | exact HB.out | apply below_alloc | apply pw_below_drewN | apply below_drew1 | refine below_set ?_ GE225.out) | exact HB.out))) hk))); (case aO => exact (by (with_reducible repeat (first | apply Kd.R_alloc | apply Kd.R_drewN | apply Kd.R_drew)); exact HO_11.out)); (case aS => exact (below_size (by repeat (first | (with_reducible first | exact HB.out | apply below_alloc | apply pw_below_drewN | apply below_drew1 | refine below_set ?_ GE225.out) | exact HB.out)))); (case aL => have := LMc50.out; omega); intro v262 w53 ho hb hg hat; rw [← Ny261.out] at ho; have n0_ := Aside0.mk (Kd.V_afterv (ok := (fun k_ => ((P0_1_ k_ ∨ P2_ k_ ∨ P3_ k_) ∨ w.heap.size ≤ k_) ∧ k_ ≠ gb225)) (by (with_reducible repeat (first | apply Kd.V_alloc | apply Kd.V_drewN | apply Kd.V_drew)); exact Kd.V_mono HO_2.out (fun _ hk => ⟨⟨hk.1, hk.2.2⟩, hk.2.1⟩)) hg hat); have n1_ := Aside0.mk (Kd.V_afterv (ok := (fun k_ => ((P0_1_ k_ ∨ P2_ k_ ∨ P3_ k_) ∨ w.heap.size ≤ k_) ∧ k_ ≠ gb225)) (by (with_reducible repeat (first | apply Kd.V_alloc | apply Kd.V_drewN | apply Kd.V_drew)); exact Kd.V_mono HO_3.out (fun _ hk => ⟨⟨hk.1, hk.2.2⟩, hk.2.1⟩)) hg hat); have n2_ := Aside0.mk (Kd.V_afterv (ok := (fun k_ => ((P0_1_ k_ ∨ P2_ k_ ∨ P3_ k_) ∨ w.heap.size ≤ k_) ∧ k_ ≠ gb225)) (by (with_reducible repeat (first | apply Kd.V_alloc | apply Kd.V_drewN | apply Kd.V_drew)); exact Kd.V_mono HO_226001.out (fun _ hk => ⟨⟨hk.1, hk.2.2⟩, hk.2.1⟩)) hg hat); have n3_ := Aside0.mk (blk_grown (g := gb225) (o := .cells #[.int .i64 a0_0, .slice (some ad256) t226.length co12] 30 (0, 0)) (by (with_reducible repeat (first | refine blk_drewN ?_ _ | refine blk_drew ?_ | refine blk_alloc ?_ _)); exact BK225.out) hg (Kd.R_ne HO_11.out BK225.out (by decide))); have n4_ := Aside0.mk (hb); have n5_ := Aside0.mk (ho); clear HO_2; clear HO_3; clear HO_226001; clear BK225; clear HB; clear HO_11; have HO_2 := n0_; have HO_3 := n1_; have HO_226001 := n2_; have BK225 := n3_; have HB := n4_; have HO263 := n5_; clear n0_ n1_ n2_ n3_ n4_ n5_; clear ho hb hg hat))
                                repeat (go_quiet (first | (go_at_call 15; (with_reducible refine (deadeyelaw17_told.calls k4 _ _ x2_6 (rd t226 x12_4) true _ ?side1 ?side2 A46.out).mono ?_); (case side1 => repeat (first | exact (Kd.V_reads' HO_2.out).2.2 | (with_reducible refine Kd.C_alloc ?_ _) | (with_reducible refine Kd.C_drewN ?_ _) | (with_reducible refine Kd.C_drew ?_))); (case side2 => exact (Kd.V_reads' HO_2.out).2.1); rintro e w' ⟨rfl, ⟨nd, rfl⟩⟩; (try first | exact ⟨rfl, _, World.drewN_drewN _ _ _⟩ | exact ⟨rfl, _, Eq.trans (World.drewN_drewN _ _ _) (congrArg (World.drewN _) (Nat.add_assoc _ _ _))⟩); have p258 : 0 ≤ (x12_4 : Int) := of_decide_eq_true (by first | (with_reducible assumption) | assumption); have q258 : x12_4 < (t226.length : Int) := of_decide_eq_true (by first | (with_reducible assumption) | assumption); obtain ⟨ad258, e258, hx258_0⟩ := Kd.at_int (Kd.V_reads' HO_226001.out).2.2 x12_4 p258 q258; obtain rfl : ad256 = ad258 := (by injection e258); replace p258 := eq_true p258; replace q258 := eq_true q258) | (go_at_call 19; (with_reducible refine (deadeyelaw17_in.calls k4 _ _ t229 (rd t226 x12_4) true _ ?side1 ?side2 A48.out).mono ?_); (case side1 => repeat (first | exact (Kd.V_reads' HO_3.out).2.2 | (with_reducible refine Kd.C_alloc ?_ _) | (with_reducible refine Kd.C_drewN ?_ _) | (with_reducible refine Kd.C_drew ?_))); (case side2 => exact (Kd.V_reads' HO_3.out).2.1); rintro e w' ⟨rfl, ⟨nd, rfl⟩⟩; (try first | exact ⟨rfl, _, World.drewN_drewN _ _ _⟩ | exact ⟨rfl, _, Eq.trans (World.drewN_drewN _ _ _) (congrArg (World.drewN _) (Nat.add_assoc _ _ _))⟩); have p260 : 0 ≤ (x12_4 : Int) := of_decide_eq_true (by first | (with_reducible assumption) | assumption); have q260 : x12_4 < (t226.length : Int) := of_decide_eq_true (by first | (with_reducible assumption) | assumption); obtain ⟨ad260, e260, hx260_0⟩ := Kd.at_int (Kd.V_reads' HO_226001.out).2.2 x12_4 p260 q260; obtain rfl : ad256 = ad260 := (by injection e260); replace p260 := eq_true p260; replace q260 := eq_true q260) | ((with_reducible refine gate_builtin (b := .append) (xs := #[.tmp 86, .tmp 92]) rfl ?_); (try (refine gate_guard (by rfl) ?_; dsimp only)); at_builtin; refine Kd.R_append (Kd.int .i64) (w0 := w) w.heap.size rfl (.tmp 86) (.tmp 92) 28 3 (.int .i64 0) 8 rfl Try.underlying28 info3 rfl (by decide) (by omega) u11 x11_4 (rd t226 x12_4) [.int .i64 (rd t226 x12_4)] (fun k_ => (w.heap.size ≤ k_)) (fun _ => False) rfl rfl ?aP (fun _ hk => hk.elim) ?aF ?aO ?aB ?aS ?aL ?_; (case aP => exact rfl); (case aB => exact (by repeat (first | (with_reducible first | exact HB.out | apply below_alloc | apply pw_below_drewN | apply below_drew1 | refine below_set ?_ GE225.out) | exact HB.out))); (case aF => exact (fun k_ hk => (Nat.le_trans (below_size (by repeat (first | (with_reducible first | exact HB.out | apply below_alloc | apply pw_below_drewN | apply below_drew1 | refine below_set ?_ GE225.out) | exact HB.out))) hk))); (case aO => exact (by (with_reducible repeat (first | apply Kd.R_alloc | apply Kd.R_drewN | apply Kd.R_drew)); exact HO_11.out)); (case aS => exact (below_size (by repeat (first | (with_reducible first | exact HB.out | apply below_alloc | apply pw_below_drewN | apply below_drew1 | refine below_set ?_ GE225.out) | exact HB.out)))); (case aL => have := LMc50.out; omega); intro v262 w53 ho hb hg hat; rw [← Ny261.out] at ho; have n0_ := Aside0.mk (Kd.V_afterv (ok := (fun k_ => ((P0_1_ k_ ∨ P2_ k_ ∨ P3_ k_) ∨ w.heap.size ≤ k_) ∧ k_ ≠ gb225)) (by (with_reducible repeat (first | apply Kd.V_alloc | apply Kd.V_drewN | apply Kd.V_drew)); exact Kd.V_mono HO_2.out (fun _ hk => ⟨⟨hk.1, hk.2.2⟩, hk.2.1⟩)) hg hat); have n1_ := Aside0.mk (Kd.V_afterv (ok := (fun k_ => ((P0_1_ k_ ∨ P2_ k_ ∨ P3_ k_) ∨ w.heap.size ≤ k_) ∧ k_ ≠ gb225)) (by (with_reducible repeat (first | apply Kd.V_alloc | apply Kd.V_drewN | apply Kd.V_drew)); exact Kd.V_mono HO_3.out (fun _ hk => ⟨⟨hk.1, hk.2.2⟩, hk.2.1⟩)) hg hat); have n2_ := Aside0.mk (Kd.V_afterv (ok := (fun k_ => ((P0_1_ k_ ∨ P2_ k_ ∨ P3_ k_) ∨ w.heap.size ≤ k_) ∧ k_ ≠ gb225)) (by (with_reducible repeat (first | apply Kd.V_alloc | apply Kd.V_drewN | apply Kd.V_drew)); exact Kd.V_mono HO_226001.out (fun _ hk => ⟨⟨hk.1, hk.2.2⟩, hk.2.1⟩)) hg hat); have n3_ := Aside0.mk (blk_grown (g := gb225) (o := .cells #[.int .i64 a0_0, .slice (some ad256) t226.length co12] 30 (0, 0)) (by (with_reducible repeat (first | refine blk_drewN ?_ _ | refine blk_drew ?_ | refine blk_alloc ?_ _)); exact BK225.out) hg (Kd.R_ne HO_11.out BK225.out (by decide))); have n4_ := Aside0.mk (hb); have n5_ := Aside0.mk (ho); clear HO_2; clear HO_3; clear HO_226001; clear BK225; clear HB; clear HO_11; have HO_2 := n0_; have HO_3 := n1_; have HO_226001 := n2_; have BK225 := n3_; have HB := n4_; have HO263 := n5_; clear n0_ n1_ n2_ n3_ n4_ n5_; clear ho hb hg hat)); try go_wp2_with (first | (go_at_call 15; (with_reducible refine (deadeyelaw17_told.calls k4 _ _ x2_6 (rd t226 x12_4) true _ ?side1 ?side2 A46.out).mono ?_); (case side1 => repeat (first | exact (Kd.V_reads' HO_2.out).2.2 | (with_reducible refine Kd.C_alloc ?_ _) | (with_reducible refine Kd.C_drewN ?_ _) | (with_reducible refine Kd.C_drew ?_))); (case side2 => exact (Kd.V_reads' HO_2.out).2.1); rintro e w' ⟨rfl, ⟨nd, rfl⟩⟩; (try first | exact ⟨rfl, _, World.drewN_drewN _ _ _⟩ | exact ⟨rfl, _, Eq.trans (World.drewN_drewN _ _ _) (congrArg (World.drewN _) (Nat.add_assoc _ _ _))⟩); have p258 : 0 ≤ (x12_4 : Int) := of_decide_eq_true (by first | (with_reducible assumption) | assumption); have q258 : x12_4 < (t226.length : Int) := of_decide_eq_true (by first | (with_reducible assumption) | assumption); obtain ⟨ad258, e258, hx258_0⟩ := Kd.at_int (Kd.V_reads' HO_226001.out).2.2 x12_4 p258 q258; obtain rfl : ad256 = ad258 := (by injection e258); replace p258 := eq_true p258; replace q258 := eq_true q258) | (go_at_call 19; (with_reducible refine (deadeyelaw17_in.calls k4 _ _ t229 (rd t226 x12_4) true _ ?side1 ?side2 A48.out).mono ?_); (case side1 => repeat (first | exact (Kd.V_reads' HO_3.out).2.2 | (with_reducible refine Kd.C_alloc ?_ _) | (with_reducible refine Kd.C_drewN ?_ _) | (with_reducible refine Kd.C_drew ?_))); (case side2 => exact (Kd.V_reads' HO_3.out).2.1); rintro e w' ⟨rfl, ⟨nd, rfl⟩⟩; (try first | exact ⟨rfl, _, World.drewN_drewN _ _ _⟩ | exact ⟨rfl, _, Eq.trans (World.drewN_drewN _ _ _) (congrArg (World.drewN _) (Nat.add_assoc _ _ _))⟩); have p260 : 0 ≤ (x12_4 : Int) := of_decide_eq_true (by first | (with_reducible assumption) | assumption); have q260 : x12_4 < (t226.length : Int) := of_decide_eq_true (by first | (with_reducible assumption) | assumption); obtain ⟨ad260, e260, hx260_0⟩ := Kd.at_int (Kd.V_reads' HO_226001.out).2.2 x12_4 p260 q260; obtain rfl : ad256 = ad260 := (by injection e260); replace p260 := eq_true p260; replace q260 := eq_true q260) | ((with_reducible refine gate_builtin (b := .append) (xs := #[.tmp 86, .tmp 92]) rfl ?_); (try (refine gate_guard (by rfl) ?_; dsimp only)); at_builtin; refine Kd.R_append (Kd.int .i64) (w0 := w) w.heap.size rfl (.tmp 86) (.tmp 92) 28 3 (.int .i64 0) 8 rfl Try.underlying28 info3 rfl (by decide) (by omega) u11 x11_4 (rd t226 x12_4) [.int .i64 (rd t226 x12_4)] (fun k_ => (w.heap.size ≤ k_)) (fun _ => False) rfl rfl ?aP (fun _ hk => hk.elim) ?aF ?aO ?aB ?aS ?aL ?_; (case aP => exact rfl); (case aB => exact (by repeat (first | (with_reducible first | exact HB.out | apply below_alloc | apply pw_below_drewN | apply below_drew1 | refine below_set ?_ GE225.out) | exact HB.out))); (case aF => exact (fun k_ hk => (Nat.le_trans (below_size (by repeat (first | (with_reducible first | exact HB.out | apply below_alloc | apply pw_below_drewN | apply below_drew1 | refine below_set ?_ GE225.out) | exact HB.out))) hk))); (case aO => exact (by (with_reducible repeat (first | apply Kd.R_alloc | apply Kd.R_drewN | apply Kd.R_drew)); exact HO_11.out)); (case aS => exact (below_size (by repeat (first | (with_reducible first | exact HB.out | apply below_alloc | apply pw_below_drewN | apply below_drew1 | refine below_set ?_ GE225.out) | exact HB.out)))); (case aL => have := LMc50.out; omega); intro v262 w53 ho hb hg hat; rw [← Ny261.out] at ho; have n0_ := Aside0.mk (Kd.V_afterv (ok := (fun k_ => ((P0_1_ k_ ∨ P2_ k_ ∨ P3_ k_) ∨ w.heap.size ≤ k_) ∧ k_ ≠ gb225)) (by (with_reducible repeat (first | apply Kd.V_alloc | apply Kd.V_drewN | apply Kd.V_drew)); exact Kd.V_mono HO_2.out (fun _ hk => ⟨⟨hk.1, hk.2.2⟩, hk.2.1⟩)) hg hat); have n1_ := Aside0.mk (Kd.V_afterv (ok := (fun k_ => ((P0_1_ k_ ∨ P2_ k_ ∨ P3_ k_) ∨ w.heap.size ≤ k_) ∧ k_ ≠ gb225)) (by (with_reducible repeat (first | apply Kd.V_alloc | apply Kd.V_drewN | apply Kd.V_drew)); exact Kd.V_mono HO_3.out (fun _ hk => ⟨⟨hk.1, hk.2.2⟩, hk.2.1⟩)) hg hat); have n2_ := Aside0.mk (Kd.V_afterv (ok := (fun k_ => ((P0_1_ k_ ∨ P2_ k_ ∨ P3_ k_) ∨ w.heap.size ≤ k_) ∧ k_ ≠ gb225)) (by (with_reducible repeat (first | apply Kd.V_alloc | apply Kd.V_drewN | apply Kd.V_drew)); exact Kd.V_mono HO_226001.out (fun _ hk => ⟨⟨hk.1, hk.2.2⟩, hk.2.1⟩)) hg hat); have n3_ := Aside0.mk (blk_grown (g := gb225) (o := .cells #[.int .i64 a0_0, .slice (some ad256) t226.length co12] 30 (0, 0)) (by (with_reducible repeat (first | refine blk_drewN ?_ _ | refine blk_drew ?_ | refine blk_alloc ?_ _)); exact BK225.out) hg (Kd.R_ne HO_11.out BK225.out (by decide))); have n4_ := Aside0.mk (hb); have n5_ := Aside0.mk (ho); clear HO_2; clear HO_3; clear HO_226001; clear BK225; clear HB; clear HO_11; have HO_2 := n0_; have HO_3 := n1_; have HO_226001 := n2_; have BK225 := n3_; have HB := n4_; have HO263 := n5_; clear n0_ n1_ n2_ n3_ n4_ n5_; clear ho hb hg hat)))
                                go_roundg k4
                                case measure => have := HJ6.out; have := HK2.out; have := HK3.out; have := HK4.out; omega
                                case rel => exact ⟨(y261), (wrap64 (x12_4 + 1)), (by first | rfl | (simp; done) | (simp [*]; done)), H', ⟨by have := HJ6.out; have := HK2.out; have := HK3.out; have := HK4.out; omega⟩, ⟨by (with_reducible repeat (first | apply Kd.V_alloc | apply Kd.V_drewN | apply Kd.V_drew)); exact Kd.V_mono HO_2.out (fun _ hk => ⟨hk.1.1, ⟨hk.2, hk.1.2⟩⟩)⟩, ⟨by (with_reducible repeat (first | apply Kd.V_alloc | apply Kd.V_drewN | apply Kd.V_drew)); exact Kd.V_mono HO_3.out (fun _ hk => ⟨hk.1.1, ⟨hk.2, hk.1.2⟩⟩)⟩, ⟨by (with_reducible repeat (first | apply Kd.R_alloc | apply Kd.R_drewN | apply Kd.R_drew)); exact HO263.out⟩, ⟨by (with_reducible repeat (first | apply Kd.V_alloc | apply Kd.V_drewN | apply Kd.V_drew)); exact Kd.V_mono HO_226001.out (fun _ hk => ⟨hk.1.1, ⟨hk.2, hk.1.2⟩⟩)⟩, ⟨by (with_reducible repeat (first | refine blk_drewN ?_ _ | refine blk_drew ?_ | refine blk_alloc ?_ _)); exact BK225.out⟩, ⟨by repeat (first | (with_reducible first | exact HB.out | apply below_alloc | apply pw_below_drewN | apply below_drew1 | refine below_set ?_ GE225.out) | exact HB.out)⟩⟩
                              · rw [if_neg c50] at H
                                exact absurd H (by simp)
                            · replace c49 := Bool.eq_false_iff.mpr c49
                              subst c49
                              have H1 : (deadeyelaw17_PlanMembers.l2 k4 a1 x2_6 t229 x11_4 (wrap64 (x12_4 + 1)) a0_0 t226) = some r := by rw [if_neg (show ¬ (false = true) by decide)] at H; exact H
                              clear H
                              have H := H1
                              clear H1
                              have H' := Aside0.mk H
                              clear H
                              have hcz54_0 : wr.cell? ⟨gb225, 0, none⟩ = some (.int .i64 a0_0) := (blk_cell BK225.out 0).trans rfl
                              have hcz54_1 : wr.cell? ⟨gb225, 1, none⟩ = some (.slice Ao12 t226.length co12) := (blk_cell BK225.out 1).trans rfl
                              have hfz54_0 := blk_frozen BK225.out 0
                              have hfz54_1 := blk_frozen BK225.out 1
                              have p256 : 0 ≤ (x12_4 : Int) := of_decide_eq_true (by first | (with_reducible assumption) | assumption)
                              have q256 : x12_4 < (t226.length : Int) := of_decide_eq_true (by first | (with_reducible assumption) | assumption)
                              obtain ⟨ad256, e256, hx256_0⟩ := Kd.at_int (Kd.V_reads' HO_226001.out).2.2 x12_4 p256 q256
                              cases e256
                              replace p256 := eq_true p256
                              replace q256 := eq_true q256
                              obtain ⟨Ao55, co55, eo55⟩ := Kd.V_slice HO_2.out
                              subst eo55
                              go_wp2_with (first | (go_at_call 15; (with_reducible refine (deadeyelaw17_told.calls k4 _ _ x2_6 (rd t226 x12_4) true _ ?side1 ?side2 A46.out).mono ?_); (case side1 => repeat (first | exact (Kd.V_reads' HO_2.out).2.2 | (with_reducible refine Kd.C_alloc ?_ _) | (with_reducible refine Kd.C_drewN ?_ _) | (with_reducible refine Kd.C_drew ?_))); (case side2 => exact (Kd.V_reads' HO_2.out).2.1); rintro e w' ⟨rfl, ⟨nd, rfl⟩⟩; (try first | exact ⟨rfl, _, World.drewN_drewN _ _ _⟩ | exact ⟨rfl, _, Eq.trans (World.drewN_drewN _ _ _) (congrArg (World.drewN _) (Nat.add_assoc _ _ _))⟩); have p258 : 0 ≤ (x12_4 : Int) := of_decide_eq_true (by first | (with_reducible assumption) | assumption); have q258 : x12_4 < (t226.length : Int) := of_decide_eq_true (by first | (with_reducible assumption) | assumption); obtain ⟨ad258, e258, hx258_0⟩ := Kd.at_int (Kd.V_reads' HO_226001.out).2.2 x12_4 p258 q258; obtain rfl : ad256 = ad258 := (by injection e258); replace p258 := eq_true p258; replace q258 := eq_true q258) | (go_at_call 19; (with_reducible refine (deadeyelaw17_in.calls k4 _ _ t229 (rd t226 x12_4) false _ ?side1 ?side2 A48.out).mono ?_); (case side1 => repeat (first | exact (Kd.V_reads' HO_3.out).2.2 | (with_reducible refine Kd.C_alloc ?_ _) | (with_reducible refine Kd.C_drewN ?_ _) | (with_reducible refine Kd.C_drew ?_))); (case side2 => exact (Kd.V_reads' HO_3.out).2.1); rintro e w' ⟨rfl, ⟨nd, rfl⟩⟩; (try first | exact ⟨rfl, _, World.drewN_drewN _ _ _⟩ | exact ⟨rfl, _, Eq.trans (World.drewN_drewN _ _ _) (congrArg (World.drewN _) (Nat.add_assoc _ _ _))⟩)))
                              repeat (go_quiet (first | (go_at_call 15; (with_reducible refine (deadeyelaw17_told.calls k4 _ _ x2_6 (rd t226 x12_4) true _ ?side1 ?side2 A46.out).mono ?_); (case side1 => repeat (first | exact (Kd.V_reads' HO_2.out).2.2 | (with_reducible refine Kd.C_alloc ?_ _) | (with_reducible refine Kd.C_drewN ?_ _) | (with_reducible refine Kd.C_drew ?_))); (case side2 => exact (Kd.V_reads' HO_2.out).2.1); rintro e w' ⟨rfl, ⟨nd, rfl⟩⟩; (try first | exact ⟨rfl, _, World.drewN_drewN _ _ _⟩ | exact ⟨rfl, _, Eq.trans (World.drewN_drewN _ _ _) (congrArg (World.drewN _) (Nat.add_assoc _ _ _))⟩); have p258 : 0 ≤ (x12_4 : Int) := of_decide_eq_true (by first | (with_reducible assumption) | assumption); have q258 : x12_4 < (t226.length : Int) := of_decide_eq_true (by first | (with_reducible assumption) | assumption); obtain ⟨ad258, e258, hx258_0⟩ := Kd.at_int (Kd.V_reads' HO_226001.out).2.2 x12_4 p258 q258; obtain rfl : ad256 = ad258 := (by injection e258); replace p258 := eq_true p258; replace q258 := eq_true q258) | (go_at_call 19; (with_reducible refine (deadeyelaw17_in.calls k4 _ _ t229 (rd t226 x12_4) false _ ?side1 ?side2 A48.out).mono ?_); (case side1 => repeat (first | exact (Kd.V_reads' HO_3.out).2.2 | (with_reducible refine Kd.C_alloc ?_ _) | (with_reducible refine Kd.C_drewN ?_ _) | (with_reducible refine Kd.C_drew ?_))); (case side2 => exact (Kd.V_reads' HO_3.out).2.1); rintro e w' ⟨rfl, ⟨nd, rfl⟩⟩; (try first | exact ⟨rfl, _, World.drewN_drewN _ _ _⟩ | exact ⟨rfl, _, Eq.trans (World.drewN_drewN _ _ _) (congrArg (World.drewN _) (Nat.add_assoc _ _ _))⟩))); try go_wp2_with (first | (go_at_call 15; (with_reducible refine (deadeyelaw17_told.calls k4 _ _ x2_6 (rd t226 x12_4) true _ ?side1 ?side2 A46.out).mono ?_); (case side1 => repeat (first | exact (Kd.V_reads' HO_2.out).2.2 | (with_reducible refine Kd.C_alloc ?_ _) | (with_reducible refine Kd.C_drewN ?_ _) | (with_reducible refine Kd.C_drew ?_))); (case side2 => exact (Kd.V_reads' HO_2.out).2.1); rintro e w' ⟨rfl, ⟨nd, rfl⟩⟩; (try first | exact ⟨rfl, _, World.drewN_drewN _ _ _⟩ | exact ⟨rfl, _, Eq.trans (World.drewN_drewN _ _ _) (congrArg (World.drewN _) (Nat.add_assoc _ _ _))⟩); have p258 : 0 ≤ (x12_4 : Int) := of_decide_eq_true (by first | (with_reducible assumption) | assumption); have q258 : x12_4 < (t226.length : Int) := of_decide_eq_true (by first | (with_reducible assumption) | assumption); obtain ⟨ad258, e258, hx258_0⟩ := Kd.at_int (Kd.V_reads' HO_226001.out).2.2 x12_4 p258 q258; obtain rfl : ad256 = ad258 := (by injection e258); replace p258 := eq_true p258; replace q258 := eq_true q258) | (go_at_call 19; (with_reducible refine (deadeyelaw17_in.calls k4 _ _ t229 (rd t226 x12_4) false _ ?side1 ?side2 A48.out).mono ?_); (case side1 => repeat (first | exact (Kd.V_reads' HO_3.out).2.2 | (with_reducible refine Kd.C_alloc ?_ _) | (with_reducible refine Kd.C_drewN ?_ _) | (with_reducible refine Kd.C_drew ?_))); (case side2 => exact (Kd.V_reads' HO_3.out).2.1); rintro e w' ⟨rfl, ⟨nd, rfl⟩⟩; (try first | exact ⟨rfl, _, World.drewN_drewN _ _ _⟩ | exact ⟨rfl, _, Eq.trans (World.drewN_drewN _ _ _) (congrArg (World.drewN _) (Nat.add_assoc _ _ _))⟩))))
                              go_roundg k4
                              case measure => have := HJ6.out; have := HK2.out; have := HK3.out; have := HK4.out; omega
                              case rel => exact ⟨(x11_4), (wrap64 (x12_4 + 1)), (by first | rfl | (simp; done) | (simp [*]; done)), H', ⟨by have := HJ6.out; have := HK2.out; have := HK3.out; have := HK4.out; omega⟩, ⟨by (with_reducible repeat (first | apply Kd.V_alloc | apply Kd.V_drewN | apply Kd.V_drew)); exact HO_2.out⟩, ⟨by (with_reducible repeat (first | apply Kd.V_alloc | apply Kd.V_drewN | apply Kd.V_drew)); exact HO_3.out⟩, ⟨by (with_reducible repeat (first | apply Kd.R_alloc | apply Kd.R_drewN | apply Kd.R_drew)); exact HO_11.out⟩, ⟨by (with_reducible repeat (first | apply Kd.V_alloc | apply Kd.V_drewN | apply Kd.V_drew)); exact HO_226001.out⟩, ⟨by (with_reducible repeat (first | refine blk_drewN ?_ _ | refine blk_drew ?_ | refine blk_alloc ?_ _)); exact BK225.out⟩, ⟨by repeat (first | (with_reducible first | exact HB.out | apply below_alloc | apply pw_below_drewN | apply below_drew1 | refine below_set ?_ GE225.out) | exact HB.out)⟩⟩
                          · replace c47 := Bool.eq_false_iff.mpr c47
                            subst c47
                            have H1 : (deadeyelaw17_PlanMembers.l2 k4 a1 x2_6 t229 x11_4 (wrap64 (x12_4 + 1)) a0_0 t226) = some r := by rw [if_neg (show ¬ (false = true) by decide)] at H; exact H
                            clear H
                            have H := H1
                            clear H1
                            have H' := Aside0.mk H
                            clear H
                            have hcz56_0 : wr.cell? ⟨gb225, 0, none⟩ = some (.int .i64 a0_0) := (blk_cell BK225.out 0).trans rfl
                            have hcz56_1 : wr.cell? ⟨gb225, 1, none⟩ = some (.slice Ao12 t226.length co12) := (blk_cell BK225.out 1).trans rfl
                            have hfz56_0 := blk_frozen BK225.out 0
                            have hfz56_1 := blk_frozen BK225.out 1
                            have p256 : 0 ≤ (x12_4 : Int) := of_decide_eq_true (by first | (with_reducible assumption) | assumption)
                            have q256 : x12_4 < (t226.length : Int) := of_decide_eq_true (by first | (with_reducible assumption) | assumption)
                            obtain ⟨ad256, e256, hx256_0⟩ := Kd.at_int (Kd.V_reads' HO_226001.out).2.2 x12_4 p256 q256
                            cases e256
                            replace p256 := eq_true p256
                            replace q256 := eq_true q256
                            obtain ⟨Ao57, co57, eo57⟩ := Kd.V_slice HO_2.out
                            subst eo57
                            go_wp2_with (first | (go_at_call 15; (with_reducible refine (deadeyelaw17_told.calls k4 _ _ x2_6 (rd t226 x12_4) false _ ?side1 ?side2 A46.out).mono ?_); (case side1 => repeat (first | exact (Kd.V_reads' HO_2.out).2.2 | (with_reducible refine Kd.C_alloc ?_ _) | (with_reducible refine Kd.C_drewN ?_ _) | (with_reducible refine Kd.C_drew ?_))); (case side2 => exact (Kd.V_reads' HO_2.out).2.1); rintro e w' ⟨rfl, ⟨nd, rfl⟩⟩; (try first | exact ⟨rfl, _, World.drewN_drewN _ _ _⟩ | exact ⟨rfl, _, Eq.trans (World.drewN_drewN _ _ _) (congrArg (World.drewN _) (Nat.add_assoc _ _ _))⟩)))
                            repeat (go_quiet (first | (go_at_call 15; (with_reducible refine (deadeyelaw17_told.calls k4 _ _ x2_6 (rd t226 x12_4) false _ ?side1 ?side2 A46.out).mono ?_); (case side1 => repeat (first | exact (Kd.V_reads' HO_2.out).2.2 | (with_reducible refine Kd.C_alloc ?_ _) | (with_reducible refine Kd.C_drewN ?_ _) | (with_reducible refine Kd.C_drew ?_))); (case side2 => exact (Kd.V_reads' HO_2.out).2.1); rintro e w' ⟨rfl, ⟨nd, rfl⟩⟩; (try first | exact ⟨rfl, _, World.drewN_drewN _ _ _⟩ | exact ⟨rfl, _, Eq.trans (World.drewN_drewN _ _ _) (congrArg (World.drewN _) (Nat.add_assoc _ _ _))⟩))); try go_wp2_with (first | (go_at_call 15; (with_reducible refine (deadeyelaw17_told.calls k4 _ _ x2_6 (rd t226 x12_4) false _ ?side1 ?side2 A46.out).mono ?_); (case side1 => repeat (first | exact (Kd.V_reads' HO_2.out).2.2 | (with_reducible refine Kd.C_alloc ?_ _) | (with_reducible refine Kd.C_drewN ?_ _) | (with_reducible refine Kd.C_drew ?_))); (case side2 => exact (Kd.V_reads' HO_2.out).2.1); rintro e w' ⟨rfl, ⟨nd, rfl⟩⟩; (try first | exact ⟨rfl, _, World.drewN_drewN _ _ _⟩ | exact ⟨rfl, _, Eq.trans (World.drewN_drewN _ _ _) (congrArg (World.drewN _) (Nat.add_assoc _ _ _))⟩))))
                            go_roundg k4
                            case measure => have := HJ6.out; have := HK2.out; have := HK3.out; have := HK4.out; omega
                            case rel => exact ⟨(x11_4), (wrap64 (x12_4 + 1)), (by first | rfl | (simp; done) | (simp [*]; done)), H', ⟨by have := HJ6.out; have := HK2.out; have := HK3.out; have := HK4.out; omega⟩, ⟨by (with_reducible repeat (first | apply Kd.V_alloc | apply Kd.V_drewN | apply Kd.V_drew)); exact HO_2.out⟩, ⟨by (with_reducible repeat (first | apply Kd.V_alloc | apply Kd.V_drewN | apply Kd.V_drew)); exact HO_3.out⟩, ⟨by (with_reducible repeat (first | apply Kd.R_alloc | apply Kd.R_drewN | apply Kd.R_drew)); exact HO_11.out⟩, ⟨by (with_reducible repeat (first | apply Kd.V_alloc | apply Kd.V_drewN | apply Kd.V_drew)); exact HO_226001.out⟩, ⟨by (with_reducible repeat (first | refine blk_drewN ?_ _ | refine blk_drew ?_ | refine blk_alloc ?_ _)); exact BK225.out⟩, ⟨by repeat (first | (with_reducible first | exact HB.out | apply below_alloc | apply pw_below_drewN | apply below_drew1 | refine below_set ?_ GE225.out) | exact HB.out)⟩⟩
                        · rw [if_neg c45] at H
                          exact absurd H (by simp)
                      · rw [if_neg c44] at H
                        have c44b0 : decide (x12_4 < (t226.length : Int)) = false := decide_eq_false c44
                        clear c44
                        have H' := Aside0.mk H
                        clear H
                        have hcz58_0 : wr.cell? ⟨gb225, 0, none⟩ = some (.int .i64 a0_0) := (blk_cell BK225.out 0).trans rfl
                        have hcz58_1 : wr.cell? ⟨gb225, 1, none⟩ = some (.slice Ao12 t226.length co12) := (blk_cell BK225.out 1).trans rfl
                        have hfz58_0 := blk_frozen BK225.out 0
                        have hfz58_1 := blk_frozen BK225.out 1
                        go_wp2
                        repeat (go_quiet (fail); try go_wp2)
                        go_loopg [11] k4 (fun kq v11 w' => ∃ (x11_5 : List Int), Aside0 (deadeyelaw17_PlanMembers.l3 kq a1 x2_6 t229 x11_5 a0_0 t226 = some r) ∧ Aside0 (kq ≤ k4) ∧ Aside0 (Kd.V k26 26 w' w.heap.size (fun k_ => ((P0_1_ k_ ∨ P2_ k_ ∨ P3_ k_) ∨ w.heap.size ≤ k_) ∧ some k_ ≠ (v11 : Value).ownBlock ∧ k_ ≠ gb225) u2 x2_6) ∧ Aside0 (Kd.V (Kd.int .i64) 3 w' w.heap.size (fun k_ => ((P0_1_ k_ ∨ P2_ k_ ∨ P3_ k_) ∨ w.heap.size ≤ k_) ∧ some k_ ≠ (v11 : Value).ownBlock ∧ k_ ≠ gb225) (.slice Ao29 t229.length co29) t229) ∧ Aside0 (Kd.R (Kd.int .i64) 3 w' w.heap.size (fun k_ => (w.heap.size ≤ k_)) v11 x11_5) ∧ Aside0 (Kd.V (Kd.int .i64) 3 w' w.heap.size (fun k_ => ((P0_1_ k_ ∨ P2_ k_ ∨ P3_ k_) ∨ w.heap.size ≤ k_) ∧ some k_ ≠ (v11 : Value).ownBlock ∧ k_ ≠ gb225) (.slice Ao12 t226.length co12) t226) ∧ Aside0 (w'.heap[gb225]? = some (.cells #[.int .i64 a0_0, (.slice Ao12 t226.length co12)] 30 (0, 0))) ∧ Aside0 (Below w.heap.size w w'))
                        case atStart => exact ⟨(x11_4), H', ⟨Nat.le_refl _⟩, ⟨by (with_reducible repeat (first | apply Kd.V_alloc | apply Kd.V_drewN | apply Kd.V_drew)); exact HO_2.out⟩, ⟨by (with_reducible repeat (first | apply Kd.V_alloc | apply Kd.V_drewN | apply Kd.V_drew)); exact HO_3.out⟩, ⟨by (with_reducible repeat (first | apply Kd.R_alloc | apply Kd.R_drewN | apply Kd.R_drew)); exact HO_11.out⟩, ⟨by (with_reducible repeat (first | apply Kd.V_alloc | apply Kd.V_drewN | apply Kd.V_drew)); exact HO_226001.out⟩, ⟨by (with_reducible repeat (first | refine blk_drewN ?_ _ | refine blk_drew ?_ | refine blk_alloc ?_ _)); exact BK225.out⟩, ⟨by repeat (first | (with_reducible first | exact HB.out | apply below_alloc | apply pw_below_drewN | apply below_drew1 | refine below_set ?_ GE225.out) | exact HB.out)⟩⟩
                        case round =>
                          clear H'
                          try clear c1
                          try clear q1
                          try clear c2
                          try clear p2
                          try clear q2
                          try clear hx2
                          try clear c3
                          try clear q3
                          try clear c4
                          try clear q4
                          try clear c5
                          try clear p6
                          try clear c15
                          try clear c15b0
                          try clear c15b1
                          try clear c16
                          try clear c16b0
                          try clear c16b1
                          try clear q17
                          try clear c18
                          try clear c18b0
                          try clear c19
                          try clear c19b0
                          try clear c19b1
                          try clear c20
                          try clear c20b0
                          try clear c20b1
                          try clear c22
                          try clear p24
                          try clear q24
                          try clear hx24
                          try clear p25
                          try clear q25
                          try clear hx25
                          try clear p26
                          try clear q26
                          try clear hx26
                          try clear q28
                          try clear c30
                          try clear c30b0
                          try clear c31
                          try clear c31b0
                          try clear c31b1
                          try clear c32
                          try clear c32b0
                          try clear c32b1
                          try clear c34
                          try clear q37
                          try clear q40
                          try clear c44
                          try clear c44b0
                          try clear c45
                          try clear c45b0
                          try clear c47
                          try clear c49
                          try clear c50
                          try clear hcz13_0
                          try clear hcz13_1
                          try clear hcz36_0
                          try clear hcz36_1
                          try clear hcz39_0
                          try clear hcz39_1
                          try clear hcz41_0
                          try clear hcz41_1
                          try clear hcz51_0
                          try clear hcz51_1
                          try clear hcz54_0
                          try clear hcz54_1
                          try clear hcz56_0
                          try clear hcz56_1
                          try clear hcz58_0
                          try clear hcz58_1
                          try clear hcz9_0
                          try clear hcz9_1
                          try clear hfz13_0
                          try clear hfz13_1
                          try clear hfz36_0
                          try clear hfz36_1
                          try clear hfz39_0
                          try clear hfz39_1
                          try clear hfz41_0
                          try clear hfz41_1
                          try clear hfz51_0
                          try clear hfz51_1
                          try clear hfz54_0
                          try clear hfz54_1
                          try clear hfz56_0
                          try clear hfz56_1
                          try clear hfz58_0
                          try clear hfz58_1
                          try clear hfz9_0
                          try clear hfz9_1
                          try clear hx242_0
                          try clear hx250_0
                          try clear hx256_0
                          try clear hx258_0
                          try clear hx260_0
                          try clear p2
                          try clear p24
                          try clear p242
                          try clear p25
                          try clear p250
                          try clear p256
                          try clear p258
                          try clear p260
                          try clear p6
                          try clear q1
                          try clear q17
                          try clear q2
                          try clear q24
                          try clear q242
                          try clear q25
                          try clear q250
                          try clear q256
                          try clear q258
                          try clear q260
                          try clear q28
                          try clear q3
                          try clear q37
                          try clear q4
                          try clear q40
                          obtain ⟨x11_5, HA, HK5, HO_2, HO_3, HO_11, HO_226001, BK225, HB⟩ := hrel
                          cases gk with
                          | zero => exact absurd HA.out (by simp [deadeyelaw17_PlanMembers.l3])
                          | succ k5 =>
                            have H := HA.out
                            clear HA
                            simp only [deadeyelaw17_PlanMembers.l3] at H
                            have H' := Aside0.mk H
                            clear H
                            go_wp2
                            repeat (go_quiet (fail); try go_wp2)
                            go_loopg [13, 14, 15] k5 (fun kq v13 v14 v15 w' => ∃ (x13_6 : Int) (x14_6 : Bool) (x15_6 : Int), v13 = .int .i64 x13_6 ∧ v14 = .bool x14_6 ∧ v15 = .int .i64 x15_6 ∧ Aside0 (deadeyelaw17_PlanMembers.l4 kq a1 x2_6 t229 x11_5 x13_6 x14_6 x15_6 a0_0 t226 = some r) ∧ Aside0 (kq ≤ k5) ∧ Aside0 (Kd.V k26 26 w' w.heap.size (fun k_ => ((P0_1_ k_ ∨ P2_ k_ ∨ P3_ k_) ∨ w.heap.size ≤ k_) ∧ some k_ ≠ (u11 : Value).ownBlock ∧ k_ ≠ gb225) u2 x2_6) ∧ Aside0 (Kd.V (Kd.int .i64) 3 w' w.heap.size (fun k_ => ((P0_1_ k_ ∨ P2_ k_ ∨ P3_ k_) ∨ w.heap.size ≤ k_) ∧ some k_ ≠ (u11 : Value).ownBlock ∧ k_ ≠ gb225) (.slice Ao29 t229.length co29) t229) ∧ Aside0 (Kd.R (Kd.int .i64) 3 w' w.heap.size (fun k_ => (w.heap.size ≤ k_)) u11 x11_5) ∧ Aside0 (Kd.V (Kd.int .i64) 3 w' w.heap.size (fun k_ => ((P0_1_ k_ ∨ P2_ k_ ∨ P3_ k_) ∨ w.heap.size ≤ k_) ∧ some k_ ≠ (u11 : Value).ownBlock ∧ k_ ≠ gb225) (.slice Ao12 t226.length co12) t226) ∧ Aside0 (w'.heap[gb225]? = some (.cells #[.int .i64 a0_0, (.slice Ao12 t226.length co12)] 30 (0, 0))) ∧ Aside0 (Below w.heap.size w w'))
                            case atStart => exact ⟨(0), (false), (0), (by first | rfl | (simp; done) | (simp [*]; done)), (by first | rfl | (simp; done) | (simp [*]; done)), (by first | rfl | (simp; done) | (simp [*]; done)), H', ⟨Nat.le_refl _⟩, ⟨by (with_reducible repeat (first | apply Kd.V_alloc | apply Kd.V_drewN | apply Kd.V_drew)); exact HO_2.out⟩, ⟨by (with_reducible repeat (first | apply Kd.V_alloc | apply Kd.V_drewN | apply Kd.V_drew)); exact HO_3.out⟩, ⟨by (with_reducible repeat (first | apply Kd.R_alloc | apply Kd.R_drewN | apply Kd.R_drew)); exact HO_11.out⟩, ⟨by (with_reducible repeat (first | apply Kd.V_alloc | apply Kd.V_drewN | apply Kd.V_drew)); exact HO_226001.out⟩, ⟨by (with_reducible repeat (first | refine blk_drewN ?_ _ | refine blk_drew ?_ | refine blk_alloc ?_ _)); exact BK225.out⟩, ⟨by repeat (first | (with_reducible first | exact HB.out | apply below_alloc | apply pw_below_drewN | apply below_drew1 | refine below_set ?_ GE225.out) | exact HB.out)⟩⟩
                            case round =>
                              clear H'
                              try clear c1
                              try clear q1
                              try clear c2
                              try clear p2
                              try clear q2
                              try clear hx2
                              try clear c3
                              try clear q3
                              try clear c4
                              try clear q4
                              try clear c5
                              try clear p6
                              try clear c15
                              try clear c15b0
                              try clear c15b1
                              try clear c16
                              try clear c16b0
                              try clear c16b1
                              try clear q17
                              try clear c18
                              try clear c18b0
                              try clear c19
                              try clear c19b0
                              try clear c19b1
                              try clear c20
                              try clear c20b0
                              try clear c20b1
                              try clear c22
                              try clear p24
                              try clear q24
                              try clear hx24
                              try clear p25
                              try clear q25
                              try clear hx25
                              try clear p26
                              try clear q26
                              try clear hx26
                              try clear q28
                              try clear c30
                              try clear c30b0
                              try clear c31
                              try clear c31b0
                              try clear c31b1
                              try clear c32
                              try clear c32b0
                              try clear c32b1
                              try clear c34
                              try clear q37
                              try clear q40
                              try clear c44
                              try clear c44b0
                              try clear c45
                              try clear c45b0
                              try clear c47
                              try clear c49
                              try clear c50
                              try clear hcz13_0
                              try clear hcz13_1
                              try clear hcz36_0
                              try clear hcz36_1
                              try clear hcz39_0
                              try clear hcz39_1
                              try clear hcz41_0
                              try clear hcz41_1
                              try clear hcz51_0
                              try clear hcz51_1
                              try clear hcz54_0
                              try clear hcz54_1
                              try clear hcz56_0
                              try clear hcz56_1
                              try clear hcz58_0
                              try clear hcz58_1
                              try clear hcz9_0
                              try clear hcz9_1
                              try clear hfz13_0
                              try clear hfz13_1
                              try clear hfz36_0
                              try clear hfz36_1
                              try clear hfz39_0
                              try clear hfz39_1
                              try clear hfz41_0
                              try clear hfz41_1
                              try clear hfz51_0
                              try clear hfz51_1
                              try clear hfz54_0
                              try clear hfz54_1
                              try clear hfz56_0
                              try clear hfz56_1
                              try clear hfz58_0
                              try clear hfz58_1
                              try clear hfz9_0
                              try clear hfz9_1
                              try clear hx242_0
                              try clear hx250_0
                              try clear hx256_0
                              try clear hx258_0
                              try clear hx260_0
                              try clear p2
                              try clear p24
                              try clear p242
                              try clear p25
                              try clear p250
                              try clear p256
                              try clear p258
                              try clear p26
                              try clear p260
                              try clear p6
                              try clear q1
                              try clear q17
                              try clear q2
                              try clear q24
                              try clear q242
                              try clear q25
                              try clear q250
                              try clear q256
                              try clear q258
                              try clear q26
                              try clear q260
                              try clear q28
                              try clear q3
                              try clear q37
                              try clear q4
                              try clear q40
                              obtain ⟨x13_6, x14_6, x15_6, rfl, rfl, rfl, HA, HK6, HO_2, HO_3, HO_11, HO_226001, BK225, HB⟩ := hrel
                              cases gk with
                              | zero => exact absurd HA.out (by simp [deadeyelaw17_PlanMembers.l4])
                              | succ k6 =>
                                have H := HA.out
                                clear HA
                                simp only [deadeyelaw17_PlanMembers.l4] at H
                                by_cases c59 : x15_6 < (t229.length : Int)
                                · rw [if_pos c59] at H
                                  have c59b0 : decide (x15_6 < (t229.length : Int)) = true := decide_eq_true c59
                                  clear c59
                                  by_cases c60 : 0 ≤ x15_6
                                  · rw [if_pos c60] at H
                                    have c60b0 : decide (0 ≤ x15_6) = true := decide_eq_true c60
                                    clear c60
                                    replace H := Option.bind_eq_some_iff.mp H
                                    obtain ⟨t265, A610, H⟩ := H
                                    replace H : (if t265 = true then (deadeyelaw17_PlanMembers.l4 k6 a1 x2_6 t229 x11_5 x13_6 x14_6 (wrap64 (x15_6 + 1)) a0_0 t226) else (if x14_6 = true then (if (rd t229 x15_6) < x13_6 then (deadeyelaw17_PlanMembers.l4 k6 a1 x2_6 t229 x11_5 (rd t229 x15_6) true (wrap64 (x15_6 + 1)) a0_0 t226) else (deadeyelaw17_PlanMembers.l4 k6 a1 x2_6 t229 x11_5 x13_6 x14_6 (wrap64 (x15_6 + 1)) a0_0 t226)) else (deadeyelaw17_PlanMembers.l4 k6 a1 x2_6 t229 x11_5 (rd t229 x15_6) true (wrap64 (x15_6 + 1)) a0_0 t226))) = some r := H
                                    have A61 := Aside0.mk A610
                                    clear A610
                                    by_cases c62 : t265 = true
                                    · subst c62
                                      have H1 : (deadeyelaw17_PlanMembers.l4 k6 a1 x2_6 t229 x11_5 x13_6 x14_6 (wrap64 (x15_6 + 1)) a0_0 t226) = some r := by rw [if_pos rfl] at H; exact H
                                      clear H
                                      have H := H1
                                      clear H1
                                      have H' := Aside0.mk H
                                      clear H
                                      have p264 : 0 ≤ (x15_6 : Int) := of_decide_eq_true (by first | (with_reducible assumption) | assumption)
                                      have q264 : x15_6 < (t229.length : Int) := of_decide_eq_true (by first | (with_reducible assumption) | assumption)
                                      obtain ⟨ad264, e264, hx264_0⟩ := Kd.at_int (Kd.V_reads' HO_3.out).2.2 x15_6 p264 q264
                                      cases e264
                                      replace p264 := eq_true p264
                                      replace q264 := eq_true q264
                                      obtain ⟨Ao63, co63, eo63⟩ := Kd.R_slice HO_11.out
                                      subst eo63
                                      go_wp2_with (first | (go_at_call 19; (with_reducible refine (deadeyelaw17_in.calls k6 _ _ x11_5 (rd t229 x15_6) true _ ?side1 ?side2 A61.out).mono ?_); (case side1 => repeat (first | exact (Kd.R_reads' HO_11.out).2.2 | (with_reducible refine Kd.C_alloc ?_ _) | (with_reducible refine Kd.C_drewN ?_ _) | (with_reducible refine Kd.C_drew ?_))); (case side2 => exact (Kd.R_reads' HO_11.out).2.1); rintro e w' ⟨rfl, ⟨nd, rfl⟩⟩; (try first | exact ⟨rfl, _, World.drewN_drewN _ _ _⟩ | exact ⟨rfl, _, Eq.trans (World.drewN_drewN _ _ _) (congrArg (World.drewN _) (Nat.add_assoc _ _ _))⟩)))
                                      repeat (go_quiet (first | (go_at_call 19; (with_reducible refine (deadeyelaw17_in.calls k6 _ _ x11_5 (rd t229 x15_6) true _ ?side1 ?side2 A61.out).mono ?_); (case side1 => repeat (first | exact (Kd.R_reads' HO_11.out).2.2 | (with_reducible refine Kd.C_alloc ?_ _) | (with_reducible refine Kd.C_drewN ?_ _) | (with_reducible refine Kd.C_drew ?_))); (case side2 => exact (Kd.R_reads' HO_11.out).2.1); rintro e w' ⟨rfl, ⟨nd, rfl⟩⟩; (try first | exact ⟨rfl, _, World.drewN_drewN _ _ _⟩ | exact ⟨rfl, _, Eq.trans (World.drewN_drewN _ _ _) (congrArg (World.drewN _) (Nat.add_assoc _ _ _))⟩))); try go_wp2_with (first | (go_at_call 19; (with_reducible refine (deadeyelaw17_in.calls k6 _ _ x11_5 (rd t229 x15_6) true _ ?side1 ?side2 A61.out).mono ?_); (case side1 => repeat (first | exact (Kd.R_reads' HO_11.out).2.2 | (with_reducible refine Kd.C_alloc ?_ _) | (with_reducible refine Kd.C_drewN ?_ _) | (with_reducible refine Kd.C_drew ?_))); (case side2 => exact (Kd.R_reads' HO_11.out).2.1); rintro e w' ⟨rfl, ⟨nd, rfl⟩⟩; (try first | exact ⟨rfl, _, World.drewN_drewN _ _ _⟩ | exact ⟨rfl, _, Eq.trans (World.drewN_drewN _ _ _) (congrArg (World.drewN _) (Nat.add_assoc _ _ _))⟩))))
                                      go_roundg k6
                                      case measure => have := HJ6.out; have := HK2.out; have := HK3.out; have := HK4.out; have := HK5.out; have := HK6.out; omega
                                      case rel => exact ⟨(x13_6), (x14_6), (wrap64 (x15_6 + 1)), (by first | rfl | (simp; done) | (simp [*]; done)), (by first | rfl | (simp; done) | (simp [*]; done)), (by first | rfl | (simp; done) | (simp [*]; done)), H', ⟨by have := HJ6.out; have := HK2.out; have := HK3.out; have := HK4.out; have := HK5.out; have := HK6.out; omega⟩, ⟨by (with_reducible repeat (first | apply Kd.V_alloc | apply Kd.V_drewN | apply Kd.V_drew)); exact HO_2.out⟩, ⟨by (with_reducible repeat (first | apply Kd.V_alloc | apply Kd.V_drewN | apply Kd.V_drew)); exact HO_3.out⟩, ⟨by (with_reducible repeat (first | apply Kd.R_alloc | apply Kd.R_drewN | apply Kd.R_drew)); exact HO_11.out⟩, ⟨by (with_reducible repeat (first | apply Kd.V_alloc | apply Kd.V_drewN | apply Kd.V_drew)); exact HO_226001.out⟩, ⟨by (with_reducible repeat (first | refine blk_drewN ?_ _ | refine blk_drew ?_ | refine blk_alloc ?_ _)); exact BK225.out⟩, ⟨by repeat (first | (with_reducible first | exact HB.out | apply below_alloc | apply pw_below_drewN | apply below_drew1 | refine below_set ?_ GE225.out) | exact HB.out)⟩⟩
                                    · replace c62 := Bool.eq_false_iff.mpr c62
                                      subst c62
                                      have H1 : (if x14_6 = true then (if (rd t229 x15_6) < x13_6 then (deadeyelaw17_PlanMembers.l4 k6 a1 x2_6 t229 x11_5 (rd t229 x15_6) true (wrap64 (x15_6 + 1)) a0_0 t226) else (deadeyelaw17_PlanMembers.l4 k6 a1 x2_6 t229 x11_5 x13_6 x14_6 (wrap64 (x15_6 + 1)) a0_0 t226)) else (deadeyelaw17_PlanMembers.l4 k6 a1 x2_6 t229 x11_5 (rd t229 x15_6) true (wrap64 (x15_6 + 1)) a0_0 t226)) = some r := by rw [if_neg (show ¬ (false = true) by decide)] at H; exact H
                                      clear H
                                      have H := H1
                                      clear H1
                                      by_cases c64 : x14_6 = true
                                      · subst c64
                                        have H1 : (if (rd t229 x15_6) < x13_6 then (deadeyelaw17_PlanMembers.l4 k6 a1 x2_6 t229 x11_5 (rd t229 x15_6) true (wrap64 (x15_6 + 1)) a0_0 t226) else (deadeyelaw17_PlanMembers.l4 k6 a1 x2_6 t229 x11_5 x13_6 true (wrap64 (x15_6 + 1)) a0_0 t226)) = some r := by rw [if_pos rfl] at H; exact H
                                        clear H
                                        have H := H1
                                        clear H1
                                        by_cases c65 : (rd t229 x15_6) < x13_6
                                        · rw [if_pos c65] at H
                                          have c65b0 : decide ((rd t229 x15_6) < x13_6) = true := decide_eq_true c65
                                          clear c65
                                          have H' := Aside0.mk H
                                          clear H
                                          have p264 : 0 ≤ (x15_6 : Int) := of_decide_eq_true (by first | (with_reducible assumption) | assumption)
                                          have q264 : x15_6 < (t229.length : Int) := of_decide_eq_true (by first | (with_reducible assumption) | assumption)
                                          obtain ⟨ad264, e264, hx264_0⟩ := Kd.at_int (Kd.V_reads' HO_3.out).2.2 x15_6 p264 q264
                                          cases e264
                                          replace p264 := eq_true p264
                                          replace q264 := eq_true q264
                                          obtain ⟨Ao66, co66, eo66⟩ := Kd.R_slice HO_11.out
                                          subst eo66
                                          go_wp2_with (first | (go_at_call 19; (with_reducible refine (deadeyelaw17_in.calls k6 _ _ x11_5 (rd t229 x15_6) false _ ?side1 ?side2 A61.out).mono ?_); (case side1 => repeat (first | exact (Kd.R_reads' HO_11.out).2.2 | (with_reducible refine Kd.C_alloc ?_ _) | (with_reducible refine Kd.C_drewN ?_ _) | (with_reducible refine Kd.C_drew ?_))); (case side2 => exact (Kd.R_reads' HO_11.out).2.1); rintro e w' ⟨rfl, ⟨nd, rfl⟩⟩; (try first | exact ⟨rfl, _, World.drewN_drewN _ _ _⟩ | exact ⟨rfl, _, Eq.trans (World.drewN_drewN _ _ _) (congrArg (World.drewN _) (Nat.add_assoc _ _ _))⟩); have p266 : 0 ≤ (x15_6 : Int) := of_decide_eq_true (by first | (with_reducible assumption) | assumption); have q266 : x15_6 < (t229.length : Int) := of_decide_eq_true (by first | (with_reducible assumption) | assumption); obtain ⟨ad266, e266, hx266_0⟩ := Kd.at_int (Kd.V_reads' HO_3.out).2.2 x15_6 p266 q266; obtain rfl : ad264 = ad266 := (by injection e266); replace p266 := eq_true p266; replace q266 := eq_true q266; have p267 : 0 ≤ (x15_6 : Int) := of_decide_eq_true (by first | (with_reducible assumption) | assumption); have q267 : x15_6 < (t229.length : Int) := of_decide_eq_true (by first | (with_reducible assumption) | assumption); obtain ⟨ad267, e267, hx267_0⟩ := Kd.at_int (Kd.V_reads' HO_3.out).2.2 x15_6 p267 q267; obtain rfl : ad264 = ad267 := (by injection e267); replace p267 := eq_true p267; replace q267 := eq_true q267))
                                          repeat (go_quiet (first | (go_at_call 19; (with_reducible refine (deadeyelaw17_in.calls k6 _ _ x11_5 (rd t229 x15_6) false _ ?side1 ?side2 A61.out).mono ?_); (case side1 => repeat (first | exact (Kd.R_reads' HO_11.out).2.2 | (with_reducible refine Kd.C_alloc ?_ _) | (with_reducible refine Kd.C_drewN ?_ _) | (with_reducible refine Kd.C_drew ?_))); (case side2 => exact (Kd.R_reads' HO_11.out).2.1); rintro e w' ⟨rfl, ⟨nd, rfl⟩⟩; (try first | exact ⟨rfl, _, World.drewN_drewN _ _ _⟩ | exact ⟨rfl, _, Eq.trans (World.drewN_drewN _ _ _) (congrArg (World.drewN _) (Nat.add_assoc _ _ _))⟩); have p266 : 0 ≤ (x15_6 : Int) := of_decide_eq_true (by first | (with_reducible assumption) | assumption); have q266 : x15_6 < (t229.length : Int) := of_decide_eq_true (by first | (with_reducible assumption) | assumption); obtain ⟨ad266, e266, hx266_0⟩ := Kd.at_int (Kd.V_reads' HO_3.out).2.2 x15_6 p266 q266; obtain rfl : ad264 = ad266 := (by injection e266); replace p266 := eq_true p266; replace q266 := eq_true q266; have p267 : 0 ≤ (x15_6 : Int) := of_decide_eq_true (by first | (with_reducible assumption) | assumption); have q267 : x15_6 < (t229.length : Int) := of_decide_eq_true (by first | (with_reducible assumption) | assumption); obtain ⟨ad267, e267, hx267_0⟩ := Kd.at_int (Kd.V_reads' HO_3.out).2.2 x15_6 p267 q267; obtain rfl : ad264 = ad267 := (by injection e267); replace p267 := eq_true p267; replace q267 := eq_true q267)); try go_wp2_with (first | (go_at_call 19; (with_reducible refine (deadeyelaw17_in.calls k6 _ _ x11_5 (rd t229 x15_6) false _ ?side1 ?side2 A61.out).mono ?_); (case side1 => repeat (first | exact (Kd.R_reads' HO_11.out).2.2 | (with_reducible refine Kd.C_alloc ?_ _) | (with_reducible refine Kd.C_drewN ?_ _) | (with_reducible refine Kd.C_drew ?_))); (case side2 => exact (Kd.R_reads' HO_11.out).2.1); rintro e w' ⟨rfl, ⟨nd, rfl⟩⟩; (try first | exact ⟨rfl, _, World.drewN_drewN _ _ _⟩ | exact ⟨rfl, _, Eq.trans (World.drewN_drewN _ _ _) (congrArg (World.drewN _) (Nat.add_assoc _ _ _))⟩); have p266 : 0 ≤ (x15_6 : Int) := of_decide_eq_true (by first | (with_reducible assumption) | assumption); have q266 : x15_6 < (t229.length : Int) := of_decide_eq_true (by first | (with_reducible assumption) | assumption); obtain ⟨ad266, e266, hx266_0⟩ := Kd.at_int (Kd.V_reads' HO_3.out).2.2 x15_6 p266 q266; obtain rfl : ad264 = ad266 := (by injection e266); replace p266 := eq_true p266; replace q266 := eq_true q266; have p267 : 0 ≤ (x15_6 : Int) := of_decide_eq_true (by first | (with_reducible assumption) | assumption); have q267 : x15_6 < (t229.length : Int) := of_decide_eq_true (by first | (with_reducible assumption) | assumption); obtain ⟨ad267, e267, hx267_0⟩ := Kd.at_int (Kd.V_reads' HO_3.out).2.2 x15_6 p267 q267; obtain rfl : ad264 = ad267 := (by injection e267); replace p267 := eq_true p267; replace q267 := eq_true q267)))
                                          go_roundg k6
                                          case measure => have := HJ6.out; have := HK2.out; have := HK3.out; have := HK4.out; have := HK5.out; have := HK6.out; omega
                                          case rel => exact ⟨(rd t229 x15_6), (true), (wrap64 (x15_6 + 1)), (by first | rfl | (simp; done) | (simp [*]; done)), (by first | rfl | (simp; done) | (simp [*]; done)), (by first | rfl | (simp; done) | (simp [*]; done)), H', ⟨by have := HJ6.out; have := HK2.out; have := HK3.out; have := HK4.out; have := HK5.out; have := HK6.out; omega⟩, ⟨by (with_reducible repeat (first | apply Kd.V_alloc | apply Kd.V_drewN | apply Kd.V_drew)); exact HO_2.out⟩, ⟨by (with_reducible repeat (first | apply Kd.V_alloc | apply Kd.V_drewN | apply Kd.V_drew)); exact HO_3.out⟩, ⟨by (with_reducible repeat (first | apply Kd.R_alloc | apply Kd.R_drewN | apply Kd.R_drew)); exact HO_11.out⟩, ⟨by (with_reducible repeat (first | apply Kd.V_alloc | apply Kd.V_drewN | apply Kd.V_drew)); exact HO_226001.out⟩, ⟨by (with_reducible repeat (first | refine blk_drewN ?_ _ | refine blk_drew ?_ | refine blk_alloc ?_ _)); exact BK225.out⟩, ⟨by repeat (first | (with_reducible first | exact HB.out | apply below_alloc | apply pw_below_drewN | apply below_drew1 | refine below_set ?_ GE225.out) | exact HB.out)⟩⟩
                                        · rw [if_neg c65] at H
                                          have c65b0 : decide ((rd t229 x15_6) < x13_6) = false := decide_eq_false c65
                                          clear c65
                                          have H' := Aside0.mk H
                                          clear H
                                          have p264 : 0 ≤ (x15_6 : Int) := of_decide_eq_true (by first | (with_reducible assumption) | assumption)
                                          have q264 : x15_6 < (t229.length : Int) := of_decide_eq_true (by first | (with_reducible assumption) | assumption)
                                          obtain ⟨ad264, e264, hx264_0⟩ := Kd.at_int (Kd.V_reads' HO_3.out).2.2 x15_6 p264 q264
                                          cases e264
                                          replace p264 := eq_true p264
                                          replace q264 := eq_true q264
                                          obtain ⟨Ao67, co67, eo67⟩ := Kd.R_slice HO_11.out
                                          subst eo67
                                          go_wp2_with (first | (go_at_call 19; (with_reducible refine (deadeyelaw17_in.calls k6 _ _ x11_5 (rd t229 x15_6) false _ ?side1 ?side2 A61.out).mono ?_); (case side1 => repeat (first | exact (Kd.R_reads' HO_11.out).2.2 | (with_reducible refine Kd.C_alloc ?_ _) | (with_reducible refine Kd.C_drewN ?_ _) | (with_reducible refine Kd.C_drew ?_))); (case side2 => exact (Kd.R_reads' HO_11.out).2.1); rintro e w' ⟨rfl, ⟨nd, rfl⟩⟩; (try first | exact ⟨rfl, _, World.drewN_drewN _ _ _⟩ | exact ⟨rfl, _, Eq.trans (World.drewN_drewN _ _ _) (congrArg (World.drewN _) (Nat.add_assoc _ _ _))⟩); have p266 : 0 ≤ (x15_6 : Int) := of_decide_eq_true (by first | (with_reducible assumption) | assumption); have q266 : x15_6 < (t229.length : Int) := of_decide_eq_true (by first | (with_reducible assumption) | assumption); obtain ⟨ad266, e266, hx266_0⟩ := Kd.at_int (Kd.V_reads' HO_3.out).2.2 x15_6 p266 q266; obtain rfl : ad264 = ad266 := (by injection e266); replace p266 := eq_true p266; replace q266 := eq_true q266))
                                          repeat (go_quiet (first | (go_at_call 19; (with_reducible refine (deadeyelaw17_in.calls k6 _ _ x11_5 (rd t229 x15_6) false _ ?side1 ?side2 A61.out).mono ?_); (case side1 => repeat (first | exact (Kd.R_reads' HO_11.out).2.2 | (with_reducible refine Kd.C_alloc ?_ _) | (with_reducible refine Kd.C_drewN ?_ _) | (with_reducible refine Kd.C_drew ?_))); (case side2 => exact (Kd.R_reads' HO_11.out).2.1); rintro e w' ⟨rfl, ⟨nd, rfl⟩⟩; (try first | exact ⟨rfl, _, World.drewN_drewN _ _ _⟩ | exact ⟨rfl, _, Eq.trans (World.drewN_drewN _ _ _) (congrArg (World.drewN _) (Nat.add_assoc _ _ _))⟩); have p266 : 0 ≤ (x15_6 : Int) := of_decide_eq_true (by first | (with_reducible assumption) | assumption); have q266 : x15_6 < (t229.length : Int) := of_decide_eq_true (by first | (with_reducible assumption) | assumption); obtain ⟨ad266, e266, hx266_0⟩ := Kd.at_int (Kd.V_reads' HO_3.out).2.2 x15_6 p266 q266; obtain rfl : ad264 = ad266 := (by injection e266); replace p266 := eq_true p266; replace q266 := eq_true q266)); try go_wp2_with (first | (go_at_call 19; (with_reducible refine (deadeyelaw17_in.calls k6 _ _ x11_5 (rd t229 x15_6) false _ ?side1 ?side2 A61.out).mono ?_); (case side1 => repeat (first | exact (Kd.R_reads' HO_11.out).2.2 | (with_reducible refine Kd.C_alloc ?_ _) | (with_reducible refine Kd.C_drewN ?_ _) | (with_reducible refine Kd.C_drew ?_))); (case side2 => exact (Kd.R_reads' HO_11.out).2.1); rintro e w' ⟨rfl, ⟨nd, rfl⟩⟩; (try first | exact ⟨rfl, _, World.drewN_drewN _ _ _⟩ | exact ⟨rfl, _, Eq.trans (World.drewN_drewN _ _ _) (congrArg (World.drewN _) (Nat.add_assoc _ _ _))⟩); have p266 : 0 ≤ (x15_6 : Int) := of_decide_eq_true (by first | (with_reducible assumption) | assumption); have q266 : x15_6 < (t229.length : Int) := of_decide_eq_true (by first | (with_reducible assumption) | assumption); obtain ⟨ad266, e266, hx266_0⟩ := Kd.at_int (Kd.V_reads' HO_3.out).2.2 x15_6 p266 q266; obtain rfl : ad264 = ad266 := (by injection e266); replace p266 := eq_true p266; replace q266 := eq_true q266)))
                                          go_roundg k6
                                          case measure => have := HJ6.out; have := HK2.out; have := HK3.out; have := HK4.out; have := HK5.out; have := HK6.out; omega
                                          case rel => exact ⟨(x13_6), (true), (wrap64 (x15_6 + 1)), (by first | rfl | (simp; done) | (simp [*]; done)), (by first | rfl | (simp; done) | (simp [*]; done)), (by first | rfl | (simp; done) | (simp [*]; done)), H', ⟨by have := HJ6.out; have := HK2.out; have := HK3.out; have := HK4.out; have := HK5.out; have := HK6.out; omega⟩, ⟨by (with_reducible repeat (first | apply Kd.V_alloc | apply Kd.V_drewN | apply Kd.V_drew)); exact HO_2.out⟩, ⟨by (with_reducible repeat (first | apply Kd.V_alloc | apply Kd.V_drewN | apply Kd.V_drew)); exact HO_3.out⟩, ⟨by (with_reducible repeat (first | apply Kd.R_alloc | apply Kd.R_drewN | apply Kd.R_drew)); exact HO_11.out⟩, ⟨by (with_reducible repeat (first | apply Kd.V_alloc | apply Kd.V_drewN | apply Kd.V_drew)); exact HO_226001.out⟩, ⟨by (with_reducible repeat (first | refine blk_drewN ?_ _ | refine blk_drew ?_ | refine blk_alloc ?_ _)); exact BK225.out⟩, ⟨by repeat (first | (with_reducible first | exact HB.out | apply below_alloc | apply pw_below_drewN | apply below_drew1 | refine below_set ?_ GE225.out) | exact HB.out)⟩⟩
                                      · replace c64 := Bool.eq_false_iff.mpr c64
                                        subst c64
                                        have H1 : (deadeyelaw17_PlanMembers.l4 k6 a1 x2_6 t229 x11_5 (rd t229 x15_6) true (wrap64 (x15_6 + 1)) a0_0 t226) = some r := by rw [if_neg (show ¬ (false = true) by decide)] at H; exact H
                                        clear H
                                        have H := H1
                                        clear H1
                                        have H' := Aside0.mk H
                                        clear H
                                        have p264 : 0 ≤ (x15_6 : Int) := of_decide_eq_true (by first | (with_reducible assumption) | assumption)
                                        have q264 : x15_6 < (t229.length : Int) := of_decide_eq_true (by first | (with_reducible assumption) | assumption)
                                        obtain ⟨ad264, e264, hx264_0⟩ := Kd.at_int (Kd.V_reads' HO_3.out).2.2 x15_6 p264 q264
                                        cases e264
                                        replace p264 := eq_true p264
                                        replace q264 := eq_true q264
                                        obtain ⟨Ao68, co68, eo68⟩ := Kd.R_slice HO_11.out
                                        subst eo68
                                        go_wp2_with (first | (go_at_call 19; (with_reducible refine (deadeyelaw17_in.calls k6 _ _ x11_5 (rd t229 x15_6) false _ ?side1 ?side2 A61.out).mono ?_); (case side1 => repeat (first | exact (Kd.R_reads' HO_11.out).2.2 | (with_reducible refine Kd.C_alloc ?_ _) | (with_reducible refine Kd.C_drewN ?_ _) | (with_reducible refine Kd.C_drew ?_))); (case side2 => exact (Kd.R_reads' HO_11.out).2.1); rintro e w' ⟨rfl, ⟨nd, rfl⟩⟩; (try first | exact ⟨rfl, _, World.drewN_drewN _ _ _⟩ | exact ⟨rfl, _, Eq.trans (World.drewN_drewN _ _ _) (congrArg (World.drewN _) (Nat.add_assoc _ _ _))⟩); have p268 : 0 ≤ (x15_6 : Int) := of_decide_eq_true (by first | (with_reducible assumption) | assumption); have q268 : x15_6 < (t229.length : Int) := of_decide_eq_true (by first | (with_reducible assumption) | assumption); obtain ⟨ad268, e268, hx268_0⟩ := Kd.at_int (Kd.V_reads' HO_3.out).2.2 x15_6 p268 q268; obtain rfl : ad264 = ad268 := (by injection e268); replace p268 := eq_true p268; replace q268 := eq_true q268))
                                        repeat (go_quiet (first | (go_at_call 19; (with_reducible refine (deadeyelaw17_in.calls k6 _ _ x11_5 (rd t229 x15_6) false _ ?side1 ?side2 A61.out).mono ?_); (case side1 => repeat (first | exact (Kd.R_reads' HO_11.out).2.2 | (with_reducible refine Kd.C_alloc ?_ _) | (with_reducible refine Kd.C_drewN ?_ _) | (with_reducible refine Kd.C_drew ?_))); (case side2 => exact (Kd.R_reads' HO_11.out).2.1); rintro e w' ⟨rfl, ⟨nd, rfl⟩⟩; (try first | exact ⟨rfl, _, World.drewN_drewN _ _ _⟩ | exact ⟨rfl, _, Eq.trans (World.drewN_drewN _ _ _) (congrArg (World.drewN _) (Nat.add_assoc _ _ _))⟩); have p268 : 0 ≤ (x15_6 : Int) := of_decide_eq_true (by first | (with_reducible assumption) | assumption); have q268 : x15_6 < (t229.length : Int) := of_decide_eq_true (by first | (with_reducible assumption) | assumption); obtain ⟨ad268, e268, hx268_0⟩ := Kd.at_int (Kd.V_reads' HO_3.out).2.2 x15_6 p268 q268; obtain rfl : ad264 = ad268 := (by injection e268); replace p268 := eq_true p268; replace q268 := eq_true q268)); try go_wp2_with (first | (go_at_call 19; (with_reducible refine (deadeyelaw17_in.calls k6 _ _ x11_5 (rd t229 x15_6) false _ ?side1 ?side2 A61.out).mono ?_); (case side1 => repeat (first | exact (Kd.R_reads' HO_11.out).2.2 | (with_reducible refine Kd.C_alloc ?_ _) | (with_reducible refine Kd.C_drewN ?_ _) | (with_reducible refine Kd.C_drew ?_))); (case side2 => exact (Kd.R_reads' HO_11.out).2.1); rintro e w' ⟨rfl, ⟨nd, rfl⟩⟩; (try first | exact ⟨rfl, _, World.drewN_drewN _ _ _⟩ | exact ⟨rfl, _, Eq.trans (World.drewN_drewN _ _ _) (congrArg (World.drewN _) (Nat.add_assoc _ _ _))⟩); have p268 : 0 ≤ (x15_6 : Int) := of_decide_eq_true (by first | (with_reducible assumption) | assumption); have q268 : x15_6 < (t229.length : Int) := of_decide_eq_true (by first | (with_reducible assumption) | assumption); obtain ⟨ad268, e268, hx268_0⟩ := Kd.at_int (Kd.V_reads' HO_3.out).2.2 x15_6 p268 q268; obtain rfl : ad264 = ad268 := (by injection e268); replace p268 := eq_true p268; replace q268 := eq_true q268)))
                                        go_roundg k6
                                        case measure => have := HJ6.out; have := HK2.out; have := HK3.out; have := HK4.out; have := HK5.out; have := HK6.out; omega
                                        case rel => exact ⟨(rd t229 x15_6), (true), (wrap64 (x15_6 + 1)), (by first | rfl | (simp; done) | (simp [*]; done)), (by first | rfl | (simp; done) | (simp [*]; done)), (by first | rfl | (simp; done) | (simp [*]; done)), H', ⟨by have := HJ6.out; have := HK2.out; have := HK3.out; have := HK4.out; have := HK5.out; have := HK6.out; omega⟩, ⟨by (with_reducible repeat (first | apply Kd.V_alloc | apply Kd.V_drewN | apply Kd.V_drew)); exact HO_2.out⟩, ⟨by (with_reducible repeat (first | apply Kd.V_alloc | apply Kd.V_drewN | apply Kd.V_drew)); exact HO_3.out⟩, ⟨by (with_reducible repeat (first | apply Kd.R_alloc | apply Kd.R_drewN | apply Kd.R_drew)); exact HO_11.out⟩, ⟨by (with_reducible repeat (first | apply Kd.V_alloc | apply Kd.V_drewN | apply Kd.V_drew)); exact HO_226001.out⟩, ⟨by (with_reducible repeat (first | refine blk_drewN ?_ _ | refine blk_drew ?_ | refine blk_alloc ?_ _)); exact BK225.out⟩, ⟨by repeat (first | (with_reducible first | exact HB.out | apply below_alloc | apply pw_below_drewN | apply below_drew1 | refine below_set ?_ GE225.out) | exact HB.out)⟩⟩
                                  · rw [if_neg c60] at H
                                    exact absurd H (by simp)
                                · rw [if_neg c59] at H
                                  have c59b0 : decide (x15_6 < (t229.length : Int)) = false := decide_eq_false c59
                                  clear c59
                                  by_cases c69 : x14_6 = true
                                  · subst c69
                                    have H1 : (if x11_5.length < 17592186044416 then (deadeyelaw17_PlanMembers.l3 k6 a1 x2_6 t229 (x11_5 ++ [x13_6]) a0_0 t226) else (none)) = some r := by rw [if_pos rfl] at H; exact H
                                    clear H
                                    have H := H1
                                    clear H1
                                    by_cases c70 : x11_5.length < 17592186044416
                                    · rw [if_pos c70] at H
                                      have LMc70 := Aside0.mk c70
                                      clear c70
                                      obtain ⟨y269, hy269⟩ : ∃ y_ : List Int, y_ = (x11_5 ++ [x13_6]) := ⟨_, rfl⟩
                                      replace H : (deadeyelaw17_PlanMembers.l3 k6 a1 x2_6 t229 y269 a0_0 t226) = some r := by first | (rw [hy269]; with_reducible exact H) | (have H2_ := (Option.bind_some _ _).symm.trans H; rw [hy269]; with_reducible exact H2_) | (have H2_ := (Option.bind_some _ _).symm.trans H; with_reducible exact H2_) | with_reducible exact H | (rw [hy269]; exact H) | exact H
                                      have Ny269 := Aside0.mk hy269
                                      clear hy269
                                      have H' := Aside0.mk H
                                      clear H
                                      go_wp2_with (first | ((with_reducible refine gate_builtin (b := .append) (xs := #[.tmp 125, .tmp 127]) rfl ?_); (try (refine gate_guard (by rfl) ?_; dsimp only)); at_builtin; refine Kd.R_append (Kd.int .i64) (w0 := w) w.heap.size rfl (.tmp 125) (.tmp 127) 28 3 (.int .i64 0) 8 rfl Try.underlying28 info3 rfl (by decide) (by omega) u11 x11_5 x13_6 [.int .i64 x13_6] (fun k_ => (w.heap.size ≤ k_)) (fun _ => False) rfl rfl ?aP (fun _ hk => hk.elim) ?aF ?aO ?aB ?aS ?aL ?_; (case aP => exact rfl); (case aB => exact (by repeat (first | (with_reducible first | exact HB.out | apply below_alloc | apply pw_below_drewN | apply below_drew1 | refine below_set ?_ GE225.out) | exact HB.out))); (case aF => exact (fun k_ hk => (Nat.le_trans (below_size (by repeat (first | (with_reducible first | exact HB.out | apply below_alloc | apply pw_below_drewN | apply below_drew1 | refine below_set ?_ GE225.out) | exact HB.out))) hk))); (case aO => exact (by (with_reducible repeat (first | apply Kd.R_alloc | apply Kd.R_drewN | apply Kd.R_drew)); exact HO_11.out)); (case aS => exact (below_size (by repeat (first | (with_reducible first | exact HB.out | apply below_alloc | apply pw_below_drewN | apply below_drew1 | refine below_set ?_ GE225.out) | exact HB.out)))); (case aL => have := LMc70.out; omega); intro v270 w71 ho hb hg hat; rw [← Ny269.out] at ho; have n0_ := Aside0.mk (Kd.V_afterv (ok := (fun k_ => ((P0_1_ k_ ∨ P2_ k_ ∨ P3_ k_) ∨ w.heap.size ≤ k_) ∧ k_ ≠ gb225)) (by (with_reducible repeat (first | apply Kd.V_alloc | apply Kd.V_drewN | apply Kd.V_drew)); exact Kd.V_mono HO_2.out (fun _ hk => ⟨⟨hk.1, hk.2.2⟩, hk.2.1⟩)) hg hat); have n1_ := Aside0.mk (Kd.V_afterv (ok := (fun k_ => ((P0_1_ k_ ∨ P2_ k_ ∨ P3_ k_) ∨ w.heap.size ≤ k_) ∧ k_ ≠ gb225)) (by (with_reducible repeat (first | apply Kd.V_alloc | apply Kd.V_drewN | apply Kd.V_drew)); exact Kd.V_mono HO_3.out (fun _ hk => ⟨⟨hk.1, hk.2.2⟩, hk.2.1⟩)) hg hat); have n2_ := Aside0.mk (Kd.V_afterv (ok := (fun k_ => ((P0_1_ k_ ∨ P2_ k_ ∨ P3_ k_) ∨ w.heap.size ≤ k_) ∧ k_ ≠ gb225)) (by (with_reducible repeat (first | apply Kd.V_alloc | apply Kd.V_drewN | apply Kd.V_drew)); exact Kd.V_mono HO_226001.out (fun _ hk => ⟨⟨hk.1, hk.2.2⟩, hk.2.1⟩)) hg hat); have n3_ := Aside0.mk (blk_grown (g := gb225) (o := .cells #[.int .i64 a0_0, .slice Ao12 t226.length co12] 30 (0, 0)) (by (with_reducible repeat (first | refine blk_drewN ?_ _ | refine blk_drew ?_ | refine blk_alloc ?_ _)); exact BK225.out) hg (Kd.R_ne HO_11.out BK225.out (by decide))); have n4_ := Aside0.mk (hb); have n5_ := Aside0.mk (ho); clear HO_2; clear HO_3; clear HO_226001; clear BK225; clear HB; clear HO_11; have HO_2 := n0_; have HO_3 := n1_; have HO_226001 := n2_; have BK225 := n3_; have HB := n4_; have HO271 := n5_; clear n0_ n1_ n2_ n3_ n4_ n5_; clear ho hb hg hat))
                                      repeat (go_quiet (first | ((with_reducible refine gate_builtin (b := .append) (xs := #[.tmp 125, .tmp 127]) rfl ?_); (try (refine gate_guard (by rfl) ?_; dsimp only)); at_builtin; refine Kd.R_append (Kd.int .i64) (w0 := w) w.heap.size rfl (.tmp 125) (.tmp 127) 28 3 (.int .i64 0) 8 rfl Try.underlying28 info3 rfl (by decide) (by omega) u11 x11_5 x13_6 [.int .i64 x13_6] (fun k_ => (w.heap.size ≤ k_)) (fun _ => False) rfl rfl ?aP (fun _ hk => hk.elim) ?aF ?aO ?aB ?aS ?aL ?_; (case aP => exact rfl); (case aB => exact (by repeat (first | (with_reducible first | exact HB.out | apply below_alloc | apply pw_below_drewN | apply below_drew1 | refine below_set ?_ GE225.out) | exact HB.out))); (case aF => exact (fun k_ hk => (Nat.le_trans (below_size (by repeat (first | (with_reducible first | exact HB.out | apply below_alloc | apply pw_below_drewN | apply below_drew1 | refine below_set ?_ GE225.out) | exact HB.out))) hk))); (case aO => exact (by (with_reducible repeat (first | apply Kd.R_alloc | apply Kd.R_drewN | apply Kd.R_drew)); exact HO_11.out)); (case aS => exact (below_size (by repeat (first | (with_reducible first | exact HB.out | apply below_alloc | apply pw_below_drewN | apply below_drew1 | refine below_set ?_ GE225.out) | exact HB.out)))); (case aL => have := LMc70.out; omega); intro v270 w71 ho hb hg hat; rw [← Ny269.out] at ho; have n0_ := Aside0.mk (Kd.V_afterv (ok := (fun k_ => ((P0_1_ k_ ∨ P2_ k_ ∨ P3_ k_) ∨ w.heap.size ≤ k_) ∧ k_ ≠ gb225)) (by (with_reducible repeat (first | apply Kd.V_alloc | apply Kd.V_drewN | apply Kd.V_drew)); exact Kd.V_mono HO_2.out (fun _ hk => ⟨⟨hk.1, hk.2.2⟩, hk.2.1⟩)) hg hat); have n1_ := Aside0.mk (Kd.V_afterv (ok := (fun k_ => ((P0_1_ k_ ∨ P2_ k_ ∨ P3_ k_) ∨ w.heap.size ≤ k_) ∧ k_ ≠ gb225)) (by (with_reducible repeat (first | apply Kd.V_alloc | apply Kd.V_drewN | apply Kd.V_drew)); exact Kd.V_mono HO_3.out (fun _ hk => ⟨⟨hk.1, hk.2.2⟩, hk.2.1⟩)) hg hat); have n2_ := Aside0.mk (Kd.V_afterv (ok := (fun k_ => ((P0_1_ k_ ∨ P2_ k_ ∨ P3_ k_) ∨ w.heap.size ≤ k_) ∧ k_ ≠ gb225)) (by (with_reducible repeat (first | apply Kd.V_alloc | apply Kd.V_drewN | apply Kd.V_drew)); exact Kd.V_mono HO_226001.out (fun _ hk => ⟨⟨hk.1, hk.2.2⟩, hk.2.1⟩)) hg hat); have n3_ := Aside0.mk (blk_grown (g := gb225) (o := .cells #[.int .i64 a0_0, .slice Ao12 t226.length co12] 30 (0, 0)) (by (with_reducible repeat (first | refine blk_drewN ?_ _ | refine blk_drew ?_ | refine blk_alloc ?_ _)); exact BK225.out) hg (Kd.R_ne HO_11.out BK225.out (by decide))); have n4_ := Aside0.mk (hb); have n5_ := Aside0.mk (ho); clear HO_2; clear HO_3; clear HO_226001; clear BK225; clear HB; clear HO_11; have HO_2 := n0_; have HO_3 := n1_; have HO_226001 := n2_; have BK225 := n3_; have HB := n4_; have HO271 := n5_; clear n0_ n1_ n2_ n3_ n4_ n5_; clear ho hb hg hat)); try go_wp2_with (first | ((with_reducible refine gate_builtin (b := .append) (xs := #[.tmp 125, .tmp 127]) rfl ?_); (try (refine gate_guard (by rfl) ?_; dsimp only)); at_builtin; refine Kd.R_append (Kd.int .i64) (w0 := w) w.heap.size rfl (.tmp 125) (.tmp 127) 28 3 (.int .i64 0) 8 rfl Try.underlying28 info3 rfl (by decide) (by omega) u11 x11_5 x13_6 [.int .i64 x13_6] (fun k_ => (w.heap.size ≤ k_)) (fun _ => False) rfl rfl ?aP (fun _ hk => hk.elim) ?aF ?aO ?aB ?aS ?aL ?_; (case aP => exact rfl); (case aB => exact (by repeat (first | (with_reducible first | exact HB.out | apply below_alloc | apply pw_below_drewN | apply below_drew1 | refine below_set ?_ GE225.out) | exact HB.out))); (case aF => exact (fun k_ hk => (Nat.le_trans (below_size (by repeat (first | (with_reducible first | exact HB.out | apply below_alloc | apply pw_below_drewN | apply below_drew1 | refine below_set ?_ GE225.out) | exact HB.out))) hk))); (case aO => exact (by (with_reducible repeat (first | apply Kd.R_alloc | apply Kd.R_drewN | apply Kd.R_drew)); exact HO_11.out)); (case aS => exact (below_size (by repeat (first | (with_reducible first | exact HB.out | apply below_alloc | apply pw_below_drewN | apply below_drew1 | refine below_set ?_ GE225.out) | exact HB.out)))); (case aL => have := LMc70.out; omega); intro v270 w71 ho hb hg hat; rw [← Ny269.out] at ho; have n0_ := Aside0.mk (Kd.V_afterv (ok := (fun k_ => ((P0_1_ k_ ∨ P2_ k_ ∨ P3_ k_) ∨ w.heap.size ≤ k_) ∧ k_ ≠ gb225)) (by (with_reducible repeat (first | apply Kd.V_alloc | apply Kd.V_drewN | apply Kd.V_drew)); exact Kd.V_mono HO_2.out (fun _ hk => ⟨⟨hk.1, hk.2.2⟩, hk.2.1⟩)) hg hat); have n1_ := Aside0.mk (Kd.V_afterv (ok := (fun k_ => ((P0_1_ k_ ∨ P2_ k_ ∨ P3_ k_) ∨ w.heap.size ≤ k_) ∧ k_ ≠ gb225)) (by (with_reducible repeat (first | apply Kd.V_alloc | apply Kd.V_drewN | apply Kd.V_drew)); exact Kd.V_mono HO_3.out (fun _ hk => ⟨⟨hk.1, hk.2.2⟩, hk.2.1⟩)) hg hat); have n2_ := Aside0.mk (Kd.V_afterv (ok := (fun k_ => ((P0_1_ k_ ∨ P2_ k_ ∨ P3_ k_) ∨ w.heap.size ≤ k_) ∧ k_ ≠ gb225)) (by (with_reducible repeat (first | apply Kd.V_alloc | apply Kd.V_drewN | apply Kd.V_drew)); exact Kd.V_mono HO_226001.out (fun _ hk => ⟨⟨hk.1, hk.2.2⟩, hk.2.1⟩)) hg hat); have n3_ := Aside0.mk (blk_grown (g := gb225) (o := .cells #[.int .i64 a0_0, .slice Ao12 t226.length co12] 30 (0, 0)) (by (with_reducible repeat (first | refine blk_drewN ?_ _ | refine blk_drew ?_ | refine blk_alloc ?_ _)); exact BK225.out) hg (Kd.R_ne HO_11.out BK225.out (by decide))); have n4_ := Aside0.mk (hb); have n5_ := Aside0.mk (ho); clear HO_2; clear HO_3; clear HO_226001; clear BK225; clear HB; clear HO_11; have HO_2 := n0_; have HO_3 := n1_; have HO_226001 := n2_; have BK225 := n3_; have HB := n4_; have HO271 := n5_; clear n0_ n1_ n2_ n3_ n4_ n5_; clear ho hb hg hat)))
                                      go_roundg k6
                                      case measure => have := HJ6.out; have := HK2.out; have := HK3.out; have := HK4.out; have := HK5.out; have := HK6.out; omega
                                      case rel => exact ⟨(y269), H', ⟨by have := HJ6.out; have := HK2.out; have := HK3.out; have := HK4.out; have := HK5.out; have := HK6.out; omega⟩, ⟨by (with_reducible repeat (first | apply Kd.V_alloc | apply Kd.V_drewN | apply Kd.V_drew)); exact Kd.V_mono HO_2.out (fun _ hk => ⟨hk.1.1, ⟨hk.2, hk.1.2⟩⟩)⟩, ⟨by (with_reducible repeat (first | apply Kd.V_alloc | apply Kd.V_drewN | apply Kd.V_drew)); exact Kd.V_mono HO_3.out (fun _ hk => ⟨hk.1.1, ⟨hk.2, hk.1.2⟩⟩)⟩, ⟨by (with_reducible repeat (first | apply Kd.R_alloc | apply Kd.R_drewN | apply Kd.R_drew)); exact HO271.out⟩, ⟨by (with_reducible repeat (first | apply Kd.V_alloc | apply Kd.V_drewN | apply Kd.V_drew)); exact Kd.V_mono HO_226001.out (fun _ hk => ⟨hk.1.1, ⟨hk.2, hk.1.2⟩⟩)⟩, ⟨by (with_reducible repeat (first | refine blk_drewN ?_ _ | refine blk_drew ?_ | refine blk_alloc ?_ _)); exact BK225.out⟩, ⟨by repeat (first | (with_reducible first | exact HB.out | apply below_alloc | apply pw_below_drewN | apply below_drew1 | refine below_set ?_ GE225.out) | exact HB.out)⟩⟩
                                    · rw [if_neg c70] at H
                                      exact absurd H (by simp)
                                  · replace c69 := Bool.eq_false_iff.mpr c69
                                    subst c69
                                    have H1 : ((plan_Members.f k6 a0_0 t226 a1 x2_6 t229).bind fun bt272 => (if a1 < 0 then (deadeyelaw17_PlanMembers.j6 k6 a1 x11_5 bt272.1 bt272.2 true) else (deadeyelaw17_PlanMembers.j6 k6 a1 x11_5 bt272.1 bt272.2 (decide (a1 > (x11_5.length : Int)))))) = some r := by rw [if_neg (show ¬ (false = true) by decide)] at H; exact H
                                    clear H
                                    have H := H1
                                    clear H1
                                    replace H := Option.bind_eq_some_iff.mp H
                                    obtain ⟨⟨t272, t275⟩, A720, H⟩ := H
                                    replace H : (if a1 < 0 then (deadeyelaw17_PlanMembers.j6 k6 a1 x11_5 t272 t275 true) else (deadeyelaw17_PlanMembers.j6 k6 a1 x11_5 t272 t275 (decide (a1 > (x11_5.length : Int))))) = some r := H
                                    have A72 := Aside0.mk A720
                                    clear A720
                                    have HC73 := Aside0.mk H
                                    clear H
                                    have hcz74_0 : wr.cell? ⟨gb225, 0, none⟩ = some (.int .i64 a0_0) := (blk_cell BK225.out 0).trans rfl
                                    have hcz74_1 : wr.cell? ⟨gb225, 1, none⟩ = some (.slice Ao12 t226.length co12) := (blk_cell BK225.out 1).trans rfl
                                    have hfz74_0 := blk_frozen BK225.out 0
                                    have hfz74_1 := blk_frozen BK225.out 1
                                    obtain ⟨Ao75, co75, eo75⟩ := Kd.V_slice HO_2.out
                                    subst eo75
                                    go_upto_region 29 with (first | (go_at_call 20; (with_reducible refine (plan_Members.calls k6 a0_0 _ _ t226 a1 _ _ x2_6 _ _ t229 t272 t275 _ ?side1 ?side2 ?side3 ?side4 ?side5 ?side6 A72.out).mono ?_); (case side1 => repeat (first | exact (Kd.V_reads' HO_226001.out).2.2 | (with_reducible refine Kd.C_alloc ?_ _) | (with_reducible refine Kd.C_drewN ?_ _) | (with_reducible refine Kd.C_drew ?_))); (case side2 => exact (Kd.V_reads' HO_226001.out).2.1); (case side3 => repeat (first | exact (Kd.V_reads' HO_2.out).2.2 | (with_reducible refine Kd.C_alloc ?_ _) | (with_reducible refine Kd.C_drewN ?_ _) | (with_reducible refine Kd.C_drew ?_))); (case side4 => exact (Kd.V_reads' HO_2.out).2.1); (case side5 => repeat (first | exact (Kd.V_reads' HO_3.out).2.2 | (with_reducible refine Kd.C_alloc ?_ _) | (with_reducible refine Kd.C_drewN ?_ _) | (with_reducible refine Kd.C_drew ?_))); (case side6 => exact (Kd.V_reads' HO_3.out).2.1); rintro e w76 ⟨v273, rfl, ho0, hb⟩; have n0_ := Aside0.mk (Kd.V_below (by (with_reducible repeat (first | apply Kd.V_alloc | apply Kd.V_drewN | apply Kd.V_drew)); exact HO_2.out) hb); have n1_ := Aside0.mk (Kd.V_below (by (with_reducible repeat (first | apply Kd.V_alloc | apply Kd.V_drewN | apply Kd.V_drew)); exact HO_3.out) hb); have n2_ := Aside0.mk (Kd.R_below (by (with_reducible repeat (first | apply Kd.R_alloc | apply Kd.R_drewN | apply Kd.R_drew)); exact HO_11.out) hb); have n3_ := Aside0.mk (Kd.V_below (by (with_reducible repeat (first | apply Kd.V_alloc | apply Kd.V_drewN | apply Kd.V_drew)); exact HO_226001.out) hb); have n4_ := Aside0.mk (Kd.V_lower (Kd.V_mono (ok' := fun k_ => ((P0_1_ k_ ∨ P2_ k_ ∨ P3_ k_) ∨ w.heap.size ≤ k_) ∧ some k_ ≠ (u11 : Value).ownBlock ∧ k_ ≠ gb225) ho0 (fun k_ hk_ => ⟨(.inr (Nat.le_trans (below_size (by repeat (first | (with_reducible first | exact HB.out | apply below_alloc | apply pw_below_drewN | apply below_drew1 | refine below_set ?_ GE225.out) | exact HB.out))) hk_)), (Kd.fresh' (Kd.R_lt (by (with_reducible repeat (first | apply Kd.R_alloc | apply Kd.R_drewN | apply Kd.R_drew)); exact HO_11.out)) k_ hk_), (Kd.freshB (g := gb225) (o := .cells #[.int .i64 a0_0, .slice Ao12 t226.length co12] 30 (0, 0)) (by (with_reducible repeat (first | refine blk_drewN ?_ _ | refine blk_drew ?_ | refine blk_alloc ?_ _)); exact BK225.out) k_ hk_)⟩)) (below_size (by repeat (first | (with_reducible first | exact HB.out | apply below_alloc | apply pw_below_drewN | apply below_drew1 | refine below_set ?_ GE225.out) | exact HB.out)))); have n5_ := Aside0.mk (blk_below (g := gb225) (o := .cells #[.int .i64 a0_0, .slice Ao12 t226.length co12] 30 (0, 0)) (by (with_reducible repeat (first | refine blk_drewN ?_ _ | refine blk_drew ?_ | refine blk_alloc ?_ _)); exact BK225.out) hb); have n6_ := Aside0.mk (below_step (by repeat (first | (with_reducible first | exact HB.out | apply below_alloc | apply pw_below_drewN | apply below_drew1 | refine below_set ?_ GE225.out) | exact HB.out)) hb); clear HO_2; clear HO_3; clear HO_11; clear HO_226001; clear BK225; clear HB; have HO_2 := n0_; have HO_3 := n1_; have HO_11 := n2_; have HO_226001 := n3_; have HO274 := n4_; have BK225 := n5_; have HB := n6_; clear n0_ n1_ n2_ n3_ n4_ n5_ n6_; (try clear hb); (try clear hb2); (try clear hk); (try clear hi); (try clear ho0)))
                                    repeat (go_quiet (first | (go_at_call 20; (with_reducible refine (plan_Members.calls k6 a0_0 _ _ t226 a1 _ _ x2_6 _ _ t229 t272 t275 _ ?side1 ?side2 ?side3 ?side4 ?side5 ?side6 A72.out).mono ?_); (case side1 => repeat (first | exact (Kd.V_reads' HO_226001.out).2.2 | (with_reducible refine Kd.C_alloc ?_ _) | (with_reducible refine Kd.C_drewN ?_ _) | (with_reducible refine Kd.C_drew ?_))); (case side2 => exact (Kd.V_reads' HO_226001.out).2.1); (case side3 => repeat (first | exact (Kd.V_reads' HO_2.out).2.2 | (with_reducible refine Kd.C_alloc ?_ _) | (with_reducible refine Kd.C_drewN ?_ _) | (with_reducible refine Kd.C_drew ?_))); (case side4 => exact (Kd.V_reads' HO_2.out).2.1); (case side5 => repeat (first | exact (Kd.V_reads' HO_3.out).2.2 | (with_reducible refine Kd.C_alloc ?_ _) | (with_reducible refine Kd.C_drewN ?_ _) | (with_reducible refine Kd.C_drew ?_))); (case side6 => exact (Kd.V_reads' HO_3.out).2.1); rintro e w76 ⟨v273, rfl, ho0, hb⟩; have n0_ := Aside0.mk (Kd.V_below (by (with_reducible repeat (first | apply Kd.V_alloc | apply Kd.V_drewN | apply Kd.V_drew)); exact HO_2.out) hb); have n1_ := Aside0.mk (Kd.V_below (by (with_reducible repeat (first | apply Kd.V_alloc | apply Kd.V_drewN | apply Kd.V_drew)); exact HO_3.out) hb); have n2_ := Aside0.mk (Kd.R_below (by (with_reducible repeat (first | apply Kd.R_alloc | apply Kd.R_drewN | apply Kd.R_drew)); exact HO_11.out) hb); have n3_ := Aside0.mk (Kd.V_below (by (with_reducible repeat (first | apply Kd.V_alloc | apply Kd.V_drewN | apply Kd.V_drew)); exact HO_226001.out) hb); have n4_ := Aside0.mk (Kd.V_lower (Kd.V_mono (ok' := fun k_ => ((P0_1_ k_ ∨ P2_ k_ ∨ P3_ k_) ∨ w.heap.size ≤ k_) ∧ some k_ ≠ (u11 : Value).ownBlock ∧ k_ ≠ gb225) ho0 (fun k_ hk_ => ⟨(.inr (Nat.le_trans (below_size (by repeat (first | (with_reducible first | exact HB.out | apply below_alloc | apply pw_below_drewN | apply below_drew1 | refine below_set ?_ GE225.out) | exact HB.out))) hk_)), (Kd.fresh' (Kd.R_lt (by (with_reducible repeat (first | apply Kd.R_alloc | apply Kd.R_drewN | apply Kd.R_drew)); exact HO_11.out)) k_ hk_), (Kd.freshB (g := gb225) (o := .cells #[.int .i64 a0_0, .slice Ao12 t226.length co12] 30 (0, 0)) (by (with_reducible repeat (first | refine blk_drewN ?_ _ | refine blk_drew ?_ | refine blk_alloc ?_ _)); exact BK225.out) k_ hk_)⟩)) (below_size (by repeat (first | (with_reducible first | exact HB.out | apply below_alloc | apply pw_below_drewN | apply below_drew1 | refine below_set ?_ GE225.out) | exact HB.out)))); have n5_ := Aside0.mk (blk_below (g := gb225) (o := .cells #[.int .i64 a0_0, .slice Ao12 t226.length co12] 30 (0, 0)) (by (with_reducible repeat (first | refine blk_drewN ?_ _ | refine blk_drew ?_ | refine blk_alloc ?_ _)); exact BK225.out) hb); have n6_ := Aside0.mk (below_step (by repeat (first | (with_reducible first | exact HB.out | apply below_alloc | apply pw_below_drewN | apply below_drew1 | refine below_set ?_ GE225.out) | exact HB.out)) hb); clear HO_2; clear HO_3; clear HO_11; clear HO_226001; clear BK225; clear HB; have HO_2 := n0_; have HO_3 := n1_; have HO_11 := n2_; have HO_226001 := n3_; have HO274 := n4_; have BK225 := n5_; have HB := n6_; clear n0_ n1_ n2_ n3_ n4_ n5_ n6_; (try clear hb); (try clear hb2); (try clear hk); (try clear hi); (try clear ho0))); go_upto_region 29 with (first | (go_at_call 20; (with_reducible refine (plan_Members.calls k6 a0_0 _ _ t226 a1 _ _ x2_6 _ _ t229 t272 t275 _ ?side1 ?side2 ?side3 ?side4 ?side5 ?side6 A72.out).mono ?_); (case side1 => repeat (first | exact (Kd.V_reads' HO_226001.out).2.2 | (with_reducible refine Kd.C_alloc ?_ _) | (with_reducible refine Kd.C_drewN ?_ _) | (with_reducible refine Kd.C_drew ?_))); (case side2 => exact (Kd.V_reads' HO_226001.out).2.1); (case side3 => repeat (first | exact (Kd.V_reads' HO_2.out).2.2 | (with_reducible refine Kd.C_alloc ?_ _) | (with_reducible refine Kd.C_drewN ?_ _) | (with_reducible refine Kd.C_drew ?_))); (case side4 => exact (Kd.V_reads' HO_2.out).2.1); (case side5 => repeat (first | exact (Kd.V_reads' HO_3.out).2.2 | (with_reducible refine Kd.C_alloc ?_ _) | (with_reducible refine Kd.C_drewN ?_ _) | (with_reducible refine Kd.C_drew ?_))); (case side6 => exact (Kd.V_reads' HO_3.out).2.1); rintro e w76 ⟨v273, rfl, ho0, hb⟩; have n0_ := Aside0.mk (Kd.V_below (by (with_reducible repeat (first | apply Kd.V_alloc | apply Kd.V_drewN | apply Kd.V_drew)); exact HO_2.out) hb); have n1_ := Aside0.mk (Kd.V_below (by (with_reducible repeat (first | apply Kd.V_alloc | apply Kd.V_drewN | apply Kd.V_drew)); exact HO_3.out) hb); have n2_ := Aside0.mk (Kd.R_below (by (with_reducible repeat (first | apply Kd.R_alloc | apply Kd.R_drewN | apply Kd.R_drew)); exact HO_11.out) hb); have n3_ := Aside0.mk (Kd.V_below (by (with_reducible repeat (first | apply Kd.V_alloc | apply Kd.V_drewN | apply Kd.V_drew)); exact HO_226001.out) hb); have n4_ := Aside0.mk (Kd.V_lower (Kd.V_mono (ok' := fun k_ => ((P0_1_ k_ ∨ P2_ k_ ∨ P3_ k_) ∨ w.heap.size ≤ k_) ∧ some k_ ≠ (u11 : Value).ownBlock ∧ k_ ≠ gb225) ho0 (fun k_ hk_ => ⟨(.inr (Nat.le_trans (below_size (by repeat (first | (with_reducible first | exact HB.out | apply below_alloc | apply pw_below_drewN | apply below_drew1 | refine below_set ?_ GE225.out) | exact HB.out))) hk_)), (Kd.fresh' (Kd.R_lt (by (with_reducible repeat (first | apply Kd.R_alloc | apply Kd.R_drewN | apply Kd.R_drew)); exact HO_11.out)) k_ hk_), (Kd.freshB (g := gb225) (o := .cells #[.int .i64 a0_0, .slice Ao12 t226.length co12] 30 (0, 0)) (by (with_reducible repeat (first | refine blk_drewN ?_ _ | refine blk_drew ?_ | refine blk_alloc ?_ _)); exact BK225.out) k_ hk_)⟩)) (below_size (by repeat (first | (with_reducible first | exact HB.out | apply below_alloc | apply pw_below_drewN | apply below_drew1 | refine below_set ?_ GE225.out) | exact HB.out)))); have n5_ := Aside0.mk (blk_below (g := gb225) (o := .cells #[.int .i64 a0_0, .slice Ao12 t226.length co12] 30 (0, 0)) (by (with_reducible repeat (first | refine blk_drewN ?_ _ | refine blk_drew ?_ | refine blk_alloc ?_ _)); exact BK225.out) hb); have n6_ := Aside0.mk (below_step (by repeat (first | (with_reducible first | exact HB.out | apply below_alloc | apply pw_below_drewN | apply below_drew1 | refine below_set ?_ GE225.out) | exact HB.out)) hb); clear HO_2; clear HO_3; clear HO_11; clear HO_226001; clear BK225; clear HB; have HO_2 := n0_; have HO_3 := n1_; have HO_11 := n2_; have HO_226001 := n3_; have HO274 := n4_; have BK225 := n5_; have HB := n6_; clear n0_ n1_ n2_ n3_ n4_ n5_ n6_; (try clear hb); (try clear hb2); (try clear hk); (try clear hi); (try clear ho0))))
                                    (try simp only [Act.put, List.setIfInBounds_toArray, List.set_cons_zero, List.set_cons_succ])
                                    go_cut [144] (fun v144 wc => ∃ (kq : Nat) (x144_72 : Bool), v144 = .bool x144_72 ∧ Aside0 (deadeyelaw17_PlanMembers.j6 kq a1 x11_5 t272 t275 x144_72 = some r) ∧ Aside0 (kq ≤ k6) ∧ Aside0 (Kd.R (Kd.int .i64) 3 wc w.heap.size (fun k_ => (w.heap.size ≤ k_)) u11 x11_5) ∧ Aside0 (Kd.V (Kd.int .i64) 3 wc w.heap.size (fun k_ => ((P0_1_ k_ ∨ P2_ k_ ∨ P3_ k_) ∨ w.heap.size ≤ k_) ∧ some k_ ≠ (u11 : Value).ownBlock ∧ k_ ≠ gb225) v273 t272) ∧ Aside0 (Kd.V (Kd.int .i64) 3 wc w.heap.size (fun k_ => ((P0_1_ k_ ∨ P2_ k_ ∨ P3_ k_) ∨ w.heap.size ≤ k_) ∧ some k_ ≠ (u11 : Value).ownBlock ∧ k_ ≠ gb225) (.slice Ao12 t226.length co12) t226) ∧ Aside0 (wc.heap[gb225]? = some (.cells #[.int .i64 a0_0, (.slice Ao12 t226.length co12)] 30 (0, 0))) ∧ Aside0 (Below w.heap.size w wc))
                                    case first =>
                                      have H := HC73.out
                                      clear HC73
                                      by_cases c77 : a1 < 0
                                      · rw [if_pos c77] at H
                                        have c77b0 : decide (a1 < 0) = true := decide_eq_true c77
                                        clear c77
                                        (first | rw [c77b0] | (simp only [i64_w, i32_w]; rw [c77b0]) | skip)
                                        have H' := Aside0.mk H
                                        clear H
                                        go_wp2
                                        repeat (go_quiet (fail); try go_wp2)
                                        go_meet
                                        case rel => exact ⟨_, (true), (by first | rfl | (simp; done) | (simp [*]; done)), H', ⟨by have := HJ6.out; have := HK2.out; have := HK3.out; have := HK4.out; have := HK5.out; have := HK6.out; first | omega | exact Nat.le_refl _⟩, ⟨by (with_reducible repeat (first | apply Kd.R_alloc | apply Kd.R_drewN | apply Kd.R_drew)); exact HO_11.out⟩, ⟨by (with_reducible repeat (first | apply Kd.V_alloc | apply Kd.V_drewN | apply Kd.V_drew)); exact HO274.out⟩, ⟨by (with_reducible repeat (first | apply Kd.V_alloc | apply Kd.V_drewN | apply Kd.V_drew)); exact HO_226001.out⟩, ⟨by (with_reducible repeat (first | refine blk_drewN ?_ _ | refine blk_drew ?_ | refine blk_alloc ?_ _)); exact BK225.out⟩, ⟨by repeat (first | (with_reducible first | exact HB.out | apply below_alloc | apply pw_below_drewN | apply below_drew1 | refine below_set ?_ GE225.out) | exact HB.out)⟩⟩
                                      · rw [if_neg c77] at H
                                        have c77b0 : decide (a1 < 0) = false := decide_eq_false c77
                                        clear c77
                                        (first | rw [c77b0] | (simp only [i64_w, i32_w]; rw [c77b0]) | skip)
                                        have H' := Aside0.mk H
                                        clear H
                                        obtain ⟨Ao78, co78, eo78⟩ := Kd.R_slice HO_11.out
                                        subst eo78
                                        go_wp2
                                        repeat (go_quiet (fail); try go_wp2)
                                        go_meet
                                        case rel => exact ⟨_, (decide (a1 > (x11_5.length : Int))), (by first | rfl | (simp; done) | (simp [*]; done)), H', ⟨by have := HJ6.out; have := HK2.out; have := HK3.out; have := HK4.out; have := HK5.out; have := HK6.out; first | omega | exact Nat.le_refl _⟩, ⟨by (with_reducible repeat (first | apply Kd.R_alloc | apply Kd.R_drewN | apply Kd.R_drew)); exact HO_11.out⟩, ⟨by (with_reducible repeat (first | apply Kd.V_alloc | apply Kd.V_drewN | apply Kd.V_drew)); exact HO274.out⟩, ⟨by (with_reducible repeat (first | apply Kd.V_alloc | apply Kd.V_drewN | apply Kd.V_drew)); exact HO_226001.out⟩, ⟨by (with_reducible repeat (first | refine blk_drewN ?_ _ | refine blk_drew ?_ | refine blk_alloc ?_ _)); exact BK225.out⟩, ⟨by repeat (first | (with_reducible first | exact HB.out | apply below_alloc | apply pw_below_drewN | apply below_drew1 | refine below_set ?_ GE225.out) | exact HB.out)⟩⟩
                                    case rest =>
                                      clear HC73
                                      try clear c1
                                      try clear q1
                                      try clear c2
                                      try clear p2
                                      try clear q2
                                      try clear hx2
                                      try clear c3
                                      try clear q3
                                      try clear c4
                                      try clear q4
                                      try clear c5
                                      try clear c6
                                      try clear p6
                                      try clear c7
                                      try clear c15
                                      try clear c15b0
                                      try clear c15b1
                                      try clear c16
                                      try clear c16b0
                                      try clear c16b1
                                      try clear q17
                                      try clear c18
                                      try clear c18b0
                                      try clear c19
                                      try clear c19b0
                                      try clear c19b1
                                      try clear c20
                                      try clear c20b0
                                      try clear c20b1
                                      try clear c22
                                      try clear p24
                                      try clear q24
                                      try clear hx24
                                      try clear p25
                                      try clear q25
                                      try clear hx25
                                      try clear p26
                                      try clear q26
                                      try clear hx26
                                      try clear q28
                                      try clear c30
                                      try clear c30b0
                                      try clear c31
                                      try clear c31b0
                                      try clear c31b1
                                      try clear c32
                                      try clear c32b0
                                      try clear c32b1
                                      try clear c34
                                      try clear q37
                                      try clear q40
                                      try clear c44
                                      try clear c44b0
                                      try clear c45
                                      try clear c45b0
                                      try clear c47
                                      try clear c49
                                      try clear c50
                                      try clear c59
                                      try clear c59b0
                                      try clear c60
                                      try clear c60b0
                                      try clear c62
                                      try clear c64
                                      try clear p64
                                      try clear c65
                                      try clear c65b0
                                      try clear c69
                                      try clear c70
                                      try clear c77
                                      try clear c77b0
                                      try clear hcz13_0
                                      try clear hcz13_1
                                      try clear hcz36_0
                                      try clear hcz36_1
                                      try clear hcz39_0
                                      try clear hcz39_1
                                      try clear hcz41_0
                                      try clear hcz41_1
                                      try clear hcz51_0
                                      try clear hcz51_1
                                      try clear hcz54_0
                                      try clear hcz54_1
                                      try clear hcz56_0
                                      try clear hcz56_1
                                      try clear hcz58_0
                                      try clear hcz58_1
                                      try clear hcz74_0
                                      try clear hcz74_1
                                      try clear hcz9_0
                                      try clear hcz9_1
                                      try clear hfz13_0
                                      try clear hfz13_1
                                      try clear hfz36_0
                                      try clear hfz36_1
                                      try clear hfz39_0
                                      try clear hfz39_1
                                      try clear hfz41_0
                                      try clear hfz41_1
                                      try clear hfz51_0
                                      try clear hfz51_1
                                      try clear hfz54_0
                                      try clear hfz54_1
                                      try clear hfz56_0
                                      try clear hfz56_1
                                      try clear hfz58_0
                                      try clear hfz58_1
                                      try clear hfz74_0
                                      try clear hfz74_1
                                      try clear hfz9_0
                                      try clear hfz9_1
                                      try clear hx242_0
                                      try clear hx250_0
                                      try clear hx256_0
                                      try clear hx258_0
                                      try clear hx260_0
                                      try clear hx264_0
                                      try clear hx266_0
                                      try clear hx267_0
                                      try clear hx268_0
                                      try clear p2
                                      try clear p24
                                      try clear p242
                                      try clear p25
                                      try clear p250
                                      try clear p256
                                      try clear p258
                                      try clear p26
                                      try clear p260
                                      try clear p264
                                      try clear p266
                                      try clear p267
                                      try clear p268
                                      try clear p6
                                      try clear q1
                                      try clear q17
                                      try clear q2
                                      try clear q24
                                      try clear q242
                                      try clear q25
                                      try clear q250
                                      try clear q256
                                      try clear q258
                                      try clear q26
                                      try clear q260
                                      try clear q264
                                      try clear q266
                                      try clear q267
                                      try clear q268
                                      try clear q28
                                      try clear q3
                                      try clear q37
                                      try clear q4
                                      try clear q40
                                      obtain ⟨kq, x144_72, rfl, HA, HJ72, HO_11, HO_16, HO_226001, BK225, HB⟩ := hcut
                                      cases kq with
                                      | zero => exact absurd HA.out (by simp [deadeyelaw17_PlanMembers.j6])
                                      | succ kj72 =>
                                        have H := HA.out
                                        clear HA
                                        simp only [deadeyelaw17_PlanMembers.j6] at H
                                        by_cases c79 : x144_72 = true
                                        · subst c79
                                          have H1 : ((deadeyelaw17_awake.f kj72).bind fun t276 => (if t276 = true then (if t275 = true then (some false) else (some ((t272.length : Int) == 0))) else (some false))) = some r := by rw [if_pos rfl] at H; exact H
                                          clear H
                                          have H := H1
                                          clear H1
                                          replace H := Option.bind_eq_some_iff.mp H
                                          obtain ⟨t276, A800, H⟩ := H
                                          replace H : (if t276 = true then (if t275 = true then (some false) else (some ((t272.length : Int) == 0))) else (some false)) = some r := H
                                          have A80 := Aside0.mk A800
                                          clear A800
                                          by_cases c81 : t276 = true
                                          · subst c81
                                            have H1 : (if t275 = true then (some false) else (some ((t272.length : Int) == 0))) = some r := by rw [if_pos rfl] at H; exact H
                                            clear H
                                            have H := H1
                                            clear H1
                                            by_cases c82 : t275 = true
                                            · subst c82
                                              have H1 : (some false) = some r := by rw [if_pos rfl] at H; exact H
                                              clear H
                                              have H := H1
                                              clear H1
                                              obtain rfl := Option.some.inj H
                                              go_wp2_with (first | (go_at_call 12; (with_reducible refine (deadeyelaw17_awake.calls kj72  true _ A80.out).mono ?_); rintro e w83 ⟨rfl, hb⟩; have n0_ := Aside0.mk (Kd.R_below (by (with_reducible repeat (first | apply Kd.R_alloc | apply Kd.R_drewN | apply Kd.R_drew)); exact HO_11.out) hb); have n1_ := Aside0.mk (Kd.V_below (by (with_reducible repeat (first | apply Kd.V_alloc | apply Kd.V_drewN | apply Kd.V_drew)); exact HO_16.out) hb); have n2_ := Aside0.mk (Kd.V_below (by (with_reducible repeat (first | apply Kd.V_alloc | apply Kd.V_drewN | apply Kd.V_drew)); exact HO_226001.out) hb); have n3_ := Aside0.mk (blk_below (g := gb225) (o := .cells #[.int .i64 a0_0, .slice Ao12 t226.length co12] 30 (0, 0)) (by (with_reducible repeat (first | refine blk_drewN ?_ _ | refine blk_drew ?_ | refine blk_alloc ?_ _)); exact BK225.out) hb); have n4_ := Aside0.mk (below_step (by repeat (first | (with_reducible first | exact HB.out | apply below_alloc | apply pw_below_drewN | apply below_drew1 | refine below_set ?_ GE225.out) | exact HB.out)) hb); clear HO_11; clear HO_16; clear HO_226001; clear BK225; clear HB; have HO_11 := n0_; have HO_16 := n1_; have HO_226001 := n2_; have BK225 := n3_; have HB := n4_; clear n0_ n1_ n2_ n3_ n4_; (try clear hb); (try clear hb2); (try clear hk); (try clear hi)))
                                              repeat (go_quiet (first | (go_at_call 12; (with_reducible refine (deadeyelaw17_awake.calls kj72  true _ A80.out).mono ?_); rintro e w83 ⟨rfl, hb⟩; have n0_ := Aside0.mk (Kd.R_below (by (with_reducible repeat (first | apply Kd.R_alloc | apply Kd.R_drewN | apply Kd.R_drew)); exact HO_11.out) hb); have n1_ := Aside0.mk (Kd.V_below (by (with_reducible repeat (first | apply Kd.V_alloc | apply Kd.V_drewN | apply Kd.V_drew)); exact HO_16.out) hb); have n2_ := Aside0.mk (Kd.V_below (by (with_reducible repeat (first | apply Kd.V_alloc | apply Kd.V_drewN | apply Kd.V_drew)); exact HO_226001.out) hb); have n3_ := Aside0.mk (blk_below (g := gb225) (o := .cells #[.int .i64 a0_0, .slice Ao12 t226.length co12] 30 (0, 0)) (by (with_reducible repeat (first | refine blk_drewN ?_ _ | refine blk_drew ?_ | refine blk_alloc ?_ _)); exact BK225.out) hb); have n4_ := Aside0.mk (below_step (by repeat (first | (with_reducible first | exact HB.out | apply below_alloc | apply pw_below_drewN | apply below_drew1 | refine below_set ?_ GE225.out) | exact HB.out)) hb); clear HO_11; clear HO_16; clear HO_226001; clear BK225; clear HB; have HO_11 := n0_; have HO_16 := n1_; have HO_226001 := n2_; have BK225 := n3_; have HB := n4_; clear n0_ n1_ n2_ n3_ n4_; (try clear hb); (try clear hb2); (try clear hk); (try clear hi))); try go_wp2_with (first | (go_at_call 12; (with_reducible refine (deadeyelaw17_awake.calls kj72  true _ A80.out).mono ?_); rintro e w83 ⟨rfl, hb⟩; have n0_ := Aside0.mk (Kd.R_below (by (with_reducible repeat (first | apply Kd.R_alloc | apply Kd.R_drewN | apply Kd.R_drew)); exact HO_11.out) hb); have n1_ := Aside0.mk (Kd.V_below (by (with_reducible repeat (first | apply Kd.V_alloc | apply Kd.V_drewN | apply Kd.V_drew)); exact HO_16.out) hb); have n2_ := Aside0.mk (Kd.V_below (by (with_reducible repeat (first | apply Kd.V_alloc | apply Kd.V_drewN | apply Kd.V_drew)); exact HO_226001.out) hb); have n3_ := Aside0.mk (blk_below (g := gb225) (o := .cells #[.int .i64 a0_0, .slice Ao12 t226.length co12] 30 (0, 0)) (by (with_reducible repeat (first | refine blk_drewN ?_ _ | refine blk_drew ?_ | refine blk_alloc ?_ _)); exact BK225.out) hb); have n4_ := Aside0.mk (below_step (by repeat (first | (with_reducible first | exact HB.out | apply below_alloc | apply pw_below_drewN | apply below_drew1 | refine below_set ?_ GE225.out) | exact HB.out)) hb); clear HO_11; clear HO_16; clear HO_226001; clear BK225; clear HB; have HO_11 := n0_; have HO_16 := n1_; have HO_226001 := n2_; have BK225 := n3_; have HB := n4_; clear n0_ n1_ n2_ n3_ n4_; (try clear hb); (try clear hb2); (try clear hk); (try clear hi))))
                                              go_ret
                                              exact ⟨by first | rfl | (simp [errW_none, errW_some] <;> rfl) | (simp [*, errW_none, errW_some] <;> rfl), by repeat (first | (with_reducible first | exact HB.out | apply below_alloc | apply pw_below_drewN | apply below_drew1 | refine below_set ?_ GE225.out) | exact HB.out)⟩
                                            · replace c82 := Bool.eq_false_iff.mpr c82
                                              subst c82
                                              have H1 : (some ((t272.length : Int) == 0)) = some r := by rw [if_neg (show ¬ (false = true) by decide)] at H; exact H
                                              clear H
                                              have H := H1
                                              clear H1
                                              obtain rfl := Option.some.inj H
                                              go_wp2_with (first | (go_at_call 12; (with_reducible refine (deadeyelaw17_awake.calls kj72  true _ A80.out).mono ?_); rintro e w84 ⟨rfl, hb⟩; have n0_ := Aside0.mk (Kd.R_below (by (with_reducible repeat (first | apply Kd.R_alloc | apply Kd.R_drewN | apply Kd.R_drew)); exact HO_11.out) hb); have n1_ := Aside0.mk (Kd.V_below (by (with_reducible repeat (first | apply Kd.V_alloc | apply Kd.V_drewN | apply Kd.V_drew)); exact HO_16.out) hb); have n2_ := Aside0.mk (Kd.V_below (by (with_reducible repeat (first | apply Kd.V_alloc | apply Kd.V_drewN | apply Kd.V_drew)); exact HO_226001.out) hb); have n3_ := Aside0.mk (blk_below (g := gb225) (o := .cells #[.int .i64 a0_0, .slice Ao12 t226.length co12] 30 (0, 0)) (by (with_reducible repeat (first | refine blk_drewN ?_ _ | refine blk_drew ?_ | refine blk_alloc ?_ _)); exact BK225.out) hb); have n4_ := Aside0.mk (below_step (by repeat (first | (with_reducible first | exact HB.out | apply below_alloc | apply pw_below_drewN | apply below_drew1 | refine below_set ?_ GE225.out) | exact HB.out)) hb); clear HO_11; clear HO_16; clear HO_226001; clear BK225; clear HB; have HO_11 := n0_; have HO_16 := n1_; have HO_226001 := n2_; have BK225 := n3_; have HB := n4_; clear n0_ n1_ n2_ n3_ n4_; (try clear hb); (try clear hb2); (try clear hk); (try clear hi); obtain ⟨Ao85, co85, eo85⟩ := Kd.V_slice HO_16.out; subst eo85))
                                              repeat (go_quiet (first | (go_at_call 12; (with_reducible refine (deadeyelaw17_awake.calls kj72  true _ A80.out).mono ?_); rintro e w84 ⟨rfl, hb⟩; have n0_ := Aside0.mk (Kd.R_below (by (with_reducible repeat (first | apply Kd.R_alloc | apply Kd.R_drewN | apply Kd.R_drew)); exact HO_11.out) hb); have n1_ := Aside0.mk (Kd.V_below (by (with_reducible repeat (first | apply Kd.V_alloc | apply Kd.V_drewN | apply Kd.V_drew)); exact HO_16.out) hb); have n2_ := Aside0.mk (Kd.V_below (by (with_reducible repeat (first | apply Kd.V_alloc | apply Kd.V_drewN | apply Kd.V_drew)); exact HO_226001.out) hb); have n3_ := Aside0.mk (blk_below (g := gb225) (o := .cells #[.int .i64 a0_0, .slice Ao12 t226.length co12] 30 (0, 0)) (by (with_reducible repeat (first | refine blk_drewN ?_ _ | refine blk_drew ?_ | refine blk_alloc ?_ _)); exact BK225.out) hb); have n4_ := Aside0.mk (below_step (by repeat (first | (with_reducible first | exact HB.out | apply below_alloc | apply pw_below_drewN | apply below_drew1 | refine below_set ?_ GE225.out) | exact HB.out)) hb); clear HO_11; clear HO_16; clear HO_226001; clear BK225; clear HB; have HO_11 := n0_; have HO_16 := n1_; have HO_226001 := n2_; have BK225 := n3_; have HB := n4_; clear n0_ n1_ n2_ n3_ n4_; (try clear hb); (try clear hb2); (try clear hk); (try clear hi); obtain ⟨Ao85, co85, eo85⟩ := Kd.V_slice HO_16.out; subst eo85)); try go_wp2_with (first | (go_at_call 12; (with_reducible refine (deadeyelaw17_awake.calls kj72  true _ A80.out).mono ?_); rintro e w84 ⟨rfl, hb⟩; have n0_ := Aside0.mk (Kd.R_below (by (with_reducible repeat (first | apply Kd.R_alloc | apply Kd.R_drewN | apply Kd.R_drew)); exact HO_11.out) hb); have n1_ := Aside0.mk (Kd.V_below (by (with_reducible repeat (first | apply Kd.V_alloc | apply Kd.V_drewN | apply Kd.V_drew)); exact HO_16.out) hb); have n2_ := Aside0.mk (Kd.V_below (by (with_reducible repeat (first | apply Kd.V_alloc | apply Kd.V_drewN | apply Kd.V_drew)); exact HO_226001.out) hb); have n3_ := Aside0.mk (blk_below (g := gb225) (o := .cells #[.int .i64 a0_0, .slice Ao12 t226.length co12] 30 (0, 0)) (by (with_reducible repeat (first | refine blk_drewN ?_ _ | refine blk_drew ?_ | refine blk_alloc ?_ _)); exact BK225.out) hb); have n4_ := Aside0.mk (below_step (by repeat (first | (with_reducible first | exact HB.out | apply below_alloc | apply pw_below_drewN | apply below_drew1 | refine below_set ?_ GE225.out) | exact HB.out)) hb); clear HO_11; clear HO_16; clear HO_226001; clear BK225; clear HB; have HO_11 := n0_; have HO_16 := n1_; have HO_226001 := n2_; have BK225 := n3_; have HB := n4_; clear n0_ n1_ n2_ n3_ n4_; (try clear hb); (try clear hb2); (try clear hk); (try clear hi); obtain ⟨Ao85, co85, eo85⟩ := Kd.V_slice HO_16.out; subst eo85)))
                                              go_ret
                                              exact ⟨by first | rfl | (simp [errW_none, errW_some] <;> rfl) | (simp [*, errW_none, errW_some] <;> rfl), by repeat (first | (with_reducible first | exact HB.out | apply below_alloc | apply pw_below_drewN | apply below_drew1 | refine below_set ?_ GE225.out) | exact HB.out)⟩
                                          · replace c81 := Bool.eq_false_iff.mpr c81
                                            subst c81
                                            have H1 : (some false) = some r := by rw [if_neg (show ¬ (false = true) by decide)] at H; exact H
                                            clear H
                                            have H := H1
                                            clear H1
                                            obtain rfl := Option.some.inj H
                                            go_wp2_with (first | (go_at_call 12; (with_reducible refine (deadeyelaw17_awake.calls kj72  false _ A80.out).mono ?_); rintro e w86 ⟨rfl, hb⟩; have n0_ := Aside0.mk (Kd.R_below (by (with_reducible repeat (first | apply Kd.R_alloc | apply Kd.R_drewN | apply Kd.R_drew)); exact HO_11.out) hb); have n1_ := Aside0.mk (Kd.V_below (by (with_reducible repeat (first | apply Kd.V_alloc | apply Kd.V_drewN | apply Kd.V_drew)); exact HO_16.out) hb); have n2_ := Aside0.mk (Kd.V_below (by (with_reducible repeat (first | apply Kd.V_alloc | apply Kd.V_drewN | apply Kd.V_drew)); exact HO_226001.out) hb); have n3_ := Aside0.mk (blk_below (g := gb225) (o := .cells #[.int .i64 a0_0, .slice Ao12 t226.length co12] 30 (0, 0)) (by (with_reducible repeat (first | refine blk_drewN ?_ _ | refine blk_drew ?_ | refine blk_alloc ?_ _)); exact BK225.out) hb); have n4_ := Aside0.mk (below_step (by repeat (first | (with_reducible first | exact HB.out | apply below_alloc | apply pw_below_drewN | apply below_drew1 | refine below_set ?_ GE225.out) | exact HB.out)) hb); clear HO_11; clear HO_16; clear HO_226001; clear BK225; clear HB; have HO_11 := n0_; have HO_16 := n1_; have HO_226001 := n2_; have BK225 := n3_; have HB := n4_; clear n0_ n1_ n2_ n3_ n4_; (try clear hb); (try clear hb2); (try clear hk); (try clear hi)))
                                            repeat (go_quiet (first | (go_at_call 12; (with_reducible refine (deadeyelaw17_awake.calls kj72  false _ A80.out).mono ?_); rintro e w86 ⟨rfl, hb⟩; have n0_ := Aside0.mk (Kd.R_below (by (with_reducible repeat (first | apply Kd.R_alloc | apply Kd.R_drewN | apply Kd.R_drew)); exact HO_11.out) hb); have n1_ := Aside0.mk (Kd.V_below (by (with_reducible repeat (first | apply Kd.V_alloc | apply Kd.V_drewN | apply Kd.V_drew)); exact HO_16.out) hb); have n2_ := Aside0.mk (Kd.V_below (by (with_reducible repeat (first | apply Kd.V_alloc | apply Kd.V_drewN | apply Kd.V_drew)); exact HO_226001.out) hb); have n3_ := Aside0.mk (blk_below (g := gb225) (o := .cells #[.int .i64 a0_0, .slice Ao12 t226.length co12] 30 (0, 0)) (by (with_reducible repeat (first | refine blk_drewN ?_ _ | refine blk_drew ?_ | refine blk_alloc ?_ _)); exact BK225.out) hb); have n4_ := Aside0.mk (below_step (by repeat (first | (with_reducible first | exact HB.out | apply below_alloc | apply pw_below_drewN | apply below_drew1 | refine below_set ?_ GE225.out) | exact HB.out)) hb); clear HO_11; clear HO_16; clear HO_226001; clear BK225; clear HB; have HO_11 := n0_; have HO_16 := n1_; have HO_226001 := n2_; have BK225 := n3_; have HB := n4_; clear n0_ n1_ n2_ n3_ n4_; (try clear hb); (try clear hb2); (try clear hk); (try clear hi))); try go_wp2_with (first | (go_at_call 12; (with_reducible refine (deadeyelaw17_awake.calls kj72  false _ A80.out).mono ?_); rintro e w86 ⟨rfl, hb⟩; have n0_ := Aside0.mk (Kd.R_below (by (with_reducible repeat (first | apply Kd.R_alloc | apply Kd.R_drewN | apply Kd.R_drew)); exact HO_11.out) hb); have n1_ := Aside0.mk (Kd.V_below (by (with_reducible repeat (first | apply Kd.V_alloc | apply Kd.V_drewN | apply Kd.V_drew)); exact HO_16.out) hb); have n2_ := Aside0.mk (Kd.V_below (by (with_reducible repeat (first | apply Kd.V_alloc | apply Kd.V_drewN | apply Kd.V_drew)); exact HO_226001.out) hb); have n3_ := Aside0.mk (blk_below (g := gb225) (o := .cells #[.int .i64 a0_0, .slice Ao12 t226.length co12] 30 (0, 0)) (by (with_reducible repeat (first | refine blk_drewN ?_ _ | refine blk_drew ?_ | refine blk_alloc ?_ _)); exact BK225.out) hb); have n4_ := Aside0.mk (below_step (by repeat (first | (with_reducible first | exact HB.out | apply below_alloc | apply pw_below_drewN | apply below_drew1 | refine below_set ?_ GE225.out) | exact HB.out)) hb); clear HO_11; clear HO_16; clear HO_226001; clear BK225; clear HB; have HO_11 := n0_; have HO_16 := n1_; have HO_226001 := n2_; have BK225 := n3_; have HB := n4_; clear n0_ n1_ n2_ n3_ n4_; (try clear hb); (try clear hb2); (try clear hk); (try clear hi))))
                                            go_ret
                                            exact ⟨by first | rfl | (simp [errW_none, errW_some] <;> rfl) | (simp [*, errW_none, errW_some] <;> rfl), by repeat (first | (with_reducible first | exact HB.out | apply below_alloc | apply pw_below_drewN | apply below_drew1 | refine below_set ?_ GE225.out) | exact HB.out)⟩
                                        · replace c79 := Bool.eq_false_iff.mpr c79
                                          subst c79
                                          have H1 : ((deadeyelaw17_awake.f kj72).bind fun t277 => (if t277 = true then (if t275 = true then (if 0 ≤ a1 then (if a1 ≤ (x11_5.length : Int) then ((deadeyeref07_Ints.f kj72 t272 (x11_5.take (a1 : Int).toNat)).bind fun t282 => (some t282)) else (none)) else (none)) else (some false)) else (some false))) = some r := by rw [if_neg (show ¬ (false = true) by decide)] at H; exact H
                                          clear H
                                          have H := H1
                                          clear H1
                                          replace H := Option.bind_eq_some_iff.mp H
                                          obtain ⟨t277, A870, H⟩ := H
                                          replace H : (if t277 = true then (if t275 = true then (if 0 ≤ a1 then (if a1 ≤ (x11_5.length : Int) then ((deadeyeref07_Ints.f kj72 t272 (x11_5.take (a1 : Int).toNat)).bind fun t282 => (some t282)) else (none)) else (none)) else (some false)) else (some false)) = some r := H
                                          have A87 := Aside0.mk A870
                                          clear A870
                                          by_cases c88 : t277 = true
                                          · subst c88
                                            have H1 : (if t275 = true then (if 0 ≤ a1 then (if a1 ≤ (x11_5.length : Int) then ((deadeyeref07_Ints.f kj72 t272 (x11_5.take (a1 : Int).toNat)).bind fun t282 => (some t282)) else (none)) else (none)) else (some false)) = some r := by rw [if_pos rfl] at H; exact H
                                            clear H
                                            have H := H1
                                            clear H1
                                            by_cases c89 : t275 = true
                                            · subst c89
                                              have H1 : (if 0 ≤ a1 then (if a1 ≤ (x11_5.length : Int) then ((deadeyeref07_Ints.f kj72 t272 (x11_5.take (a1 : Int).toNat)).bind fun t282 => (some t282)) else (none)) else (none)) = some r := by rw [if_pos rfl] at H; exact H
                                              clear H
                                              have H := H1
                                              clear H1
                                              by_cases c90 : 0 ≤ a1
                                              · rw [if_pos c90] at H
                                                have c90b0 := eq_true c90
                                                have c90b1 : decide (0 ≤ a1) = true := decide_eq_true c90
                                                clear c90
                                                by_cases c91 : a1 ≤ (x11_5.length : Int)
                                                · rw [if_pos c91] at H
                                                  have c91b0 := eq_true c91
                                                  have c91b1 : decide (a1 ≤ (x11_5.length : Int)) = true := decide_eq_true c91
                                                  clear c91
                                                  obtain ⟨y278, hy278⟩ : ∃ y_ : List Int, y_ = (x11_5.take (a1 : Int).toNat) := ⟨_, rfl⟩
                                                  replace H : ((deadeyeref07_Ints.f kj72 t272 y278).bind fun t282 => (some t282)) = some r := by first | (rw [hy278]; with_reducible exact H) | (have H2_ := (Option.bind_some _ _).symm.trans H; rw [hy278]; with_reducible exact H2_) | (have H2_ := (Option.bind_some _ _).symm.trans H; with_reducible exact H2_) | with_reducible exact H | (rw [hy278]; exact H) | exact H
                                                  have Ny278 := Aside0.mk hy278
                                                  clear hy278
                                                  replace H := Option.bind_eq_some_iff.mp H
                                                  obtain ⟨t282, A920, H⟩ := H
                                                  replace H : (some t282) = some r := H
                                                  have A92 := Aside0.mk A920
                                                  clear A920
                                                  obtain rfl := Option.some.inj H
                                                  go_wp2_with (first | (go_at_call 12; (with_reducible refine (deadeyelaw17_awake.calls kj72  true _ A87.out).mono ?_); rintro e w93 ⟨rfl, hb⟩; have n0_ := Aside0.mk (Kd.R_below (by (with_reducible repeat (first | apply Kd.R_alloc | apply Kd.R_drewN | apply Kd.R_drew)); exact HO_11.out) hb); have n1_ := Aside0.mk (Kd.V_below (by (with_reducible repeat (first | apply Kd.V_alloc | apply Kd.V_drewN | apply Kd.V_drew)); exact HO_16.out) hb); have n2_ := Aside0.mk (Kd.V_below (by (with_reducible repeat (first | apply Kd.V_alloc | apply Kd.V_drewN | apply Kd.V_drew)); exact HO_226001.out) hb); have n3_ := Aside0.mk (blk_below (g := gb225) (o := .cells #[.int .i64 a0_0, .slice Ao12 t226.length co12] 30 (0, 0)) (by (with_reducible repeat (first | refine blk_drewN ?_ _ | refine blk_drew ?_ | refine blk_alloc ?_ _)); exact BK225.out) hb); have n4_ := Aside0.mk (below_step (by repeat (first | (with_reducible first | exact HB.out | apply below_alloc | apply pw_below_drewN | apply below_drew1 | refine below_set ?_ GE225.out) | exact HB.out)) hb); clear HO_11; clear HO_16; clear HO_226001; clear BK225; clear HB; have HO_11 := n0_; have HO_16 := n1_; have HO_226001 := n2_; have BK225 := n3_; have HB := n4_; clear n0_ n1_ n2_ n3_ n4_; (try clear hb); (try clear hb2); (try clear hk); (try clear hi); obtain ⟨Ao95, co95, eo95⟩ := Kd.R_slice HO_11.out; subst eo95; have q94 : (a1 : Int) ≤ ((x11_5.length : Int) : Int) := of_decide_eq_true (by first | (with_reducible assumption) | assumption); obtain ⟨i094, hi094, _, hsz94, _⟩ := info_parts info3; have hroom94 : x11_5.length ≤ co95 := (Kd.R_reads' HO_11.out).2.1; have hC94 : Kd.C (Kd.int .i64) _ Ao95 x11_5.length x11_5 := (Kd.R_reads' HO_11.out).2.2; have hcut94 := cut_to (P := Try.prog) 28 3 .i64 Try.underlying28 hi094 Ao95 x11_5.length co95 a1 (of_decide_eq_true (by first | (with_reducible assumption) | assumption)) q94 hroom94; have hr94 := Kd.C_take (m := (a1 : Int).toNat) hC94 (by omega); have hy94 : y278.length = (a1 : Int).toNat := (by rw [Ny278.out, List.length_take]; omega); rw [← Ny278.out] at hr94; rw [← hy94] at hcut94; have HR281 := Aside0.mk hr94; have HC281 := Aside0.mk (show y278.length ≤ co95 from by omega); clear hr94 hC94 hroom94 hi094 hsz94; have KY94 := Aside0.mk hy94; clear hy94; have KL94 := Aside0.mk (show (a1 : Int).toNat ≤ x11_5.length from by omega); replace q94 := eq_true q94; obtain ⟨Ao96, co96, eo96⟩ := Kd.V_slice HO_16.out; subst eo96) | (go_at_call 21; (with_reducible refine (deadeyeref07_Ints.calls kj72 _ _ t272 _ _ y278 t282 _ ?side1 ?side2 ?side3 ?side4 A92.out).mono ?_); (case side1 => repeat (first | exact (Kd.V_reads' HO_16.out).2.2 | (with_reducible refine Kd.C_alloc ?_ _) | (with_reducible refine Kd.C_drewN ?_ _) | (with_reducible refine Kd.C_drew ?_))); (case side2 => exact (Kd.V_reads' HO_16.out).2.1); (case side3 => repeat (first | exact (by repeat (first | (with_reducible exact HR281.out) | (with_reducible refine Kd.C_alloc ?_ _) | (with_reducible refine Kd.C_drewN ?_ _) | (with_reducible refine Kd.C_drew ?_) | exact HR281.out)) | (with_reducible refine Kd.C_alloc ?_ _) | (with_reducible refine Kd.C_drewN ?_ _) | (with_reducible refine Kd.C_drew ?_))); (case side4 => exact HC281.out); rintro e w' ⟨rfl, ⟨nd, rfl⟩⟩; (try first | exact ⟨rfl, _, World.drewN_drewN _ _ _⟩ | exact ⟨rfl, _, Eq.trans (World.drewN_drewN _ _ _) (congrArg (World.drewN _) (Nat.add_assoc _ _ _))⟩)))
                                                  repeat (go_quiet (first | (go_at_call 12; (with_reducible refine (deadeyelaw17_awake.calls kj72  true _ A87.out).mono ?_); rintro e w93 ⟨rfl, hb⟩; have n0_ := Aside0.mk (Kd.R_below (by (with_reducible repeat (first | apply Kd.R_alloc | apply Kd.R_drewN | apply Kd.R_drew)); exact HO_11.out) hb); have n1_ := Aside0.mk (Kd.V_below (by (with_reducible repeat (first | apply Kd.V_alloc | apply Kd.V_drewN | apply Kd.V_drew)); exact HO_16.out) hb); have n2_ := Aside0.mk (Kd.V_below (by (with_reducible repeat (first | apply Kd.V_alloc | apply Kd.V_drewN | apply Kd.V_drew)); exact HO_226001.out) hb); have n3_ := Aside0.mk (blk_below (g := gb225) (o := .cells #[.int .i64 a0_0, .slice Ao12 t226.length co12] 30 (0, 0)) (by (with_reducible repeat (first | refine blk_drewN ?_ _ | refine blk_drew ?_ | refine blk_alloc ?_ _)); exact BK225.out) hb); have n4_ := Aside0.mk (below_step (by repeat (first | (with_reducible first | exact HB.out | apply below_alloc | apply pw_below_drewN | apply below_drew1 | refine below_set ?_ GE225.out) | exact HB.out)) hb); clear HO_11; clear HO_16; clear HO_226001; clear BK225; clear HB; have HO_11 := n0_; have HO_16 := n1_; have HO_226001 := n2_; have BK225 := n3_; have HB := n4_; clear n0_ n1_ n2_ n3_ n4_; (try clear hb); (try clear hb2); (try clear hk); (try clear hi); obtain ⟨Ao95, co95, eo95⟩ := Kd.R_slice HO_11.out; subst eo95; have q94 : (a1 : Int) ≤ ((x11_5.length : Int) : Int) := of_decide_eq_true (by first | (with_reducible assumption) | assumption); obtain ⟨i094, hi094, _, hsz94, _⟩ := info_parts info3; have hroom94 : x11_5.length ≤ co95 := (Kd.R_reads' HO_11.out).2.1; have hC94 : Kd.C (Kd.int .i64) _ Ao95 x11_5.length x11_5 := (Kd.R_reads' HO_11.out).2.2; have hcut94 := cut_to (P := Try.prog) 28 3 .i64 Try.underlying28 hi094 Ao95 x11_5.length co95 a1 (of_decide_eq_true (by first | (with_reducible assumption) | assumption)) q94 hroom94; have hr94 := Kd.C_take (m := (a1 : Int).toNat) hC94 (by omega); have hy94 : y278.length = (a1 : Int).toNat := (by rw [Ny278.out, List.length_take]; omega); rw [← Ny278.out] at hr94; rw [← hy94] at hcut94; have HR281 := Aside0.mk hr94; have HC281 := Aside0.mk (show y278.length ≤ co95 from by omega); clear hr94 hC94 hroom94 hi094 hsz94; have KY94 := Aside0.mk hy94; clear hy94; have KL94 := Aside0.mk (show (a1 : Int).toNat ≤ x11_5.length from by omega); replace q94 := eq_true q94; obtain ⟨Ao96, co96, eo96⟩ := Kd.V_slice HO_16.out; subst eo96) | (go_at_call 21; (with_reducible refine (deadeyeref07_Ints.calls kj72 _ _ t272 _ _ y278 t282 _ ?side1 ?side2 ?side3 ?side4 A92.out).mono ?_); (case side1 => repeat (first | exact (Kd.V_reads' HO_16.out).2.2 | (with_reducible refine Kd.C_alloc ?_ _) | (with_reducible refine Kd.C_drewN ?_ _) | (with_reducible refine Kd.C_drew ?_))); (case side2 => exact (Kd.V_reads' HO_16.out).2.1); (case side3 => repeat (first | exact (by repeat (first | (with_reducible exact HR281.out) | (with_reducible refine Kd.C_alloc ?_ _) | (with_reducible refine Kd.C_drewN ?_ _) | (with_reducible refine Kd.C_drew ?_) | exact HR281.out)) | (with_reducible refine Kd.C_alloc ?_ _) | (with_reducible refine Kd.C_drewN ?_ _) | (with_reducible refine Kd.C_drew ?_))); (case side4 => exact HC281.out); rintro e w' ⟨rfl, ⟨nd, rfl⟩⟩; (try first | exact ⟨rfl, _, World.drewN_drewN _ _ _⟩ | exact ⟨rfl, _, Eq.trans (World.drewN_drewN _ _ _) (congrArg (World.drewN _) (Nat.add_assoc _ _ _))⟩))); try go_wp2_with (first | (go_at_call 12; (with_reducible refine (deadeyelaw17_awake.calls kj72  true _ A87.out).mono ?_); rintro e w93 ⟨rfl, hb⟩; have n0_ := Aside0.mk (Kd.R_below (by (with_reducible repeat (first | apply Kd.R_alloc | apply Kd.R_drewN | apply Kd.R_drew)); exact HO_11.out) hb); have n1_ := Aside0.mk (Kd.V_below (by (with_reducible repeat (first | apply Kd.V_alloc | apply Kd.V_drewN | apply Kd.V_drew)); exact HO_16.out) hb); have n2_ := Aside0.mk (Kd.V_below (by (with_reducible repeat (first | apply Kd.V_alloc | apply Kd.V_drewN | apply Kd.V_drew)); exact HO_226001.out) hb); have n3_ := Aside0.mk (blk_below (g := gb225) (o := .cells #[.int .i64 a0_0, .slice Ao12 t226.length co12] 30 (0, 0)) (by (with_reducible repeat (first | refine blk_drewN ?_ _ | refine blk_drew ?_ | refine blk_alloc ?_ _)); exact BK225.out) hb); have n4_ := Aside0.mk (below_step (by repeat (first | (with_reducible first | exact HB.out | apply below_alloc | apply pw_below_drewN | apply below_drew1 | refine below_set ?_ GE225.out) | exact HB.out)) hb); clear HO_11; clear HO_16; clear HO_226001; clear BK225; clear HB; have HO_11 := n0_; have HO_16 := n1_; have HO_226001 := n2_; have BK225 := n3_; have HB := n4_; clear n0_ n1_ n2_ n3_ n4_; (try clear hb); (try clear hb2); (try clear hk); (try clear hi); obtain ⟨Ao95, co95, eo95⟩ := Kd.R_slice HO_11.out; subst eo95; have q94 : (a1 : Int) ≤ ((x11_5.length : Int) : Int) := of_decide_eq_true (by first | (with_reducible assumption) | assumption); obtain ⟨i094, hi094, _, hsz94, _⟩ := info_parts info3; have hroom94 : x11_5.length ≤ co95 := (Kd.R_reads' HO_11.out).2.1; have hC94 : Kd.C (Kd.int .i64) _ Ao95 x11_5.length x11_5 := (Kd.R_reads' HO_11.out).2.2; have hcut94 := cut_to (P := Try.prog) 28 3 .i64 Try.underlying28 hi094 Ao95 x11_5.length co95 a1 (of_decide_eq_true (by first | (with_reducible assumption) | assumption)) q94 hroom94; have hr94 := Kd.C_take (m := (a1 : Int).toNat) hC94 (by omega); have hy94 : y278.length = (a1 : Int).toNat := (by rw [Ny278.out, List.length_take]; omega); rw [← Ny278.out] at hr94; rw [← hy94] at hcut94; have HR281 := Aside0.mk hr94; have HC281 := Aside0.mk (show y278.length ≤ co95 from by omega); clear hr94 hC94 hroom94 hi094 hsz94; have KY94 := Aside0.mk hy94; clear hy94; have KL94 := Aside0.mk (show (a1 : Int).toNat ≤ x11_5.length from by omega); replace q94 := eq_true q94; obtain ⟨Ao96, co96, eo96⟩ := Kd.V_slice HO_16.out; subst eo96) | (go_at_call 21; (with_reducible refine (deadeyeref07_Ints.calls kj72 _ _ t272 _ _ y278 t282 _ ?side1 ?side2 ?side3 ?side4 A92.out).mono ?_); (case side1 => repeat (first | exact (Kd.V_reads' HO_16.out).2.2 | (with_reducible refine Kd.C_alloc ?_ _) | (with_reducible refine Kd.C_drewN ?_ _) | (with_reducible refine Kd.C_drew ?_))); (case side2 => exact (Kd.V_reads' HO_16.out).2.1); (case side3 => repeat (first | exact (by repeat (first | (with_reducible exact HR281.out) | (with_reducible refine Kd.C_alloc ?_ _) | (with_reducible refine Kd.C_drewN ?_ _) | (with_reducible refine Kd.C_drew ?_) | exact HR281.out)) | (with_reducible refine Kd.C_alloc ?_ _) | (with_reducible refine Kd.C_drewN ?_ _) | (with_reducible refine Kd.C_drew ?_))); (case side4 => exact HC281.out); rintro e w' ⟨rfl, ⟨nd, rfl⟩⟩; (try first | exact ⟨rfl, _, World.drewN_drewN _ _ _⟩ | exact ⟨rfl, _, Eq.trans (World.drewN_drewN _ _ _) (congrArg (World.drewN _) (Nat.add_assoc _ _ _))⟩))))
                                                  go_ret
                                                  exact ⟨by first | rfl | (simp [errW_none, errW_some] <;> rfl) | (simp [*, errW_none, errW_some] <;> rfl), by repeat (first | (with_reducible first | exact HB.out | apply below_alloc | apply pw_below_drewN | apply below_drew1 | refine below_set ?_ GE225.out) | exact HB.out)⟩
                                                · rw [if_neg c91] at H
                                                  exact absurd H (by simp)
                                              · rw [if_neg c90] at H
                                                exact absurd H (by simp)
                                            · replace c89 := Bool.eq_false_iff.mpr c89
                                              subst c89
                                              have H1 : (some false) = some r := by rw [if_neg (show ¬ (false = true) by decide)] at H; exact H
                                              clear H
                                              have H := H1
                                              clear H1
                                              obtain rfl := Option.some.inj H
                                              go_wp2_with (first | (go_at_call 12; (with_reducible refine (deadeyelaw17_awake.calls kj72  true _ A87.out).mono ?_); rintro e w97 ⟨rfl, hb⟩; have n0_ := Aside0.mk (Kd.R_below (by (with_reducible repeat (first | apply Kd.R_alloc | apply Kd.R_drewN | apply Kd.R_drew)); exact HO_11.out) hb); have n1_ := Aside0.mk (Kd.V_below (by (with_reducible repeat (first | apply Kd.V_alloc | apply Kd.V_drewN | apply Kd.V_drew)); exact HO_16.out) hb); have n2_ := Aside0.mk (Kd.V_below (by (with_reducible repeat (first | apply Kd.V_alloc | apply Kd.V_drewN | apply Kd.V_drew)); exact HO_226001.out) hb); have n3_ := Aside0.mk (blk_below (g := gb225) (o := .cells #[.int .i64 a0_0, .slice Ao12 t226.length co12] 30 (0, 0)) (by (with_reducible repeat (first | refine blk_drewN ?_ _ | refine blk_drew ?_ | refine blk_alloc ?_ _)); exact BK225.out) hb); have n4_ := Aside0.mk (below_step (by repeat (first | (with_reducible first | exact HB.out | apply below_alloc | apply pw_below_drewN | apply below_drew1 | refine below_set ?_ GE225.out) | exact HB.out)) hb); clear HO_11; clear HO_16; clear HO_226001; clear BK225; clear HB; have HO_11 := n0_; have HO_16 := n1_; have HO_226001 := n2_; have BK225 := n3_; have HB := n4_; clear n0_ n1_ n2_ n3_ n4_; (try clear hb); (try clear hb2); (try clear hk); (try clear hi)))
                                              repeat (go_quiet (first | (go_at_call 12; (with_reducible refine (deadeyelaw17_awake.calls kj72  true _ A87.out).mono ?_); rintro e w97 ⟨rfl, hb⟩; have n0_ := Aside0.mk (Kd.R_below (by (with_reducible repeat (first | apply Kd.R_alloc | apply Kd.R_drewN | apply Kd.R_drew)); exact HO_11.out) hb); have n1_ := Aside0.mk (Kd.V_below (by (with_reducible repeat (first | apply Kd.V_alloc | apply Kd.V_drewN | apply Kd.V_drew)); exact HO_16.out) hb); have n2_ := Aside0.mk (Kd.V_below (by (with_reducible repeat (first | apply Kd.V_alloc | apply Kd.V_drewN | apply Kd.V_drew)); exact HO_226001.out) hb); have n3_ := Aside0.mk (blk_below (g := gb225) (o := .cells #[.int .i64 a0_0, .slice Ao12 t226.length co12] 30 (0, 0)) (by (with_reducible repeat (first | refine blk_drewN ?_ _ | refine blk_drew ?_ | refine blk_alloc ?_ _)); exact BK225.out) hb); have n4_ := Aside0.mk (below_step (by repeat (first | (with_reducible first | exact HB.out | apply below_alloc | apply pw_below_drewN | apply below_drew1 | refine below_set ?_ GE225.out) | exact HB.out)) hb); clear HO_11; clear HO_16; clear HO_226001; clear BK225; clear HB; have HO_11 := n0_; have HO_16 := n1_; have HO_226001 := n2_; have BK225 := n3_; have HB := n4_; clear n0_ n1_ n2_ n3_ n4_; (try clear hb); (try clear hb2); (try clear hk); (try clear hi))); try go_wp2_with (first | (go_at_call 12; (with_reducible refine (deadeyelaw17_awake.calls kj72  true _ A87.out).mono ?_); rintro e w97 ⟨rfl, hb⟩; have n0_ := Aside0.mk (Kd.R_below (by (with_reducible repeat (first | apply Kd.R_alloc | apply Kd.R_drewN | apply Kd.R_drew)); exact HO_11.out) hb); have n1_ := Aside0.mk (Kd.V_below (by (with_reducible repeat (first | apply Kd.V_alloc | apply Kd.V_drewN | apply Kd.V_drew)); exact HO_16.out) hb); have n2_ := Aside0.mk (Kd.V_below (by (with_reducible repeat (first | apply Kd.V_alloc | apply Kd.V_drewN | apply Kd.V_drew)); exact HO_226001.out) hb); have n3_ := Aside0.mk (blk_below (g := gb225) (o := .cells #[.int .i64 a0_0, .slice Ao12 t226.length co12] 30 (0, 0)) (by (with_reducible repeat (first | refine blk_drewN ?_ _ | refine blk_drew ?_ | refine blk_alloc ?_ _)); exact BK225.out) hb); have n4_ := Aside0.mk (below_step (by repeat (first | (with_reducible first | exact HB.out | apply below_alloc | apply pw_below_drewN | apply below_drew1 | refine below_set ?_ GE225.out) | exact HB.out)) hb); clear HO_11; clear HO_16; clear HO_226001; clear BK225; clear HB; have HO_11 := n0_; have HO_16 := n1_; have HO_226001 := n2_; have BK225 := n3_; have HB := n4_; clear n0_ n1_ n2_ n3_ n4_; (try clear hb); (try clear hb2); (try clear hk); (try clear hi))))
                                              go_ret
                                              exact ⟨by first | rfl | (simp [errW_none, errW_some] <;> rfl) | (simp [*, errW_none, errW_some] <;> rfl), by repeat (first | (with_reducible first | exact HB.out | apply below_alloc | apply pw_below_drewN | apply below_drew1 | refine below_set ?_ GE225.out) | exact HB.out)⟩
                                          · replace c88 := Bool.eq_false_iff.mpr c88
                                            subst c88
                                            have H1 : (some false) = some r := by rw [if_neg (show ¬ (false = true) by decide)] at H; exact H
                                            clear H
                                            have H := H1
                                            clear H1
                                            obtain rfl := Option.some.inj H
                                            go_wp2_with (first | (go_at_call 12; (with_reducible refine (deadeyelaw17_awake.calls kj72  false _ A87.out).mono ?_); rintro e w98 ⟨rfl, hb⟩; have n0_ := Aside0.mk (Kd.R_below (by (with_reducible repeat (first | apply Kd.R_alloc | apply Kd.R_drewN | apply Kd.R_drew)); exact HO_11.out) hb); have n1_ := Aside0.mk (Kd.V_below (by (with_reducible repeat (first | apply Kd.V_alloc | apply Kd.V_drewN | apply Kd.V_drew)); exact HO_16.out) hb); have n2_ := Aside0.mk (Kd.V_below (by (with_reducible repeat (first | apply Kd.V_alloc | apply Kd.V_drewN | apply Kd.V_drew)); exact HO_226001.out) hb); have n3_ := Aside0.mk (blk_below (g := gb225) (o := .cells #[.int .i64 a0_0, .slice Ao12 t226.length co12] 30 (0, 0)) (by (with_reducible repeat (first | refine blk_drewN ?_ _ | refine blk_drew ?_ | refine blk_alloc ?_ _)); exact BK225.out) hb); have n4_ := Aside0.mk (below_step (by repeat (first | (with_reducible first | exact HB.out | apply below_alloc | apply pw_below_drewN | apply below_drew1 | refine below_set ?_ GE225.out) | exact HB.out)) hb); clear HO_11; clear HO_16; clear HO_226001; clear BK225; clear HB; have HO_11 := n0_; have HO_16 := n1_; have HO_226001 := n2_; have BK225 := n3_; have HB := n4_; clear n0_ n1_ n2_ n3_ n4_; (try clear hb); (try clear hb2); (try clear hk); (try clear hi)))
                                            repeat (go_quiet (first | (go_at_call 12; (with_reducible refine (deadeyelaw17_awake.calls kj72  false _ A87.out).mono ?_); rintro e w98 ⟨rfl, hb⟩; have n0_ := Aside0.mk (Kd.R_below (by (with_reducible repeat (first | apply Kd.R_alloc | apply Kd.R_drewN | apply Kd.R_drew)); exact HO_11.out) hb); have n1_ := Aside0.mk (Kd.V_below (by (with_reducible repeat (first | apply Kd.V_alloc | apply Kd.V_drewN | apply Kd.V_drew)); exact HO_16.out) hb); have n2_ := Aside0.mk (Kd.V_below (by (with_reducible repeat (first | apply Kd.V_alloc | apply Kd.V_drewN | apply Kd.V_drew)); exact HO_226001.out) hb); have n3_ := Aside0.mk (blk_below (g := gb225) (o := .cells #[.int .i64 a0_0, .slice Ao12 t226.length co12] 30 (0, 0)) (by (with_reducible repeat (first | refine blk_drewN ?_ _ | refine blk_drew ?_ | refine blk_alloc ?_ _)); exact BK225.out) hb); have n4_ := Aside0.mk (below_step (by repeat (first | (with_reducible first | exact HB.out | apply below_alloc | apply pw_below_drewN | apply below_drew1 | refine below_set ?_ GE225.out) | exact HB.out)) hb); clear HO_11; clear HO_16; clear HO_226001; clear BK225; clear HB; have HO_11 := n0_; have HO_16 := n1_; have HO_226001 := n2_; have BK225 := n3_; have HB := n4_; clear n0_ n1_ n2_ n3_ n4_; (try clear hb); (try clear hb2); (try clear hk); (try clear hi))); try go_wp2_with (first | (go_at_call 12; (with_reducible refine (deadeyelaw17_awake.calls kj72  false _ A87.out).mono ?_); rintro e w98 ⟨rfl, hb⟩; have n0_ := Aside0.mk (Kd.R_below (by (with_reducible repeat (first | apply Kd.R_alloc | apply Kd.R_drewN | apply Kd.R_drew)); exact HO_11.out) hb); have n1_ := Aside0.mk (Kd.V_below (by (with_reducible repeat (first | apply Kd.V_alloc | apply Kd.V_drewN | apply Kd.V_drew)); exact HO_16.out) hb); have n2_ := Aside0.mk (Kd.V_below (by (with_reducible repeat (first | apply Kd.V_alloc | apply Kd.V_drewN | apply Kd.V_drew)); exact HO_226001.out) hb); have n3_ := Aside0.mk (blk_below (g := gb225) (o := .cells #[.int .i64 a0_0, .slice Ao12 t226.length co12] 30 (0, 0)) (by (with_reducible repeat (first | refine blk_drewN ?_ _ | refine blk_drew ?_ | refine blk_alloc ?_ _)); exact BK225.out) hb); have n4_ := Aside0.mk (below_step (by repeat (first | (with_reducible first | exact HB.out | apply below_alloc | apply pw_below_drewN | apply below_drew1 | refine below_set ?_ GE225.out) | exact HB.out)) hb); clear HO_11; clear HO_16; clear HO_226001; clear BK225; clear HB; have HO_11 := n0_; have HO_16 := n1_; have HO_226001 := n2_; have BK225 := n3_; have HB := n4_; clear n0_ n1_ n2_ n3_ n4_; (try clear hb); (try clear hb2); (try clear hk); (try clear hi))))
                                            go_ret
                                            exact ⟨by first | rfl | (simp [errW_none, errW_some] <;> rfl) | (simp [*, errW_none, errW_some] <;> rfl), by repeat (first | (with_reducible first | exact HB.out | apply below_alloc | apply pw_below_drewN | apply below_drew1 | refine below_set ?_ GE225.out) | exact HB.out)⟩

end Go.Proofs.Yteeeiaggkdlolaa.Pl
