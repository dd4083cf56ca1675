-- Lean text written by a program of this session (xp) for this seat's functions
import Derived.Test.YteeeiaggkdlolaaKf22
import Derived.Test.YteeeiaggkdlolaaKf24
import Derived.Test.YteeeiaggkdlolaaKf25
import Derived.Test.YteeeiaggkdlolaaKf30
import Derived.Test.YteeeiaggkdlolaaKmv
import Derived.Test.YteeeiaggkdlolaaKy0
namespace Go.Proofs.Yteeeiaggkdlolaa.Ky
open Go.RowKit Go.Proofs.YteeeiaggkdlolaaW.PrintWords Go.Proofs.YteeeiaggkdlolaaW.PrintLast Go.Proofs.YteeeiaggkdlolaaW.PrintMore
attribute [local go_sem] max2_int min2_int max_two min_two max_three min_three max_four min_four   -- for this text's walks alone
set_option linter.unusedVariables false
set_option linter.unusedSimpArgs false

/-! ### kpt: function 11 -/
mutual
def kpt.l0 : Nat → ByteArray → List (S48) → Int → Int → Int → Int → Int → Int → ByteArray → Int → Int → List Int → Option (Bool)
 | 0, _, _, _, _, _, _, _, _, _, _, _, _ => none
 | k + 1, x2, x7, x8, x9, qa0, qa1, qa2, qa3, qa4, qa5, qa6, qa7 => if x9 < (x7.length : Int) then (if 0 ≤ x9 then (kpt.l0 k x2 x7 ((rd_T48 x7 x9).f0) (wrap64 (x9 + 1)) qa0 qa1 qa2 qa3 qa4 qa5 qa6 qa7) else (none)) else (if x8 < 0 then (kpt.j1 k x2 x7 x8 true qa0 qa1 qa2 qa3 qa4 qa5 qa6 qa7) else (kpt.j1 k x2 x7 x8 (decide (x8 > 1099511627776)) qa0 qa1 qa2 qa3 qa4 qa5 qa6 qa7))
def kpt.j1 : Nat → ByteArray → List (S48) → Int → Bool → Int → Int → Int → Int → ByteArray → Int → Int → List Int → Option (Bool)
 | 0, _, _, _, _, _, _, _, _, _, _, _, _ => none
 | k + 1, x2, x7, x8, x37, qa0, qa1, qa2, qa3, qa4, qa5, qa6, qa7 => if x37 = true then ((deadeyelaw10_awake.f k).bind fun t325 => (some t325)) else (if qa3 = 1 then (kpt.j2 k x2 x7 x8 false (wrap64 (x8 + 1)) qa1 qa2 qa3 qa4 qa5 qa6 qa7) else (kpt.j2 k x2 x7 x8 (qa3 != 2) (wrap64 (x8 + 1)) qa1 qa2 qa3 qa4 qa5 qa6 qa7))
def kpt.j2 : Nat → ByteArray → List (S48) → Int → Bool → Int → Int → Int → Int → ByteArray → Int → Int → List Int → Option (Bool)
 | 0, _, _, _, _, _, _, _, _, _, _, _, _ => none
 | k + 1, x2, x7, x8, x49, qa0, qa1, qa2, qa3, qa4, qa5, qa6, qa7 => if x49 = true then (kpt.j3 k x2 x7 x8 qa0 qa1 qa2 1 qa4 qa5 qa6 qa7) else (kpt.j3 k x2 x7 x8 qa0 qa1 qa2 qa3 qa4 qa5 qa6 qa7)
def kpt.j3 : Nat → ByteArray → List (S48) → Int → Int → Int → Int → Int → ByteArray → Int → Int → List Int → Option (Bool)
 | 0, _, _, _, _, _, _, _, _, _, _, _ => none
 | k + 1, x2, x7, x8, qa0, qa1, qa2, qa3, qa4, qa5, qa6, qa7 => (some (([] : List (S48)) : List (S48))).bind fun y326 => (if y326.length + x7.length < 1599289640401 then ((some (y326 ++ x7 : List (S48))).bind fun y329 => ((some (([(⟨qa0, qa1, qa2, qa3, qa4, qa5, qa6, qa7⟩ : S48)] : List (S48)) : List (S48))).bind fun y332 => (if y329.length + y332.length < 1599289640401 then ((some (y329 ++ y332 : List (S48))).bind fun y335 => ((keys_Find.f k y335 qa4 (wrap64 (x8 + 1))).bind fun bt338 => ((keys_Find.f k x7 x2 x8).bind fun bt350 => ((keys_Find.f k y335 x2 (wrap64 (x8 + 1))).bind fun bt362 => ((keys_Find.f k y335 x2 x8).bind fun bt374 => (if bt338.2.2.2.2.2.2.2.2 = true then ((deadeyeref07_Same.f bt338.1 bt338.2.1 bt338.2.2.1 bt338.2.2.2.1 bt338.2.2.2.2.1 bt338.2.2.2.2.2.1 bt338.2.2.2.2.2.2.1 bt338.2.2.2.2.2.2.2.1 qa0 qa1 qa2 qa3 qa4 qa5 qa6 qa7).bind fun t386 => (if t386 = true then (if (bt350.2.2.2.2.2.2.2.2 != bt374.2.2.2.2.2.2.2.2) = true then (kpt.j4 k x2 bt350.2.2.2.2.2.2.2.2 bt362.2.2.2.2.2.2.2.2 true qa0 qa1 qa2 qa3 qa4 qa5 qa6 qa7 bt350.1 bt350.2.1 bt350.2.2.1 bt350.2.2.2.1 bt350.2.2.2.2.1 bt350.2.2.2.2.2.1 bt350.2.2.2.2.2.2.1 bt350.2.2.2.2.2.2.2.1 bt362.1 bt362.2.1 bt362.2.2.1 bt362.2.2.2.1 bt362.2.2.2.2.1 bt362.2.2.2.2.2.1 bt362.2.2.2.2.2.2.1 bt362.2.2.2.2.2.2.2.1) else (if bt350.2.2.2.2.2.2.2.2 = true then ((deadeyeref07_Same.f bt350.1 bt350.2.1 bt350.2.2.1 bt350.2.2.2.1 bt350.2.2.2.2.1 bt350.2.2.2.2.2.1 bt350.2.2.2.2.2.2.1 bt350.2.2.2.2.2.2.2.1 bt374.1 bt374.2.1 bt374.2.2.1 bt374.2.2.2.1 bt374.2.2.2.2.1 bt374.2.2.2.2.2.1 bt374.2.2.2.2.2.2.1 bt374.2.2.2.2.2.2.2.1).bind fun t387 => (kpt.j4 k x2 bt350.2.2.2.2.2.2.2.2 bt362.2.2.2.2.2.2.2.2 (!t387) qa0 qa1 qa2 qa3 qa4 qa5 qa6 qa7 bt350.1 bt350.2.1 bt350.2.2.1 bt350.2.2.2.1 bt350.2.2.2.2.1 bt350.2.2.2.2.2.1 bt350.2.2.2.2.2.2.1 bt350.2.2.2.2.2.2.2.1 bt362.1 bt362.2.1 bt362.2.2.1 bt362.2.2.2.1 bt362.2.2.2.2.1 bt362.2.2.2.2.2.1 bt362.2.2.2.2.2.2.1 bt362.2.2.2.2.2.2.2.1)) else (kpt.j4 k x2 bt350.2.2.2.2.2.2.2.2 bt362.2.2.2.2.2.2.2.2 false qa0 qa1 qa2 qa3 qa4 qa5 qa6 qa7 bt350.1 bt350.2.1 bt350.2.2.1 bt350.2.2.2.1 bt350.2.2.2.2.1 bt350.2.2.2.2.2.1 bt350.2.2.2.2.2.2.1 bt350.2.2.2.2.2.2.2.1 bt362.1 bt362.2.1 bt362.2.2.1 bt362.2.2.2.1 bt362.2.2.2.2.1 bt362.2.2.2.2.2.1 bt362.2.2.2.2.2.2.1 bt362.2.2.2.2.2.2.2.1))) else (kpt.j4 k x2 bt350.2.2.2.2.2.2.2.2 bt362.2.2.2.2.2.2.2.2 true qa0 qa1 qa2 qa3 qa4 qa5 qa6 qa7 bt350.1 bt350.2.1 bt350.2.2.1 bt350.2.2.2.1 bt350.2.2.2.2.1 bt350.2.2.2.2.2.1 bt350.2.2.2.2.2.2.1 bt350.2.2.2.2.2.2.2.1 bt362.1 bt362.2.1 bt362.2.2.1 bt362.2.2.2.1 bt362.2.2.2.2.1 bt362.2.2.2.2.2.1 bt362.2.2.2.2.2.2.1 bt362.2.2.2.2.2.2.2.1))) else (kpt.j4 k x2 bt350.2.2.2.2.2.2.2.2 bt362.2.2.2.2.2.2.2.2 true qa0 qa1 qa2 qa3 qa4 qa5 qa6 qa7 bt350.1 bt350.2.1 bt350.2.2.1 bt350.2.2.2.1 bt350.2.2.2.2.1 bt350.2.2.2.2.2.1 bt350.2.2.2.2.2.2.1 bt350.2.2.2.2.2.2.2.1 bt362.1 bt362.2.1 bt362.2.2.1 bt362.2.2.2.1 bt362.2.2.2.2.1 bt362.2.2.2.2.2.1 bt362.2.2.2.2.2.2.1 bt362.2.2.2.2.2.2.2.1))))))) else (none)))) else (none))
def kpt.j4 : Nat → ByteArray → Bool → Bool → Bool → Int → Int → Int → Int → ByteArray → Int → Int → List Int → Int → Int → Int → Int → ByteArray → Int → Int → List Int → Int → Int → Int → Int → ByteArray → Int → Int → List Int → Option (Bool)
 | 0, _, _, _, _, _, _, _, _, _, _, _, _, _, _, _, _, _, _, _, _, _, _, _, _, _, _, _, _ => none
 | k + 1, x2, x14, x16, x109, qa0, qa1, qa2, qa3, qa4, qa5, qa6, qa7, qb0, qb1, qb2, qb3, qb4, qb5, qb6, qb7, qc0, qc1, qc2, qc3, qc4, qc5, qc6, qc7 => if x109 = true then (some false) else ((deadeyelaw10_awake.f k).bind fun t388 => (if t388 = true then (if x2.toList = qa4.toList then (some true) else (if (x14 == x16) = true then (if x14 = true then ((deadeyeref07_Same.f qb0 qb1 qb2 qb3 qb4 qb5 qb6 qb7 qc0 qc1 qc2 qc3 qc4 qc5 qc6 qc7).bind fun t389 => (some t389)) else (some true)) else (some false))) else (some false)))
end
def kpt.f (k : Nat) (l0 : List (S48)) (a1_0 : Int) (a1_1 : Int) (a1_2 : Int) (a1_3 : Int) (a1_4 : ByteArray) (a1_5 : Int) (a1_6 : Int) (l1_7 : List Int) (a2 : ByteArray) : Option (Bool) := (deadeyelaw10_rising.f k l0).bind fun t321 => (kpt.l0 k a2 t321 0 0 a1_0 a1_1 a1_2 a1_3 a1_4 a1_5 a1_6 l1_7)
theorem kpt.mono_l : ∀ k, (∀ y0 y1 y2 y3 y4 y5 y6 y7 y8 y9 y10 y11, LeO (kpt.l0 k y0 y1 y2 y3 y4 y5 y6 y7 y8 y9 y10 y11) (kpt.l0 (k + 1) y0 y1 y2 y3 y4 y5 y6 y7 y8 y9 y10 y11)) ∧ (∀ y0 y1 y2 y3 y4 y5 y6 y7 y8 y9 y10 y11, LeO (kpt.j1 k y0 y1 y2 y3 y4 y5 y6 y7 y8 y9 y10 y11) (kpt.j1 (k + 1) y0 y1 y2 y3 y4 y5 y6 y7 y8 y9 y10 y11)) ∧ (∀ y0 y1 y2 y3 y4 y5 y6 y7 y8 y9 y10 y11, LeO (kpt.j2 k y0 y1 y2 y3 y4 y5 y6 y7 y8 y9 y10 y11) (kpt.j2 (k + 1) y0 y1 y2 y3 y4 y5 y6 y7 y8 y9 y10 y11)) ∧ (∀ y0 y1 y2 y3 y4 y5 y6 y7 y8 y9 y10, LeO (kpt.j3 k y0 y1 y2 y3 y4 y5 y6 y7 y8 y9 y10) (kpt.j3 (k + 1) y0 y1 y2 y3 y4 y5 y6 y7 y8 y9 y10)) ∧ (∀ y0 y1 y2 y3 y4 y5 y6 y7 y8 y9 y10 y11 y12 y13 y14 y15 y16 y17 y18 y19 y20 y21 y22 y23 y24 y25 y26 y27, LeO (kpt.j4 k y0 y1 y2 y3 y4 y5 y6 y7 y8 y9 y10 y11 y12 y13 y14 y15 y16 y17 y18 y19 y20 y21 y22 y23 y24 y25 y26 y27) (kpt.j4 (k + 1) y0 y1 y2 y3 y4 y5 y6 y7 y8 y9 y10 y11 y12 y13 y14 y15 y16 y17 y18 y19 y20 y21 y22 y23 y24 y25 y26 y27))
 | 0 => ⟨fun _ _ _ _ _ _ _ _ _ _ _ _ r h => by simp [kpt.l0] at h, fun _ _ _ _ _ _ _ _ _ _ _ _ r h => by simp [kpt.j1] at h, fun _ _ _ _ _ _ _ _ _ _ _ _ r h => by simp [kpt.j2] at h, fun _ _ _ _ _ _ _ _ _ _ _ r h => by simp [kpt.j3] at h, fun _ _ _ _ _ _ _ _ _ _ _ _ _ _ _ _ _ _ _ _ _ _ _ _ _ _ _ _ r h => by simp [kpt.j4] at h⟩
 | k + 1 => by
  obtain ⟨ih0, ih1, ih2, ih3, ih4⟩ := kpt.mono_l k
  refine ⟨?_, ?_, ?_, ?_, ?_⟩
  ·intro y0 y1 y2 y3 y4 y5 y6 y7 y8 y9 y10 y11
   unfold kpt.l0
   repeat' first
   | (with_reducible exact ih0 _ _ _ _ _ _ _ _ _ _ _ _)
   | (with_reducible exact ih1 _ _ _ _ _ _ _ _ _ _ _ _)
   | (with_reducible exact ih2 _ _ _ _ _ _ _ _ _ _ _ _)
   | (with_reducible exact ih3 _ _ _ _ _ _ _ _ _ _ _)
   | (with_reducible exact ih4 _ _ _ _ _ _ _ _ _ _ _ _ _ _ _ _ _ _ _ _ _ _ _ _ _ _ _ _)
   | (with_reducible exact deadeyelaw10_awake.mono _)
   | (with_reducible exact deadeyelaw10_rising.mono _ _)
   | (with_reducible exact keys_Find.mono _ _ _ _)
   | (with_reducible exact LeO.refl _)
   | (with_reducible exact LeO.none _)
   | (with_reducible refine LeO.ite ?_ ?_)
   | (with_reducible refine LeO.bind ?_ (fun _ => ?_))
   | exact ih0 _ _ _ _ _ _ _ _ _ _ _ _
   | exact ih1 _ _ _ _ _ _ _ _ _ _ _ _
   | exact ih2 _ _ _ _ _ _ _ _ _ _ _ _
   | exact ih3 _ _ _ _ _ _ _ _ _ _ _
   | exact ih4 _ _ _ _ _ _ _ _ _ _ _ _ _ _ _ _ _ _ _ _ _ _ _ _ _ _ _ _
   | exact deadeyelaw10_awake.mono _
   | exact deadeyelaw10_rising.mono _ _
   | exact keys_Find.mono _ _ _ _
   | exact LeO.none _
   | refine LeO.ite ?_ ?_
   | refine LeO.bind ?_ (fun _ => ?_)
  ·intro y0 y1 y2 y3 y4 y5 y6 y7 y8 y9 y10 y11
   unfold kpt.j1
   repeat' first
   | (with_reducible exact ih0 _ _ _ _ _ _ _ _ _ _ _ _)
   | (with_reducible exact ih1 _ _ _ _ _ _ _ _ _ _ _ _)
   | (with_reducible exact ih2 _ _ _ _ _ _ _ _ _ _ _ _)
   | (with_reducible exact ih3 _ _ _ _ _ _ _ _ _ _ _)
   | (with_reducible exact ih4 _ _ _ _ _ _ _ _ _ _ _ _ _ _ _ _ _ _ _ _ _ _ _ _ _ _ _ _)
   | (with_reducible exact deadeyelaw10_awake.mono _)
   | (with_reducible exact deadeyelaw10_rising.mono _ _)
   | (with_reducible exact keys_Find.mono _ _ _ _)
   | (with_reducible exact LeO.refl _)
   | (with_reducible exact LeO.none _)
   | (with_reducible refine LeO.ite ?_ ?_)
   | (with_reducible refine LeO.bind ?_ (fun _ => ?_))
   | exact ih0 _ _ _ _ _ _ _ _ _ _ _ _
   | exact ih1 _ _ _ _ _ _ _ _ _ _ _ _
   | exact ih2 _ _ _ _ _ _ _ _ _ _ _ _
   | exact ih3 _ _ _ _ _ _ _ _ _ _ _
   | exact ih4 _ _ _ _ _ _ _ _ _ _ _ _ _ _ _ _ _ _ _ _ _ _ _ _ _ _ _ _
   | exact deadeyelaw10_awake.mono _
   | exact deadeyelaw10_rising.mono _ _
   | exact keys_Find.mono _ _ _ _
   | exact LeO.none _
   | refine LeO.ite ?_ ?_
   | refine LeO.bind ?_ (fun _ => ?_)
  ·intro y0 y1 y2 y3 y4 y5 y6 y7 y8 y9 y10 y11
   unfold kpt.j2
   repeat' first
   | (with_reducible exact ih0 _ _ _ _ _ _ _ _ _ _ _ _)
   | (with_reducible exact ih1 _ _ _ _ _ _ _ _ _ _ _ _)
   | (with_reducible exact ih2 _ _ _ _ _ _ _ _ _ _ _ _)
   | (with_reducible exact ih3 _ _ _ _ _ _ _ _ _ _ _)
   | (with_reducible exact ih4 _ _ _ _ _ _ _ _ _ _ _ _ _ _ _ _ _ _ _ _ _ _ _ _ _ _ _ _)
   | (with_reducible exact deadeyelaw10_awake.mono _)
   | (with_reducible exact deadeyelaw10_rising.mono _ _)
   | (with_reducible exact keys_Find.mono _ _ _ _)
   | (with_reducible exact LeO.refl _)
   | (with_reducible exact LeO.none _)
   | (with_reducible refine LeO.ite ?_ ?_)
   | (with_reducible refine LeO.bind ?_ (fun _ => ?_))
   | exact ih0 _ _ _ _ _ _ _ _ _ _ _ _
   | exact ih1 _ _ _ _ _ _ _ _ _ _ _ _
   | exact ih2 _ _ _ _ _ _ _ _ _ _ _ _
   | exact ih3 _ _ _ _ _ _ _ _ _ _ _
   | exact ih4 _ _ _ _ _ _ _ _ _ _ _ _ _ _ _ _ _ _ _ _ _ _ _ _ _ _ _ _
   | exact deadeyelaw10_awake.mono _
   | exact deadeyelaw10_rising.mono _ _
   | exact keys_Find.mono _ _ _ _
   | exact LeO.none _
   | refine LeO.ite ?_ ?_
   | refine LeO.bind ?_ (fun _ => ?_)
  ·intro y0 y1 y2 y3 y4 y5 y6 y7 y8 y9 y10
   unfold kpt.j3
   repeat' first
   | (with_reducible exact ih0 _ _ _ _ _ _ _ _ _ _ _ _)
   | (with_reducible exact ih1 _ _ _ _ _ _ _ _ _ _ _ _)
   | (with_reducible exact ih2 _ _ _ _ _ _ _ _ _ _ _ _)
   | (with_reducible exact ih3 _ _ _ _ _ _ _ _ _ _ _)
   | (with_reducible exact ih4 _ _ _ _ _ _ _ _ _ _ _ _ _ _ _ _ _ _ _ _ _ _ _ _ _ _ _ _)
   | (with_reducible exact deadeyelaw10_awake.mono _)
   | (with_reducible exact deadeyelaw10_rising.mono _ _)
   | (with_reducible exact keys_Find.mono _ _ _ _)
   | (with_reducible exact LeO.refl _)
   | (with_reducible exact LeO.none _)
   | (with_reducible refine LeO.ite ?_ ?_)
   | (with_reducible refine LeO.bind ?_ (fun _ => ?_))
   | exact ih0 _ _ _ _ _ _ _ _ _ _ _ _
   | exact ih1 _ _ _ _ _ _ _ _ _ _ _ _
   | exact ih2 _ _ _ _ _ _ _ _ _ _ _ _
   | exact ih3 _ _ _ _ _ _ _ _ _ _ _
   | exact ih4 _ _ _ _ _ _ _ _ _ _ _ _ _ _ _ _ _ _ _ _ _ _ _ _ _ _ _ _
   | exact deadeyelaw10_awake.mono _
   | exact deadeyelaw10_rising.mono _ _
   | exact keys_Find.mono _ _ _ _
   | exact LeO.none _
   | refine LeO.ite ?_ ?_
   | refine LeO.bind ?_ (fun _ => ?_)
  ·intro y0 y1 y2 y3 y4 y5 y6 y7 y8 y9 y10 y11 y12 y13 y14 y15 y16 y17 y18 y19 y20 y21 y22 y23 y24 y25 y26 y27
   unfold kpt.j4
   repeat' first
   | (with_reducible exact ih0 _ _ _ _ _ _ _ _ _ _ _ _)
   | (with_reducible exact ih1 _ _ _ _ _ _ _ _ _ _ _ _)
   | (with_reducible exact ih2 _ _ _ _ _ _ _ _ _ _ _ _)
   | (with_reducible exact ih3 _ _ _ _ _ _ _ _ _ _ _)
   | (with_reducible exact ih4 _ _ _ _ _ _ _ _ _ _ _ _ _ _ _ _ _ _ _ _ _ _ _ _ _ _ _ _)
   | (with_reducible exact deadeyelaw10_awake.mono _)
   | (with_reducible exact deadeyelaw10_rising.mono _ _)
   | (with_reducible exact keys_Find.mono _ _ _ _)
   | (with_reducible exact LeO.refl _)
   | (with_reducible exact LeO.none _)
   | (with_reducible refine LeO.ite ?_ ?_)
   | (with_reducible refine LeO.bind ?_ (fun _ => ?_))
   | exact ih0 _ _ _ _ _ _ _ _ _ _ _ _
   | exact ih1 _ _ _ _ _ _ _ _ _ _ _ _
   | exact ih2 _ _ _ _ _ _ _ _ _ _ _ _
   | exact ih3 _ _ _ _ _ _ _ _ _ _ _
   | exact ih4 _ _ _ _ _ _ _ _ _ _ _ _ _ _ _ _ _ _ _ _ _ _ _ _ _ _ _ _
   | exact deadeyelaw10_awake.mono _
   | exact deadeyelaw10_rising.mono _ _
   | exact keys_Find.mono _ _ _ _
   | exact LeO.none _
   | refine LeO.ite ?_ ?_
   | refine LeO.bind ?_ (fun _ => ?_)
theorem kpt.mono : ∀ a0 a1 a2 a3 a4 a5 a6 a7 a8 a9 k, LeO (kpt.f k a0 a1 a2 a3 a4 a5 a6 a7 a8 a9) (kpt.f (k + 1) a0 a1 a2 a3 a4 a5 a6 a7 a8 a9) := by
 intro a0 a1 a2 a3 a4 a5 a6 a7 a8 a9 k
 obtain ⟨ih0, ih1, ih2, ih3, ih4⟩ := kpt.mono_l k
 unfold kpt.f
 repeat' first
   | (with_reducible exact ih0 _ _ _ _ _ _ _ _ _ _ _ _)
   | (with_reducible exact ih1 _ _ _ _ _ _ _ _ _ _ _ _)
   | (with_reducible exact ih2 _ _ _ _ _ _ _ _ _ _ _ _)
   | (with_reducible exact ih3 _ _ _ _ _ _ _ _ _ _ _)
   | (with_reducible exact ih4 _ _ _ _ _ _ _ _ _ _ _ _ _ _ _ _ _ _ _ _ _ _ _ _ _ _ _ _)
   | (with_reducible exact deadeyelaw10_awake.mono _)
   | (with_reducible exact deadeyelaw10_rising.mono _ _)
   | (with_reducible exact keys_Find.mono _ _ _ _)
   | (with_reducible exact LeO.refl _)
   | (with_reducible exact LeO.none _)
   | (with_reducible refine LeO.ite ?_ ?_)
   | (with_reducible refine LeO.bind ?_ (fun _ => ?_))
   | exact ih0 _ _ _ _ _ _ _ _ _ _ _ _
   | exact ih1 _ _ _ _ _ _ _ _ _ _ _ _
   | exact ih2 _ _ _ _ _ _ _ _ _ _ _ _
   | exact ih3 _ _ _ _ _ _ _ _ _ _ _
   | exact ih4 _ _ _ _ _ _ _ _ _ _ _ _ _ _ _ _ _ _ _ _ _ _ _ _ _ _ _ _
   | exact deadeyelaw10_awake.mono _
   | exact deadeyelaw10_rising.mono _ _
   | exact keys_Find.mono _ _ _ _
   | exact LeO.none _
   | refine LeO.ite ?_ ?_
   | refine LeO.bind ?_ (fun _ => ?_)
set_option maxHeartbeats 8000000 in
set_option maxRecDepth 100000 in
theorem kpt.calls (k : Nat) (P0_ : Nat → Prop) (A0 : Option Addr) (c0 : Nat) (l0 : List (S48)) (a1_0 : Int) (a1_1 : Int) (a1_2 : Int) (a1_3 : Int) (a1_4 : ByteArray) (a1_5 : Int) (a1_6 : Int) (P1_7_ : Nat → Prop) (A1_7 : Option Addr) (c1_7 : Nat) (l1_7 : List Int) (a2 : ByteArray) (r : Bool) (w : World) (hs0 : Kd.V k48 48 w w.heap.size (fun k_ => P0_ k_) (.slice A0 l0.length c0) l0) (hs1_7 : Kd.V (Kd.int .u8) 5 w w.heap.size (fun k_ => P1_7_ k_) (.slice A1_7 l1_7.length c1_7) l1_7) (h : kpt.f k l0 a1_0 a1_1 a1_2 a1_3 a1_4 a1_5 a1_6 l1_7 a2 = some r) :
  Calls Try.prog 11 #[.slice A0 l0.length c0, .agg #[.int .i64 a1_0, .int .i64 a1_1, .int .i64 a1_2, .int .i64 a1_3, .string a1_4, .int .i64 a1_5, .int .u32 a1_6, .slice A1_7 l1_7.length c1_7], .string a2] w fun e w' => e = .returned (.bool r) ∧ Below w.heap.size w w' := by
 have hu48 := Try.underlying48
 have HO0 := Aside0.mk (show Kd.V k48 48 w w.heap.size (fun k_ => ((P0_ k_ ∨ P1_7_ k_) ∨ w.heap.size ≤ k_)) (.slice A0 l0.length c0) l0 from Kd.V_mono hs0 (fun k_ hk => .inl (.inl hk)))
 have HO1_7 := Aside0.mk (show Kd.V (Kd.int .u8) 5 w w.heap.size (fun k_ => ((P0_ k_ ∨ P1_7_ k_) ∨ w.heap.size ≤ k_)) (.slice A1_7 l1_7.length c1_7) l1_7 from Kd.V_mono hs1_7 (fun k_ hk => .inl (.inr hk)))
 have HB := Aside0.mk (Below.refl w.heap.size w)
 have H : ((deadeyelaw10_rising.f k l0).bind fun t321 => (kpt.l0 k a2 t321 0 0 a1_0 a1_1 a1_2 a1_3 a1_4 a1_5 a1_6 l1_7)) = some r := h
 clear h
 replace H := Option.bind_eq_some_iff.mp H
 obtain ⟨t321, A40, H⟩ := H
 replace H : (kpt.l0 k a2 t321 0 0 a1_0 a1_1 a1_2 a1_3 a1_4 a1_5 a1_6 l1_7) = some r := H
 have A4 := Aside0.mk A40
 clear A40
 have H' := Aside0.mk H
 clear H
 go_enter Try.func11, Try.ntmps11
 go_wp2_with (first | ((with_reducible refine gate_dst (N := 4) rfl ?_); refine box_event ?hg (N := 4) ?hd (cs := #[.int .i64 a1_0, .int .i64 a1_1, .int .i64 a1_2, .int .i64 a1_3, .string a1_4, .int .i64 a1_5, .int .u32 a1_6, .slice A1_7 l1_7.length c1_7]) (t := 48) ?hr ?_; (case hd => rfl); (case hg => rfl); (case hr => first | (go_simp; done) | (go_simp; rfl)); intro g0 hg w5 hbox hb; have n0_ := Aside0.mk (Kd.V_below (Kd.V_elderB (vv HO0.out) g0 (Nat.le_of_eq hg.symm)) hb); have n1_ := Aside0.mk (Kd.V_below (Kd.V_elderB (vv HO1_7.out) g0 (Nat.le_of_eq hg.symm)) hb); have n2_ := Aside0.mk (below_step (bv HB.out) hb); have n3_ := Aside0.mk (hbox); have n4_ := Aside0.mk ((by rw [hg]; exact (below_size (bv HB.out)) : w.heap.size ≤ g0)); have n5_ := Aside0.mk ((by rw [hg]; exact (below_size (bv HB.out)) : w.heap.size ≤ g0)); clear HO0; clear HO1_7; clear HB; have HO0 := n0_; have HO1_7 := n1_; have HB := n2_; have B0 := n3_; have GW320 := n4_; have GE320 := n5_; clear n0_ n1_ n2_ n3_ n4_ n5_; clear hb hbox hg) | ((with_reducible refine gate_callee (f := 30) rfl ?_); refine goesL_ (some 20) rfl rfl Try.func30 (by kernel_rfl) rfl #[.slice A0 l0.length c0] rfl (by (try simp only [List.map_toArray, List.map_cons, List.map_nil]); first | done | rfl | (simp only [List.length_drop, List.length_take]; rfl)) ?_; (with_reducible refine (deadeyelaw10_rising.calls k (fun k_ => (((P0_ k_ ∨ P1_7_ k_) ∨ w.heap.size ≤ k_) ∧ k_ ≠ g0)) _ _ l0 t321 _ ?side1 A4.out).mono ?_); (case side1 => exact HO0.out); rintro e w6 ⟨v322, rfl, ho0, hb⟩; refine ⟨_, rfl, ?_⟩; have n0_ := Aside0.mk (Kd.V_elder' (vv HO0.out) (Kd.N_base ho0) hb); have n1_ := Aside0.mk (Kd.V_elder' (vv HO1_7.out) (Kd.N_base ho0) hb); have n2_ := Aside0.mk (Kd.N_lower (Kd.N_mono (ok' := fun k_ => ((P0_ k_ ∨ P1_7_ k_) ∨ w.heap.size ≤ k_) ∧ k_ ≠ g0) ho0 (fun k_ hk_ => ⟨Or.elim hk_ (fun hs_ => hs_.1) (fun hn_ => (.inr (Nat.le_trans (below_size (by repeat (first | (with_reducible first | exact HB.out | apply below_alloc | apply pw_below_drewN | apply below_drew1 | refine below_set ?_ GE320.out) | exact HB.out))) hn_))), Or.elim hk_ (fun hs_ => hs_.2) (fun hn_ => (Kd.freshB (g := g0) (o := .cells #[.int .i64 a1_0, .int .i64 a1_1, .int .i64 a1_2, .int .i64 a1_3, .string a1_4, .int .i64 a1_5, .int .u32 a1_6, .slice A1_7 l1_7.length c1_7] 48 (0, 0)) (kv B0.out) k_ hn_))⟩)) (below_size (by repeat (first | (with_reducible first | exact HB.out | apply below_alloc | apply pw_below_drewN | apply below_drew1 | refine below_set ?_ GE320.out) | exact HB.out)))); have n3_ := Aside0.mk (blk_below (kv B0.out) hb); have n4_ := Aside0.mk (below_step (by repeat (first | (with_reducible first | exact HB.out | apply below_alloc | apply pw_below_drewN | apply below_drew1 | refine below_set ?_ GE320.out) | exact HB.out)) hb); clear HO0; clear HO1_7; clear B0; clear HB; have HO0 := n0_; have HO1_7 := n1_; have HO323 := n2_; have B0 := n3_; have HB := n4_; clear n0_ n1_ n2_ n3_ n4_; (try clear hb); (try clear ho0)))
 go_loopg [8, 9] k (fun kq v8 v9 w' => ∃ (x8_1 : Int) (x9_1 : Int), v8 = .int .i64 x8_1 ∧ v9 = .int .i64 x9_1 ∧ Aside0 (kpt.l0 kq a2 t321 x8_1 x9_1 a1_0 a1_1 a1_2 a1_3 a1_4 a1_5 a1_6 l1_7 = some r) ∧ Aside0 (kq ≤ k) ∧ Aside0 (Kd.N k48 48 w' w.heap.size (fun k_ => ((P0_ k_ ∨ P1_7_ k_) ∨ w.heap.size ≤ k_) ∧ k_ ≠ g0) v322 t321) ∧ Aside0 (Kd.V (Kd.int .u8) 5 w' w.heap.size (fun k_ => ((P0_ k_ ∨ P1_7_ k_) ∨ w.heap.size ≤ k_) ∧ some k_ ≠ (v322 : Value).ownBlock ∧ k_ ≠ g0) (.slice A1_7 l1_7.length c1_7) l1_7) ∧ Aside0 (w'.heap[g0]? = some (.cells #[.int .i64 a1_0, .int .i64 a1_1, .int .i64 a1_2, .int .i64 a1_3, .string a1_4, .int .i64 a1_5, .int .u32 a1_6, (.slice A1_7 l1_7.length c1_7)] 48 (0, 0))) ∧ Aside0 (Below w.heap.size w w'))
 case atStart => exact ⟨(0), (0), (by first | rfl | (simp; done) | (simp [*]; done)), (by first | rfl | (simp; done) | (simp [*]; done)), H', ⟨Nat.le_refl _⟩, ⟨nv HO323.out⟩, ⟨by (with_reducible repeat (first | apply Kd.V_alloc | apply Kd.V_drewN | apply Kd.V_drew)); exact Kd.V_mono HO1_7.out (fun _ hk => ⟨hk.1.1, ⟨hk.2, hk.1.2⟩⟩)⟩, ⟨kv B0.out⟩, ⟨by repeat (first | (with_reducible first | exact HB.out | apply below_alloc | apply pw_below_drewN | apply below_drew1 | refine below_set ?_ GE320.out) | exact HB.out)⟩⟩
 case round =>
  clear H'
  try clear c1
  try clear p2
  try clear c3
  obtain ⟨x8_1, x9_1, rfl, rfl, HA, HK1, HO_7, HOq, B0, HB⟩ := hrel
  cases gk with
  | zero => exact absurd HA.out (by simp [kpt.l0])
  | succ k1 =>
   have H := HA.out
   clear HA
   simp only [kpt.l0] at H
   by_cases c7 : x9_1 < (t321.length : Int)
   ·rw [if_pos c7] at H
    have c7b0 : decide (x9_1 < (t321.length : Int)) = true := decide_eq_true c7
    clear c7
    by_cases c8 : 0 ≤ x9_1
    ·rw [if_pos c8] at H
     have c8b0 : decide (0 ≤ x9_1) = true := decide_eq_true c8
     clear c8
     have H' := Aside0.mk H
     clear H
     obtain ⟨Ao9, co9, eo9⟩ := Kd.N_slice HO_7.out
     subst eo9
     have p324 : 0 ≤ (x9_1 : Int) := of_decide_eq_true (by first | (with_reducible assumption) | assumption)
     have q324 : x9_1 < (t321.length : Int) := of_decide_eq_true (by first | (with_reducible assumption) | assumption)
     obtain ⟨ad324, A324_7, c324_7, e324, hx324_0, hx324_1, hx324_2, hx324_3, hx324_4, hx324_5, hx324_6, hx324_7, hl324_7, hi324_7⟩ := at_T48 (Kd.N_reads' HO_7.out).2.2 x9_1 p324 q324
     cases e324
     obtain ⟨ce324, hce324, hMe324, hcc324⟩ := Kd.N_get HO_7.out z48 x9_1 p324 (by first | exact q324 | exact of_decide_eq_true (by first | (with_reducible assumption) | assumption) | (have e_ := (Kd.N_reads' HO_7.out).1; omega))
     obtain ⟨ua324_7, uc324_7, rfl, ul324_7, ge324_7⟩ := k48_openF hMe324
     have hv324_7 := hcc324 7 _ rfl
     rw [add_field _ _ 7 (by omega)] at hv324_7
     replace hv324_7 := Option.some.inj (hv324_7.symm.trans hx324_7)
     injection hv324_7 with hva_ hvn_ hvc_
     rw [hva_] at ge324_7
     rw [hvc_] at ul324_7
     have HL324_7 := Aside0.mk (show Kd.V (Kd.int .u8) 5 _ w.heap.size _ _ ((rd_T48 t321 x9_1).f7) from Kd.V_mk ul324_7 ge324_7)
     clear hva_ hvn_ hvc_ ge324_7 ul324_7
     clear hcc324 hce324
     have HR324_7 := Aside0.mk hi324_7
     have HC324_7 := Aside0.mk hl324_7
     clear hi324_7 hl324_7
     replace p324 := eq_true p324
     replace q324 := eq_true q324
     go_wp2
     go_roundg k1
     case measure => have := HK1.out; omega
     case rel => exact ⟨((rd_T48 t321 x9_1).f0), (wrap64 (x9_1 + 1)), (by first | rfl | (simp; done) | (simp [*]; done)), (by first | rfl | (simp; done) | (simp [*]; done)), H', ⟨by have := HK1.out; omega⟩, ⟨nv HO_7.out⟩, ⟨vv HOq.out⟩, ⟨kv B0.out⟩, ⟨by repeat (first | (with_reducible first | exact HB.out | apply below_alloc | apply pw_below_drewN | apply below_drew1 | refine below_set ?_ GE320.out) | exact HB.out)⟩⟩
    ·rw [if_neg c8] at H
     exact absurd H (by simp)
   ·rw [if_neg c7] at H
    have c7b0 : decide (x9_1 < (t321.length : Int)) = false := decide_eq_false c7
    clear c7
    have HC10 := Aside0.mk H
    clear H
    obtain ⟨Ao11, co11, eo11⟩ := Kd.N_slice HO_7.out
    subst eo11
    go_upto_region 7 with (fail)
    go_cut [37] (fun v37 wc => ∃ (kq : Nat) (x37_9 : Bool), v37 = .bool x37_9 ∧ Aside0 (kpt.j1 kq a2 t321 x8_1 x37_9 a1_0 a1_1 a1_2 a1_3 a1_4 a1_5 a1_6 l1_7 = some r) ∧ Aside0 (kq ≤ k1) ∧ Aside0 (Kd.N k48 48 wc w.heap.size (fun k_ => ((P0_ k_ ∨ P1_7_ k_) ∨ w.heap.size ≤ k_) ∧ k_ ≠ g0) (.slice Ao11 t321.length co11) t321) ∧ Aside0 (Kd.V (Kd.int .u8) 5 wc w.heap.size (fun k_ => ((P0_ k_ ∨ P1_7_ k_) ∨ w.heap.size ≤ k_) ∧ some k_ ≠ ((.slice Ao11 t321.length co11) : Value).ownBlock ∧ k_ ≠ g0) (.slice A1_7 l1_7.length c1_7) l1_7) ∧ Aside0 (wc.heap[g0]? = some (.cells #[.int .i64 a1_0, .int .i64 a1_1, .int .i64 a1_2, .int .i64 a1_3, .string a1_4, .int .i64 a1_5, .int .u32 a1_6, (.slice A1_7 l1_7.length c1_7)] 48 (0, 0))) ∧ Aside0 (Below w.heap.size w wc))
    case first =>
     have H := HC10.out
     clear HC10
     by_cases c12 : x8_1 < 0
     ·rw [if_pos c12] at H
      have c12b0 : decide (x8_1 < 0) = true := decide_eq_true c12
      clear c12
      (first | rw [c12b0] | (simp only [i64_w, i32_w]; rw [c12b0]) | skip)
      have H' := Aside0.mk H
      clear H
      go_wp2
      go_meet
      case rel => exact ⟨_, (true), (by first | rfl | (simp; done) | (simp [*]; done)), H', ⟨by have := HK1.out; first | omega | exact Nat.le_refl _⟩, ⟨nv HO_7.out⟩, ⟨vv HOq.out⟩, ⟨kv B0.out⟩, ⟨by repeat (first | (with_reducible first | exact HB.out | apply below_alloc | apply pw_below_drewN | apply below_drew1 | refine below_set ?_ GE320.out) | exact HB.out)⟩⟩
     ·rw [if_neg c12] at H
      have c12b0 : decide (x8_1 < 0) = false := decide_eq_false c12
      clear c12
      (first | rw [c12b0] | (simp only [i64_w, i32_w]; rw [c12b0]) | skip)
      have H' := Aside0.mk H
      clear H
      go_wp2
      go_meet
      case rel => exact ⟨_, (decide (x8_1 > 1099511627776)), (by first | rfl | (simp; done) | (simp [*]; done)), H', ⟨by have := HK1.out; first | omega | exact Nat.le_refl _⟩, ⟨nv HO_7.out⟩, ⟨vv HOq.out⟩, ⟨kv B0.out⟩, ⟨by repeat (first | (with_reducible first | exact HB.out | apply below_alloc | apply pw_below_drewN | apply below_drew1 | refine below_set ?_ GE320.out) | exact HB.out)⟩⟩
    case rest =>
     clear HC10
     try clear c1
     try clear p2
     try clear c3
     try clear p3
     try clear q3
     try clear hx3
     try clear p6
     try clear c7
     try clear c7b0
     try clear c8
     try clear c8b0
     try clear c11
     try clear c12
     try clear c12b0
     try clear hx324_0
     try clear hx324_1
     try clear hx324_2
     try clear hx324_3
     try clear hx324_4
     try clear hx324_5
     try clear hx324_6
     try clear hx324_7
     try clear p2
     try clear p324
     try clear q324
     obtain ⟨kq, x37_9, rfl, HA, HJ9, HO_7, HOq, B0, HB⟩ := hcut
     cases kq with
     | zero => exact absurd HA.out (by simp [kpt.j1])
     | succ kj9 =>
      have H := HA.out
      clear HA
      simp only [kpt.j1] at H
      by_cases c13 : x37_9 = true
      ·subst c13
       have H1 : ((deadeyelaw10_awake.f kj9).bind fun t325 => (some t325)) = some r := by rw [if_pos rfl] at H; exact H
       clear H
       have H := H1
       clear H1
       replace H := Option.bind_eq_some_iff.mp H
       obtain ⟨t325, A140, H⟩ := H
       replace H : (some t325) = some r := H
       have A14 := Aside0.mk A140
       clear A140
       obtain rfl := Option.some.inj H
       go_wp2_with (first | ((with_reducible refine gate_callee (f := 24) rfl ?_); refine goesL_ (some 38) rfl rfl Try.func24 (by kernel_rfl) rfl #[] rfl (by (try simp only [List.map_toArray, List.map_cons, List.map_nil]); first | done | rfl | (simp only [List.length_drop, List.length_take]; rfl)) ?_; (with_reducible refine (deadeyelaw10_awake.calls kj9  t325 _ A14.out).mono ?_); rintro e w15 ⟨rfl, hb⟩; refine ⟨_, rfl, ?_⟩; have n0_ := Aside0.mk (Kd.N_below (nv HO_7.out) hb); have n1_ := Aside0.mk (Kd.V_below (vv HOq.out) hb); have n2_ := Aside0.mk (blk_below (kv B0.out) hb); have n3_ := Aside0.mk (below_step (by repeat (first | (with_reducible first | exact HB.out | apply below_alloc | apply pw_below_drewN | apply below_drew1 | refine below_set ?_ GE320.out) | exact HB.out)) hb); clear HO_7; clear HOq; clear B0; clear HB; have HO_7 := n0_; have HOq := n1_; have B0 := n2_; have HB := n3_; clear n0_ n1_ n2_ n3_; (try clear hb); (try clear hi)))
       go_ret
       exact ⟨by first | rfl | (simp [errW_none, errW_some] <;> rfl) | (simp [*, errW_none, errW_some] <;> rfl), by repeat (first | (with_reducible first | exact HB.out | apply below_alloc | apply pw_below_drewN | apply below_drew1 | refine below_set ?_ GE320.out) | exact HB.out)⟩
      ·replace c13 := Bool.eq_false_iff.mpr c13
       subst c13
       have H1 : (if a1_3 = 1 then (kpt.j2 kj9 a2 t321 x8_1 false (wrap64 (x8_1 + 1)) a1_1 a1_2 a1_3 a1_4 a1_5 a1_6 l1_7) else (kpt.j2 kj9 a2 t321 x8_1 (a1_3 != 2) (wrap64 (x8_1 + 1)) a1_1 a1_2 a1_3 a1_4 a1_5 a1_6 l1_7)) = some r := by rw [if_neg (show ¬ (false = true) by decide)] at H; exact H
       clear H
       have H := H1
       clear H1
       have HC16 := Aside0.mk H
       clear H
       have hcz17_0 : wc.cell? ⟨g0, 0, none⟩ = some (.int .i64 a1_0) := (blk_cell B0.out 0).trans rfl
       have hcz17_1 : wc.cell? ⟨g0, 1, none⟩ = some (.int .i64 a1_1) := (blk_cell B0.out 1).trans rfl
       have hcz17_2 : wc.cell? ⟨g0, 2, none⟩ = some (.int .i64 a1_2) := (blk_cell B0.out 2).trans rfl
       have hcz17_3 : wc.cell? ⟨g0, 3, none⟩ = some (.int .i64 a1_3) := (blk_cell B0.out 3).trans rfl
       have hcz17_4 : wc.cell? ⟨g0, 4, none⟩ = some (.string a1_4) := (blk_cell B0.out 4).trans rfl
       have hcz17_5 : wc.cell? ⟨g0, 5, none⟩ = some (.int .i64 a1_5) := (blk_cell B0.out 5).trans rfl
       have hcz17_6 : wc.cell? ⟨g0, 6, none⟩ = some (.int .u32 a1_6) := (blk_cell B0.out 6).trans rfl
       have hcz17_7 : wc.cell? ⟨g0, 7, none⟩ = some (.slice A1_7 l1_7.length c1_7) := (blk_cell B0.out 7).trans rfl
       have hfz17_0 := blk_frozen B0.out 0
       have hfz17_1 := blk_frozen B0.out 1
       have hfz17_2 := blk_frozen B0.out 2
       have hfz17_3 := blk_frozen B0.out 3
       have hfz17_4 := blk_frozen B0.out 4
       have hfz17_5 := blk_frozen B0.out 5
       have hfz17_6 := blk_frozen B0.out 6
       have hfz17_7 := blk_frozen B0.out 7
       go_upto_region 10 with (first | ((with_reducible refine gate_store (t := 3) (p := 41) rfl ?_); refine store_event (t := 3) (p := 41) (v := ?vo_w18) (w1 := (wc.setCell ⟨g0, 0, none⟩ (.int .i64 (wrap64 (x8_1 + 1))))) ?hg ?ho ?hn ?hr ?_; (case ho => rfl); (case hg => rfl); (case hn => rfl); (case hr => first | (go_simp; done) | (go_simp; rfl)); intro w18 hw; have n0_ : Aside0 (Kd.N k48 48 w18 w.heap.size (fun k_ => ((P0_ k_ ∨ P1_7_ k_) ∨ w.heap.size ≤ k_) ∧ k_ ≠ g0) (.slice Ao11 t321.length co11) t321) := ⟨(by rw [hw]; exact (by (with_reducible repeat (first | apply Kd.N_alloc | apply Kd.N_drewN | apply Kd.N_drew)); exact Kd.N_mono (Kd.N_far (p := ⟨g0, 0, none⟩) (Kd.N_mono HO_7.out (fun k_ hk => (⟨hk, hk.2⟩ : _ ∧ k_ ≠ g0))) (fun _ hk => hk.2) (.int .i64 (wrap64 (x8_1 + 1)))) (fun _ hk => ⟨hk.1.1, hk.1.2⟩)))⟩; have n1_ : Aside0 (Kd.V (Kd.int .u8) 5 w18 w.heap.size (fun k_ => ((P0_ k_ ∨ P1_7_ k_) ∨ w.heap.size ≤ k_) ∧ some k_ ≠ (.slice Ao11 t321.length co11 : Value).ownBlock ∧ k_ ≠ g0) (.slice A1_7 l1_7.length c1_7) l1_7) := ⟨(by rw [hw]; exact (by (with_reducible repeat (first | apply Kd.V_alloc | apply Kd.V_drewN | apply Kd.V_drew)); exact Kd.V_mono (Kd.V_far (p := ⟨g0, 0, none⟩) (Kd.V_mono HOq.out (fun k_ hk => (⟨hk, hk.2.2⟩ : _ ∧ k_ ≠ g0))) (fun _ hk => hk.2) (.int .i64 (wrap64 (x8_1 + 1)))) (fun _ hk => ⟨hk.1.1, ⟨hk.1.2.1, hk.1.2.2⟩⟩)))⟩; have n2_ : Aside0 (w18.heap[g0]? = some (.cells #[.int .i64 (wrap64 (x8_1 + 1)), .int .i64 a1_1, .int .i64 a1_2, .int .i64 a1_3, .string a1_4, .int .i64 a1_5, .int .u32 a1_6, .slice A1_7 l1_7.length c1_7] 48 (0, 0))) := ⟨(by rw [hw]; exact (by (with_reducible repeat (first | refine blk_drewN ?_ _ | refine blk_drew ?_ | refine blk_alloc ?_ _)); refine blk_put (cs := #[.int .i64 a1_0, .int .i64 a1_1, .int .i64 a1_2, .int .i64 a1_3, .string a1_4, .int .i64 a1_5, .int .u32 a1_6, .slice A1_7 l1_7.length c1_7]) ?_ 0 _ rfl; (with_reducible repeat (first | refine blk_drewN ?_ _ | refine blk_drew ?_ | refine blk_alloc ?_ _)); exact B0.out))⟩; have n3_ : Aside0 (Below w.heap.size w w18) := ⟨(by rw [hw]; exact (by repeat (first | (with_reducible first | exact HB.out | apply below_alloc | apply pw_below_drewN | apply below_drew1 | refine below_set ?_ GE320.out) | exact HB.out)))⟩; clear hw; clear HO_7; clear HOq; clear B0; clear HB; have HO_7 := n0_; have HOq := n1_; have B0 := n2_; have HB := n3_; clear n0_ n1_ n2_ n3_))
       (try simp only [Act.put, List.setIfInBounds_toArray, List.set_cons_zero, List.set_cons_succ])
       go_cut [49] (fun v49 wc => ∃ (kq : Nat) (x49_15 : Bool), v49 = .bool x49_15 ∧ Aside0 (kpt.j2 kq a2 t321 x8_1 x49_15 (wrap64 (x8_1 + 1)) a1_1 a1_2 a1_3 a1_4 a1_5 a1_6 l1_7 = some r) ∧ Aside0 (kq ≤ kj9) ∧ Aside0 (Kd.N k48 48 wc w.heap.size (fun k_ => ((P0_ k_ ∨ P1_7_ k_) ∨ w.heap.size ≤ k_) ∧ k_ ≠ g0) (.slice Ao11 t321.length co11) t321) ∧ Aside0 (Kd.V (Kd.int .u8) 5 wc w.heap.size (fun k_ => ((P0_ k_ ∨ P1_7_ k_) ∨ w.heap.size ≤ k_) ∧ some k_ ≠ ((.slice Ao11 t321.length co11) : Value).ownBlock ∧ k_ ≠ g0) (.slice A1_7 l1_7.length c1_7) l1_7) ∧ Aside0 (wc.heap[g0]? = some (.cells #[.int .i64 (wrap64 (x8_1 + 1)), .int .i64 a1_1, .int .i64 a1_2, .int .i64 a1_3, .string a1_4, .int .i64 a1_5, .int .u32 a1_6, (.slice A1_7 l1_7.length c1_7)] 48 (0, 0))) ∧ Aside0 (Below w.heap.size w wc))
       case first =>
        have H := HC16.out
        clear HC16
        by_cases c19 : a1_3 = 1
        ·rw [if_pos c19] at H
         have c19b0 : (a1_3 == 1) = true := beq_iff_eq.mpr c19
         have c19b1 : (a1_3 != 1) = false := bne_eq_false_iff_eq.mpr c19
         clear c19
         (first | rw [c19b0] | (simp only [i64_w, i32_w]; rw [c19b0]) | skip)
         have H' := Aside0.mk H
         clear H
         have hcz20_0 : w18.cell? ⟨g0, 0, none⟩ = some (.int .i64 (wrap64 (x8_1 + 1))) := (blk_cell B0.out 0).trans rfl
         have hcz20_1 : w18.cell? ⟨g0, 1, none⟩ = some (.int .i64 a1_1) := (blk_cell B0.out 1).trans rfl
         have hcz20_2 : w18.cell? ⟨g0, 2, none⟩ = some (.int .i64 a1_2) := (blk_cell B0.out 2).trans rfl
         have hcz20_3 : w18.cell? ⟨g0, 3, none⟩ = some (.int .i64 a1_3) := (blk_cell B0.out 3).trans rfl
         have hcz20_4 : w18.cell? ⟨g0, 4, none⟩ = some (.string a1_4) := (blk_cell B0.out 4).trans rfl
         have hcz20_5 : w18.cell? ⟨g0, 5, none⟩ = some (.int .i64 a1_5) := (blk_cell B0.out 5).trans rfl
         have hcz20_6 : w18.cell? ⟨g0, 6, none⟩ = some (.int .u32 a1_6) := (blk_cell B0.out 6).trans rfl
         have hcz20_7 : w18.cell? ⟨g0, 7, none⟩ = some (.slice A1_7 l1_7.length c1_7) := (blk_cell B0.out 7).trans rfl
         have hfz20_0 := blk_frozen B0.out 0
         have hfz20_1 := blk_frozen B0.out 1
         have hfz20_2 := blk_frozen B0.out 2
         have hfz20_3 := blk_frozen B0.out 3
         have hfz20_4 := blk_frozen B0.out 4
         have hfz20_5 := blk_frozen B0.out 5
         have hfz20_6 := blk_frozen B0.out 6
         have hfz20_7 := blk_frozen B0.out 7
         go_wp2
         go_meet
         case rel => exact ⟨_, (false), (by first | rfl | (simp; done) | (simp [*]; done)), H', ⟨by have := HK1.out; have := HJ9.out; first | omega | exact Nat.le_refl _⟩, ⟨nv HO_7.out⟩, ⟨vv HOq.out⟩, ⟨kv B0.out⟩, ⟨by repeat (first | (with_reducible first | exact HB.out | apply below_alloc | apply pw_below_drewN | apply below_drew1 | refine below_set ?_ GE320.out) | exact HB.out)⟩⟩
        ·rw [if_neg c19] at H
         have c19b0 : (a1_3 == 1) = false := beq_eq_false_iff_ne.mpr c19
         have c19b1 : (a1_3 != 1) = true := bne_iff_ne.mpr c19
         (first | rw [c19b0] | (simp only [i64_w, i32_w]; rw [c19b0]) | skip)
         have H' := Aside0.mk H
         clear H
         have hcz21_0 : w18.cell? ⟨g0, 0, none⟩ = some (.int .i64 (wrap64 (x8_1 + 1))) := (blk_cell B0.out 0).trans rfl
         have hcz21_1 : w18.cell? ⟨g0, 1, none⟩ = some (.int .i64 a1_1) := (blk_cell B0.out 1).trans rfl
         have hcz21_2 : w18.cell? ⟨g0, 2, none⟩ = some (.int .i64 a1_2) := (blk_cell B0.out 2).trans rfl
         have hcz21_3 : w18.cell? ⟨g0, 3, none⟩ = some (.int .i64 a1_3) := (blk_cell B0.out 3).trans rfl
         have hcz21_4 : w18.cell? ⟨g0, 4, none⟩ = some (.string a1_4) := (blk_cell B0.out 4).trans rfl
         have hcz21_5 : w18.cell? ⟨g0, 5, none⟩ = some (.int .i64 a1_5) := (blk_cell B0.out 5).trans rfl
         have hcz21_6 : w18.cell? ⟨g0, 6, none⟩ = some (.int .u32 a1_6) := (blk_cell B0.out 6).trans rfl
         have hcz21_7 : w18.cell? ⟨g0, 7, none⟩ = some (.slice A1_7 l1_7.length c1_7) := (blk_cell B0.out 7).trans rfl
         have hfz21_0 := blk_frozen B0.out 0
         have hfz21_1 := blk_frozen B0.out 1
         have hfz21_2 := blk_frozen B0.out 2
         have hfz21_3 := blk_frozen B0.out 3
         have hfz21_4 := blk_frozen B0.out 4
         have hfz21_5 := blk_frozen B0.out 5
         have hfz21_6 := blk_frozen B0.out 6
         have hfz21_7 := blk_frozen B0.out 7
         go_wp2
         go_meet
         case rel => exact ⟨_, ((a1_3 != 2)), (by first | rfl | (simp; done) | (simp [*]; done)), H', ⟨by have := HK1.out; have := HJ9.out; first | omega | exact Nat.le_refl _⟩, ⟨nv HO_7.out⟩, ⟨vv HOq.out⟩, ⟨kv B0.out⟩, ⟨by repeat (first | (with_reducible first | exact HB.out | apply below_alloc | apply pw_below_drewN | apply below_drew1 | refine below_set ?_ GE320.out) | exact HB.out)⟩⟩
       case rest =>
        clear HC16
        try clear c1
        try clear c2
        try clear p2
        try clear c3
        try clear p3
        try clear q3
        try clear hx3
        try clear p6
        try clear c7
        try clear c7b0
        try clear c8
        try clear c8b0
        try clear c11
        try clear c12
        try clear c12b0
        try clear c13
        try clear c19
        try clear c19b0
        try clear c19b1
        try clear hcz17_0
        try clear hcz17_1
        try clear hcz17_2
        try clear hcz17_3
        try clear hcz17_4
        try clear hcz17_5
        try clear hcz17_6
        try clear hcz17_7
        try clear hcz20_0
        try clear hcz20_1
        try clear hcz20_2
        try clear hcz20_3
        try clear hcz20_4
        try clear hcz20_5
        try clear hcz20_6
        try clear hcz20_7
        try clear hcz21_0
        try clear hcz21_1
        try clear hcz21_2
        try clear hcz21_3
        try clear hcz21_4
        try clear hcz21_5
        try clear hcz21_6
        try clear hcz21_7
        try clear hfz17_0
        try clear hfz17_1
        try clear hfz17_2
        try clear hfz17_3
        try clear hfz17_4
        try clear hfz17_5
        try clear hfz17_6
        try clear hfz17_7
        try clear hfz20_0
        try clear hfz20_1
        try clear hfz20_2
        try clear hfz20_3
        try clear hfz20_4
        try clear hfz20_5
        try clear hfz20_6
        try clear hfz20_7
        try clear hfz21_0
        try clear hfz21_1
        try clear hfz21_2
        try clear hfz21_3
        try clear hfz21_4
        try clear hfz21_5
        try clear hfz21_6
        try clear hfz21_7
        try clear hx324_0
        try clear hx324_1
        try clear hx324_2
        try clear hx324_3
        try clear hx324_4
        try clear hx324_5
        try clear hx324_6
        try clear hx324_7
        try clear p2
        try clear p3
        try clear p324
        try clear p6
        try clear q3
        try clear q324
        obtain ⟨kq, x49_15, rfl, HA, HJ15, HO_7, HOq, B0, HB⟩ := hcut
        cases kq with
        | zero => exact absurd HA.out (by simp [kpt.j2])
        | succ kj15 =>
         have H := HA.out
         clear HA
         simp only [kpt.j2] at H
         have HC22 := Aside0.mk H
         clear H
         go_upto_if 49 with (fail)
         go_cut [] (fun wc => ∃ (kq : Nat) (xu : Int), Aside0 (kpt.j3 kq a2 t321 x8_1 (wrap64 (x8_1 + 1)) a1_1 a1_2 xu a1_4 a1_5 a1_6 l1_7 = some r) ∧ Aside0 (kq ≤ kj15) ∧ Aside0 (Kd.N k48 48 wc w.heap.size (fun k_ => ((P0_ k_ ∨ P1_7_ k_) ∨ w.heap.size ≤ k_) ∧ k_ ≠ g0) (.slice Ao11 t321.length co11) t321) ∧ Aside0 (Kd.V (Kd.int .u8) 5 wc w.heap.size (fun k_ => ((P0_ k_ ∨ P1_7_ k_) ∨ w.heap.size ≤ k_) ∧ some k_ ≠ ((.slice Ao11 t321.length co11) : Value).ownBlock ∧ k_ ≠ g0) (.slice A1_7 l1_7.length c1_7) l1_7) ∧ Aside0 (wc.heap[g0]? = some (.cells #[.int .i64 (wrap64 (x8_1 + 1)), .int .i64 a1_1, .int .i64 a1_2, .int .i64 xu, .string a1_4, .int .i64 a1_5, .int .u32 a1_6, (.slice A1_7 l1_7.length c1_7)] 48 (0, 0))) ∧ Aside0 (Below w.heap.size w wc))
         case first =>
          have H := HC22.out
          clear HC22
          by_cases c23 : x49_15 = true
          ·subst c23
           have H1 : (kpt.j3 kj15 a2 t321 x8_1 (wrap64 (x8_1 + 1)) a1_1 a1_2 1 a1_4 a1_5 a1_6 l1_7) = some r := by rw [if_pos rfl] at H; exact H
           clear H
           have H := H1
           clear H1
           have H' := Aside0.mk H
           clear H
           have hcz24_0 : wc.cell? ⟨g0, 0, none⟩ = some (.int .i64 (wrap64 (x8_1 + 1))) := (blk_cell B0.out 0).trans rfl
           have hcz24_1 : wc.cell? ⟨g0, 1, none⟩ = some (.int .i64 a1_1) := (blk_cell B0.out 1).trans rfl
           have hcz24_2 : wc.cell? ⟨g0, 2, none⟩ = some (.int .i64 a1_2) := (blk_cell B0.out 2).trans rfl
           have hcz24_3 : wc.cell? ⟨g0, 3, none⟩ = some (.int .i64 a1_3) := (blk_cell B0.out 3).trans rfl
           have hcz24_4 : wc.cell? ⟨g0, 4, none⟩ = some (.string a1_4) := (blk_cell B0.out 4).trans rfl
           have hcz24_5 : wc.cell? ⟨g0, 5, none⟩ = some (.int .i64 a1_5) := (blk_cell B0.out 5).trans rfl
           have hcz24_6 : wc.cell? ⟨g0, 6, none⟩ = some (.int .u32 a1_6) := (blk_cell B0.out 6).trans rfl
           have hcz24_7 : wc.cell? ⟨g0, 7, none⟩ = some (.slice A1_7 l1_7.length c1_7) := (blk_cell B0.out 7).trans rfl
           have hfz24_0 := blk_frozen B0.out 0
           have hfz24_1 := blk_frozen B0.out 1
           have hfz24_2 := blk_frozen B0.out 2
           have hfz24_3 := blk_frozen B0.out 3
           have hfz24_4 := blk_frozen B0.out 4
           have hfz24_5 := blk_frozen B0.out 5
           have hfz24_6 := blk_frozen B0.out 6
           have hfz24_7 := blk_frozen B0.out 7
           go_wp2_with (first | ((with_reducible refine gate_store (t := 3) (p := 50) rfl ?_); refine store_event (t := 3) (p := 50) (v := ?vo_w25) (w1 := (wc.setCell ⟨g0, 3, none⟩ (.int .i64 1))) ?hg ?ho ?hn ?hr ?_; (case ho => rfl); (case hg => rfl); (case hn => rfl); (case hr => first | (go_simp; done) | (go_simp; rfl)); intro w25 hw; have n0_ : Aside0 (Kd.N k48 48 w25 w.heap.size (fun k_ => ((P0_ k_ ∨ P1_7_ k_) ∨ w.heap.size ≤ k_) ∧ k_ ≠ g0) (.slice Ao11 t321.length co11) t321) := ⟨(by rw [hw]; exact (by (with_reducible repeat (first | apply Kd.N_alloc | apply Kd.N_drewN | apply Kd.N_drew)); exact Kd.N_mono (Kd.N_far (p := ⟨g0, 3, none⟩) (Kd.N_mono HO_7.out (fun k_ hk => (⟨hk, hk.2⟩ : _ ∧ k_ ≠ g0))) (fun _ hk => hk.2) (.int .i64 1)) (fun _ hk => ⟨hk.1.1, hk.1.2⟩)))⟩; have n1_ : Aside0 (Kd.V (Kd.int .u8) 5 w25 w.heap.size (fun k_ => ((P0_ k_ ∨ P1_7_ k_) ∨ w.heap.size ≤ k_) ∧ some k_ ≠ (.slice Ao11 t321.length co11 : Value).ownBlock ∧ k_ ≠ g0) (.slice A1_7 l1_7.length c1_7) l1_7) := ⟨(by rw [hw]; exact (by (with_reducible repeat (first | apply Kd.V_alloc | apply Kd.V_drewN | apply Kd.V_drew)); exact Kd.V_mono (Kd.V_far (p := ⟨g0, 3, none⟩) (Kd.V_mono HOq.out (fun k_ hk => (⟨hk, hk.2.2⟩ : _ ∧ k_ ≠ g0))) (fun _ hk => hk.2) (.int .i64 1)) (fun _ hk => ⟨hk.1.1, ⟨hk.1.2.1, hk.1.2.2⟩⟩)))⟩; have n2_ : Aside0 (w25.heap[g0]? = some (.cells #[.int .i64 (wrap64 (x8_1 + 1)), .int .i64 a1_1, .int .i64 a1_2, .int .i64 1, .string a1_4, .int .i64 a1_5, .int .u32 a1_6, .slice A1_7 l1_7.length c1_7] 48 (0, 0))) := ⟨(by rw [hw]; exact (by (with_reducible repeat (first | refine blk_drewN ?_ _ | refine blk_drew ?_ | refine blk_alloc ?_ _)); refine blk_put (cs := #[.int .i64 (wrap64 (x8_1 + 1)), .int .i64 a1_1, .int .i64 a1_2, .int .i64 a1_3, .string a1_4, .int .i64 a1_5, .int .u32 a1_6, .slice A1_7 l1_7.length c1_7]) ?_ 3 _ rfl; (with_reducible repeat (first | refine blk_drewN ?_ _ | refine blk_drew ?_ | refine blk_alloc ?_ _)); exact B0.out))⟩; have n3_ : Aside0 (Below w.heap.size w w25) := ⟨(by rw [hw]; exact (by repeat (first | (with_reducible first | exact HB.out | apply below_alloc | apply pw_below_drewN | apply below_drew1 | refine below_set ?_ GE320.out) | exact HB.out)))⟩; clear hw; clear HO_7; clear HOq; clear B0; clear HB; have HO_7 := n0_; have HOq := n1_; have B0 := n2_; have HB := n3_; clear n0_ n1_ n2_ n3_))
           go_meet
           case rel => exact ⟨_, (1), H', ⟨by have := HK1.out; have := HJ9.out; have := HJ15.out; first | omega | exact Nat.le_refl _⟩, ⟨nv HO_7.out⟩, ⟨vv HOq.out⟩, ⟨kv B0.out⟩, ⟨by repeat (first | (with_reducible first | exact HB.out | apply below_alloc | apply pw_below_drewN | apply below_drew1 | refine below_set ?_ GE320.out) | exact HB.out)⟩⟩
          ·replace c23 := Bool.eq_false_iff.mpr c23
           subst c23
           have H1 : (kpt.j3 kj15 a2 t321 x8_1 (wrap64 (x8_1 + 1)) a1_1 a1_2 a1_3 a1_4 a1_5 a1_6 l1_7) = some r := by rw [if_neg (show ¬ (false = true) by decide)] at H; exact H
           clear H
           have H := H1
           clear H1
           have H' := Aside0.mk H
           clear H
           go_wp2
           go_meet
           case rel => exact ⟨_, (a1_3), H', ⟨by have := HK1.out; have := HJ9.out; have := HJ15.out; first | omega | exact Nat.le_refl _⟩, ⟨nv HO_7.out⟩, ⟨vv HOq.out⟩, ⟨kv B0.out⟩, ⟨by repeat (first | (with_reducible first | exact HB.out | apply below_alloc | apply pw_below_drewN | apply below_drew1 | refine below_set ?_ GE320.out) | exact HB.out)⟩⟩
         case rest =>
          clear HC22
          try clear c1
          try clear c2
          try clear p2
          try clear c3
          try clear p3
          try clear q3
          try clear hx3
          try clear p6
          try clear c7
          try clear c7b0
          try clear c8
          try clear c8b0
          try clear c11
          try clear c12
          try clear c12b0
          try clear c13
          try clear c19
          try clear c19b0
          try clear c19b1
          try clear c23
          try clear c24
          try clear hcz17_0
          try clear hcz17_1
          try clear hcz17_2
          try clear hcz17_3
          try clear hcz17_4
          try clear hcz17_5
          try clear hcz17_6
          try clear hcz17_7
          try clear hcz20_0
          try clear hcz20_1
          try clear hcz20_2
          try clear hcz20_3
          try clear hcz20_4
          try clear hcz20_5
          try clear hcz20_6
          try clear hcz20_7
          try clear hcz21_0
          try clear hcz21_1
          try clear hcz21_2
          try clear hcz21_3
          try clear hcz21_4
          try clear hcz21_5
          try clear hcz21_6
          try clear hcz21_7
          try clear hcz24_0
          try clear hcz24_1
          try clear hcz24_2
          try clear hcz24_3
          try clear hcz24_4
          try clear hcz24_5
          try clear hcz24_6
          try clear hcz24_7
          try clear hfz17_0
          try clear hfz17_1
          try clear hfz17_2
          try clear hfz17_3
          try clear hfz17_4
          try clear hfz17_5
          try clear hfz17_6
          try clear hfz17_7
          try clear hfz20_0
          try clear hfz20_1
          try clear hfz20_2
          try clear hfz20_3
          try clear hfz20_4
          try clear hfz20_5
          try clear hfz20_6
          try clear hfz20_7
          try clear hfz21_0
          try clear hfz21_1
          try clear hfz21_2
          try clear hfz21_3
          try clear hfz21_4
          try clear hfz21_5
          try clear hfz21_6
          try clear hfz21_7
          try clear hfz24_0
          try clear hfz24_1
          try clear hfz24_2
          try clear hfz24_3
          try clear hfz24_4
          try clear hfz24_5
          try clear hfz24_6
          try clear hfz24_7
          try clear hx324_0
          try clear hx324_1
          try clear hx324_2
          try clear hx324_3
          try clear hx324_4
          try clear hx324_5
          try clear hx324_6
          try clear hx324_7
          try clear p2
          try clear p3
          try clear p324
          try clear p6
          try clear q3
          try clear q324
          obtain ⟨kq, xu, HA, HJ21, HO_7, HOq, B0, HB⟩ := hcut
          cases kq with
          | zero => exact absurd HA.out (by simp [kpt.j3])
          | succ kj21 =>
           have H := HA.out
           clear HA
           simp only [kpt.j3] at H
           obtain ⟨y326, hy326⟩ : ∃ y_ : List (S48), y_ = (([] : List (S48))) := ⟨_, rfl⟩
           replace H : (if y326.length + t321.length < 1599289640401 then ((some (y326 ++ t321 : List (S48))).bind fun y329 => ((some (([(⟨(wrap64 (x8_1 + 1)), a1_1, a1_2, xu, a1_4, a1_5, a1_6, l1_7⟩ : S48)] : List (S48)) : List (S48))).bind fun y332 => (if y329.length + y332.length < 1599289640401 then ((some (y329 ++ y332 : List (S48))).bind fun y335 => ((keys_Find.f kj21 y335 a1_4 (wrap64 (x8_1 + 1))).bind fun bt338 => ((keys_Find.f kj21 t321 a2 x8_1).bind fun bt350 => ((keys_Find.f kj21 y335 a2 (wrap64 (x8_1 + 1))).bind fun bt362 => ((keys_Find.f kj21 y335 a2 x8_1).bind fun bt374 => (if bt338.2.2.2.2.2.2.2.2 = true then ((deadeyeref07_Same.f bt338.1 bt338.2.1 bt338.2.2.1 bt338.2.2.2.1 bt338.2.2.2.2.1 bt338.2.2.2.2.2.1 bt338.2.2.2.2.2.2.1 bt338.2.2.2.2.2.2.2.1 (wrap64 (x8_1 + 1)) a1_1 a1_2 xu a1_4 a1_5 a1_6 l1_7).bind fun t386 => (if t386 = true then (if (bt350.2.2.2.2.2.2.2.2 != bt374.2.2.2.2.2.2.2.2) = true then (kpt.j4 kj21 a2 bt350.2.2.2.2.2.2.2.2 bt362.2.2.2.2.2.2.2.2 true (wrap64 (x8_1 + 1)) a1_1 a1_2 xu a1_4 a1_5 a1_6 l1_7 bt350.1 bt350.2.1 bt350.2.2.1 bt350.2.2.2.1 bt350.2.2.2.2.1 bt350.2.2.2.2.2.1 bt350.2.2.2.2.2.2.1 bt350.2.2.2.2.2.2.2.1 bt362.1 bt362.2.1 bt362.2.2.1 bt362.2.2.2.1 bt362.2.2.2.2.1 bt362.2.2.2.2.2.1 bt362.2.2.2.2.2.2.1 bt362.2.2.2.2.2.2.2.1) else (if bt350.2.2.2.2.2.2.2.2 = true then ((deadeyeref07_Same.f bt350.1 bt350.2.1 bt350.2.2.1 bt350.2.2.2.1 bt350.2.2.2.2.1 bt350.2.2.2.2.2.1 bt350.2.2.2.2.2.2.1 bt350.2.2.2.2.2.2.2.1 bt374.1 bt374.2.1 bt374.2.2.1 bt374.2.2.2.1 bt374.2.2.2.2.1 bt374.2.2.2.2.2.1 bt374.2.2.2.2.2.2.1 bt374.2.2.2.2.2.2.2.1).bind fun t387 => (kpt.j4 kj21 a2 bt350.2.2.2.2.2.2.2.2 bt362.2.2.2.2.2.2.2.2 (!t387) (wrap64 (x8_1 + 1)) a1_1 a1_2 xu a1_4 a1_5 a1_6 l1_7 bt350.1 bt350.2.1 bt350.2.2.1 bt350.2.2.2.1 bt350.2.2.2.2.1 bt350.2.2.2.2.2.1 bt350.2.2.2.2.2.2.1 bt350.2.2.2.2.2.2.2.1 bt362.1 bt362.2.1 bt362.2.2.1 bt362.2.2.2.1 bt362.2.2.2.2.1 bt362.2.2.2.2.2.1 bt362.2.2.2.2.2.2.1 bt362.2.2.2.2.2.2.2.1)) else (kpt.j4 kj21 a2 bt350.2.2.2.2.2.2.2.2 bt362.2.2.2.2.2.2.2.2 false (wrap64 (x8_1 + 1)) a1_1 a1_2 xu a1_4 a1_5 a1_6 l1_7 bt350.1 bt350.2.1 bt350.2.2.1 bt350.2.2.2.1 bt350.2.2.2.2.1 bt350.2.2.2.2.2.1 bt350.2.2.2.2.2.2.1 bt350.2.2.2.2.2.2.2.1 bt362.1 bt362.2.1 bt362.2.2.1 bt362.2.2.2.1 bt362.2.2.2.2.1 bt362.2.2.2.2.2.1 bt362.2.2.2.2.2.2.1 bt362.2.2.2.2.2.2.2.1))) else (kpt.j4 kj21 a2 bt350.2.2.2.2.2.2.2.2 bt362.2.2.2.2.2.2.2.2 true (wrap64 (x8_1 + 1)) a1_1 a1_2 xu a1_4 a1_5 a1_6 l1_7 bt350.1 bt350.2.1 bt350.2.2.1 bt350.2.2.2.1 bt350.2.2.2.2.1 bt350.2.2.2.2.2.1 bt350.2.2.2.2.2.2.1 bt350.2.2.2.2.2.2.2.1 bt362.1 bt362.2.1 bt362.2.2.1 bt362.2.2.2.1 bt362.2.2.2.2.1 bt362.2.2.2.2.2.1 bt362.2.2.2.2.2.2.1 bt362.2.2.2.2.2.2.2.1))) else (kpt.j4 kj21 a2 bt350.2.2.2.2.2.2.2.2 bt362.2.2.2.2.2.2.2.2 true (wrap64 (x8_1 + 1)) a1_1 a1_2 xu a1_4 a1_5 a1_6 l1_7 bt350.1 bt350.2.1 bt350.2.2.1 bt350.2.2.2.1 bt350.2.2.2.2.1 bt350.2.2.2.2.2.1 bt350.2.2.2.2.2.2.1 bt350.2.2.2.2.2.2.2.1 bt362.1 bt362.2.1 bt362.2.2.1 bt362.2.2.2.1 bt362.2.2.2.2.1 bt362.2.2.2.2.2.1 bt362.2.2.2.2.2.2.1 bt362.2.2.2.2.2.2.2.1))))))) else (none)))) else (none)) = some r := by first | (rw [hy326]; with_reducible exact H) | (have H2_ := (Option.bind_some _ _).symm.trans H; rw [hy326]; with_reducible exact H2_) | (have H2_ := (Option.bind_some _ _).symm.trans H; with_reducible exact H2_) | with_reducible exact H | (rw [hy326]; exact H) | exact H
           have Ny326 := Aside0.mk hy326
           clear hy326
           by_cases c26 : y326.length + t321.length < 1599289640401
           ·rw [if_pos c26] at H
            have LMc26 := Aside0.mk c26
            clear c26
            obtain ⟨y329, hy329⟩ : ∃ y_ : List (S48), y_ = (y326 ++ t321) := ⟨_, rfl⟩
            replace H : ((some (([(⟨(wrap64 (x8_1 + 1)), a1_1, a1_2, xu, a1_4, a1_5, a1_6, l1_7⟩ : S48)] : List (S48)) : List (S48))).bind fun y332 => (if y329.length + y332.length < 1599289640401 then ((some (y329 ++ y332 : List (S48))).bind fun y335 => ((keys_Find.f kj21 y335 a1_4 (wrap64 (x8_1 + 1))).bind fun bt338 => ((keys_Find.f kj21 t321 a2 x8_1).bind fun bt350 => ((keys_Find.f kj21 y335 a2 (wrap64 (x8_1 + 1))).bind fun bt362 => ((keys_Find.f kj21 y335 a2 x8_1).bind fun bt374 => (if bt338.2.2.2.2.2.2.2.2 = true then ((deadeyeref07_Same.f bt338.1 bt338.2.1 bt338.2.2.1 bt338.2.2.2.1 bt338.2.2.2.2.1 bt338.2.2.2.2.2.1 bt338.2.2.2.2.2.2.1 bt338.2.2.2.2.2.2.2.1 (wrap64 (x8_1 + 1)) a1_1 a1_2 xu a1_4 a1_5 a1_6 l1_7).bind fun t386 => (if t386 = true then (if (bt350.2.2.2.2.2.2.2.2 != bt374.2.2.2.2.2.2.2.2) = true then (kpt.j4 kj21 a2 bt350.2.2.2.2.2.2.2.2 bt362.2.2.2.2.2.2.2.2 true (wrap64 (x8_1 + 1)) a1_1 a1_2 xu a1_4 a1_5 a1_6 l1_7 bt350.1 bt350.2.1 bt350.2.2.1 bt350.2.2.2.1 bt350.2.2.2.2.1 bt350.2.2.2.2.2.1 bt350.2.2.2.2.2.2.1 bt350.2.2.2.2.2.2.2.1 bt362.1 bt362.2.1 bt362.2.2.1 bt362.2.2.2.1 bt362.2.2.2.2.1 bt362.2.2.2.2.2.1 bt362.2.2.2.2.2.2.1 bt362.2.2.2.2.2.2.2.1) else (if bt350.2.2.2.2.2.2.2.2 = true then ((deadeyeref07_Same.f bt350.1 bt350.2.1 bt350.2.2.1 bt350.2.2.2.1 bt350.2.2.2.2.1 bt350.2.2.2.2.2.1 bt350.2.2.2.2.2.2.1 bt350.2.2.2.2.2.2.2.1 bt374.1 bt374.2.1 bt374.2.2.1 bt374.2.2.2.1 bt374.2.2.2.2.1 bt374.2.2.2.2.2.1 bt374.2.2.2.2.2.2.1 bt374.2.2.2.2.2.2.2.1).bind fun t387 => (kpt.j4 kj21 a2 bt350.2.2.2.2.2.2.2.2 bt362.2.2.2.2.2.2.2.2 (!t387) (wrap64 (x8_1 + 1)) a1_1 a1_2 xu a1_4 a1_5 a1_6 l1_7 bt350.1 bt350.2.1 bt350.2.2.1 bt350.2.2.2.1 bt350.2.2.2.2.1 bt350.2.2.2.2.2.1 bt350.2.2.2.2.2.2.1 bt350.2.2.2.2.2.2.2.1 bt362.1 bt362.2.1 bt362.2.2.1 bt362.2.2.2.1 bt362.2.2.2.2.1 bt362.2.2.2.2.2.1 bt362.2.2.2.2.2.2.1 bt362.2.2.2.2.2.2.2.1)) else (kpt.j4 kj21 a2 bt350.2.2.2.2.2.2.2.2 bt362.2.2.2.2.2.2.2.2 false (wrap64 (x8_1 + 1)) a1_1 a1_2 xu a1_4 a1_5 a1_6 l1_7 bt350.1 bt350.2.1 bt350.2.2.1 bt350.2.2.2.1 bt350.2.2.2.2.1 bt350.2.2.2.2.2.1 bt350.2.2.2.2.2.2.1 bt350.2.2.2.2.2.2.2.1 bt362.1 bt362.2.1 bt362.2.2.1 bt362.2.2.2.1 bt362.2.2.2.2.1 bt362.2.2.2.2.2.1 bt362.2.2.2.2.2.2.1 bt362.2.2.2.2.2.2.2.1))) else (kpt.j4 kj21 a2 bt350.2.2.2.2.2.2.2.2 bt362.2.2.2.2.2.2.2.2 true (wrap64 (x8_1 + 1)) a1_1 a1_2 xu a1_4 a1_5 a1_6 l1_7 bt350.1 bt350.2.1 bt350.2.2.1 bt350.2.2.2.1 bt350.2.2.2.2.1 bt350.2.2.2.2.2.1 bt350.2.2.2.2.2.2.1 bt350.2.2.2.2.2.2.2.1 bt362.1 bt362.2.1 bt362.2.2.1 bt362.2.2.2.1 bt362.2.2.2.2.1 bt362.2.2.2.2.2.1 bt362.2.2.2.2.2.2.1 bt362.2.2.2.2.2.2.2.1))) else (kpt.j4 kj21 a2 bt350.2.2.2.2.2.2.2.2 bt362.2.2.2.2.2.2.2.2 true (wrap64 (x8_1 + 1)) a1_1 a1_2 xu a1_4 a1_5 a1_6 l1_7 bt350.1 bt350.2.1 bt350.2.2.1 bt350.2.2.2.1 bt350.2.2.2.2.1 bt350.2.2.2.2.2.1 bt350.2.2.2.2.2.2.1 bt350.2.2.2.2.2.2.2.1 bt362.1 bt362.2.1 bt362.2.2.1 bt362.2.2.2.1 bt362.2.2.2.2.1 bt362.2.2.2.2.2.1 bt362.2.2.2.2.2.2.1 bt362.2.2.2.2.2.2.2.1))))))) else (none))) = some r := by first | (rw [hy329]; with_reducible exact H) | (have H2_ := (Option.bind_some _ _).symm.trans H; rw [hy329]; with_reducible exact H2_) | (have H2_ := (Option.bind_some _ _).symm.trans H; with_reducible exact H2_) | with_reducible exact H | (rw [hy329]; exact H) | exact H
            have Ny329 := Aside0.mk hy329
            clear hy329
            obtain ⟨y332, hy332⟩ : ∃ y_ : List (S48), y_ = (([(⟨(wrap64 (x8_1 + 1)), a1_1, a1_2, xu, a1_4, a1_5, a1_6, l1_7⟩ : S48)] : List (S48))) := ⟨_, rfl⟩
            replace H : (if y329.length + y332.length < 1599289640401 then ((some (y329 ++ y332 : List (S48))).bind fun y335 => ((keys_Find.f kj21 y335 a1_4 (wrap64 (x8_1 + 1))).bind fun bt338 => ((keys_Find.f kj21 t321 a2 x8_1).bind fun bt350 => ((keys_Find.f kj21 y335 a2 (wrap64 (x8_1 + 1))).bind fun bt362 => ((keys_Find.f kj21 y335 a2 x8_1).bind fun bt374 => (if bt338.2.2.2.2.2.2.2.2 = true then ((deadeyeref07_Same.f bt338.1 bt338.2.1 bt338.2.2.1 bt338.2.2.2.1 bt338.2.2.2.2.1 bt338.2.2.2.2.2.1 bt338.2.2.2.2.2.2.1 bt338.2.2.2.2.2.2.2.1 (wrap64 (x8_1 + 1)) a1_1 a1_2 xu a1_4 a1_5 a1_6 l1_7).bind fun t386 => (if t386 = true then (if (bt350.2.2.2.2.2.2.2.2 != bt374.2.2.2.2.2.2.2.2) = true then (kpt.j4 kj21 a2 bt350.2.2.2.2.2.2.2.2 bt362.2.2.2.2.2.2.2.2 true (wrap64 (x8_1 + 1)) a1_1 a1_2 xu a1_4 a1_5 a1_6 l1_7 bt350.1 bt350.2.1 bt350.2.2.1 bt350.2.2.2.1 bt350.2.2.2.2.1 bt350.2.2.2.2.2.1 bt350.2.2.2.2.2.2.1 bt350.2.2.2.2.2.2.2.1 bt362.1 bt362.2.1 bt362.2.2.1 bt362.2.2.2.1 bt362.2.2.2.2.1 bt362.2.2.2.2.2.1 bt362.2.2.2.2.2.2.1 bt362.2.2.2.2.2.2.2.1) else (if bt350.2.2.2.2.2.2.2.2 = true then ((deadeyeref07_Same.f bt350.1 bt350.2.1 bt350.2.2.1 bt350.2.2.2.1 bt350.2.2.2.2.1 bt350.2.2.2.2.2.1 bt350.2.2.2.2.2.2.1 bt350.2.2.2.2.2.2.2.1 bt374.1 bt374.2.1 bt374.2.2.1 bt374.2.2.2.1 bt374.2.2.2.2.1 bt374.2.2.2.2.2.1 bt374.2.2.2.2.2.2.1 bt374.2.2.2.2.2.2.2.1).bind fun t387 => (kpt.j4 kj21 a2 bt350.2.2.2.2.2.2.2.2 bt362.2.2.2.2.2.2.2.2 (!t387) (wrap64 (x8_1 + 1)) a1_1 a1_2 xu a1_4 a1_5 a1_6 l1_7 bt350.1 bt350.2.1 bt350.2.2.1 bt350.2.2.2.1 bt350.2.2.2.2.1 bt350.2.2.2.2.2.1 bt350.2.2.2.2.2.2.1 bt350.2.2.2.2.2.2.2.1 bt362.1 bt362.2.1 bt362.2.2.1 bt362.2.2.2.1 bt362.2.2.2.2.1 bt362.2.2.2.2.2.1 bt362.2.2.2.2.2.2.1 bt362.2.2.2.2.2.2.2.1)) else (kpt.j4 kj21 a2 bt350.2.2.2.2.2.2.2.2 bt362.2.2.2.2.2.2.2.2 false (wrap64 (x8_1 + 1)) a1_1 a1_2 xu a1_4 a1_5 a1_6 l1_7 bt350.1 bt350.2.1 bt350.2.2.1 bt350.2.2.2.1 bt350.2.2.2.2.1 bt350.2.2.2.2.2.1 bt350.2.2.2.2.2.2.1 bt350.2.2.2.2.2.2.2.1 bt362.1 bt362.2.1 bt362.2.2.1 bt362.2.2.2.1 bt362.2.2.2.2.1 bt362.2.2.2.2.2.1 bt362.2.2.2.2.2.2.1 bt362.2.2.2.2.2.2.2.1))) else (kpt.j4 kj21 a2 bt350.2.2.2.2.2.2.2.2 bt362.2.2.2.2.2.2.2.2 true (wrap64 (x8_1 + 1)) a1_1 a1_2 xu a1_4 a1_5 a1_6 l1_7 bt350.1 bt350.2.1 bt350.2.2.1 bt350.2.2.2.1 bt350.2.2.2.2.1 bt350.2.2.2.2.2.1 bt350.2.2.2.2.2.2.1 bt350.2.2.2.2.2.2.2.1 bt362.1 bt362.2.1 bt362.2.2.1 bt362.2.2.2.1 bt362.2.2.2.2.1 bt362.2.2.2.2.2.1 bt362.2.2.2.2.2.2.1 bt362.2.2.2.2.2.2.2.1))) else (kpt.j4 kj21 a2 bt350.2.2.2.2.2.2.2.2 bt362.2.2.2.2.2.2.2.2 true (wrap64 (x8_1 + 1)) a1_1 a1_2 xu a1_4 a1_5 a1_6 l1_7 bt350.1 bt350.2.1 bt350.2.2.1 bt350.2.2.2.1 bt350.2.2.2.2.1 bt350.2.2.2.2.2.1 bt350.2.2.2.2.2.2.1 bt350.2.2.2.2.2.2.2.1 bt362.1 bt362.2.1 bt362.2.2.1 bt362.2.2.2.1 bt362.2.2.2.2.1 bt362.2.2.2.2.2.1 bt362.2.2.2.2.2.2.1 bt362.2.2.2.2.2.2.2.1))))))) else (none)) = some r := by first | (rw [hy332]; with_reducible exact H) | (have H2_ := (Option.bind_some _ _).symm.trans H; rw [hy332]; with_reducible exact H2_) | (have H2_ := (Option.bind_some _ _).symm.trans H; with_reducible exact H2_) | with_reducible exact H | (rw [hy332]; exact H) | exact H
            have Ny332 := Aside0.mk hy332
            clear hy332
            by_cases c27 : y329.length + y332.length < 1599289640401
            ·rw [if_pos c27] at H
             have LMc27 := Aside0.mk c27
             clear c27
             obtain ⟨y335, hy335⟩ : ∃ y_ : List (S48), y_ = (y329 ++ y332) := ⟨_, rfl⟩
             replace H : ((keys_Find.f kj21 y335 a1_4 (wrap64 (x8_1 + 1))).bind fun bt338 => ((keys_Find.f kj21 t321 a2 x8_1).bind fun bt350 => ((keys_Find.f kj21 y335 a2 (wrap64 (x8_1 + 1))).bind fun bt362 => ((keys_Find.f kj21 y335 a2 x8_1).bind fun bt374 => (if bt338.2.2.2.2.2.2.2.2 = true then ((deadeyeref07_Same.f bt338.1 bt338.2.1 bt338.2.2.1 bt338.2.2.2.1 bt338.2.2.2.2.1 bt338.2.2.2.2.2.1 bt338.2.2.2.2.2.2.1 bt338.2.2.2.2.2.2.2.1 (wrap64 (x8_1 + 1)) a1_1 a1_2 xu a1_4 a1_5 a1_6 l1_7).bind fun t386 => (if t386 = true then (if (bt350.2.2.2.2.2.2.2.2 != bt374.2.2.2.2.2.2.2.2) = true then (kpt.j4 kj21 a2 bt350.2.2.2.2.2.2.2.2 bt362.2.2.2.2.2.2.2.2 true (wrap64 (x8_1 + 1)) a1_1 a1_2 xu a1_4 a1_5 a1_6 l1_7 bt350.1 bt350.2.1 bt350.2.2.1 bt350.2.2.2.1 bt350.2.2.2.2.1 bt350.2.2.2.2.2.1 bt350.2.2.2.2.2.2.1 bt350.2.2.2.2.2.2.2.1 bt362.1 bt362.2.1 bt362.2.2.1 bt362.2.2.2.1 bt362.2.2.2.2.1 bt362.2.2.2.2.2.1 bt362.2.2.2.2.2.2.1 bt362.2.2.2.2.2.2.2.1) else (if bt350.2.2.2.2.2.2.2.2 = true then ((deadeyeref07_Same.f bt350.1 bt350.2.1 bt350.2.2.1 bt350.2.2.2.1 bt350.2.2.2.2.1 bt350.2.2.2.2.2.1 bt350.2.2.2.2.2.2.1 bt350.2.2.2.2.2.2.2.1 bt374.1 bt374.2.1 bt374.2.2.1 bt374.2.2.2.1 bt374.2.2.2.2.1 bt374.2.2.2.2.2.1 bt374.2.2.2.2.2.2.1 bt374.2.2.2.2.2.2.2.1).bind fun t387 => (kpt.j4 kj21 a2 bt350.2.2.2.2.2.2.2.2 bt362.2.2.2.2.2.2.2.2 (!t387) (wrap64 (x8_1 + 1)) a1_1 a1_2 xu a1_4 a1_5 a1_6 l1_7 bt350.1 bt350.2.1 bt350.2.2.1 bt350.2.2.2.1 bt350.2.2.2.2.1 bt350.2.2.2.2.2.1 bt350.2.2.2.2.2.2.1 bt350.2.2.2.2.2.2.2.1 bt362.1 bt362.2.1 bt362.2.2.1 bt362.2.2.2.1 bt362.2.2.2.2.1 bt362.2.2.2.2.2.1 bt362.2.2.2.2.2.2.1 bt362.2.2.2.2.2.2.2.1)) else (kpt.j4 kj21 a2 bt350.2.2.2.2.2.2.2.2 bt362.2.2.2.2.2.2.2.2 false (wrap64 (x8_1 + 1)) a1_1 a1_2 xu a1_4 a1_5 a1_6 l1_7 bt350.1 bt350.2.1 bt350.2.2.1 bt350.2.2.2.1 bt350.2.2.2.2.1 bt350.2.2.2.2.2.1 bt350.2.2.2.2.2.2.1 bt350.2.2.2.2.2.2.2.1 bt362.1 bt362.2.1 bt362.2.2.1 bt362.2.2.2.1 bt362.2.2.2.2.1 bt362.2.2.2.2.2.1 bt362.2.2.2.2.2.2.1 bt362.2.2.2.2.2.2.2.1))) else (kpt.j4 kj21 a2 bt350.2.2.2.2.2.2.2.2 bt362.2.2.2.2.2.2.2.2 true (wrap64 (x8_1 + 1)) a1_1 a1_2 xu a1_4 a1_5 a1_6 l1_7 bt350.1 bt350.2.1 bt350.2.2.1 bt350.2.2.2.1 bt350.2.2.2.2.1 bt350.2.2.2.2.2.1 bt350.2.2.2.2.2.2.1 bt350.2.2.2.2.2.2.2.1 bt362.1 bt362.2.1 bt362.2.2.1 bt362.2.2.2.1 bt362.2.2.2.2.1 bt362.2.2.2.2.2.1 bt362.2.2.2.2.2.2.1 bt362.2.2.2.2.2.2.2.1))) else (kpt.j4 kj21 a2 bt350.2.2.2.2.2.2.2.2 bt362.2.2.2.2.2.2.2.2 true (wrap64 (x8_1 + 1)) a1_1 a1_2 xu a1_4 a1_5 a1_6 l1_7 bt350.1 bt350.2.1 bt350.2.2.1 bt350.2.2.2.1 bt350.2.2.2.2.1 bt350.2.2.2.2.2.1 bt350.2.2.2.2.2.2.1 bt350.2.2.2.2.2.2.2.1 bt362.1 bt362.2.1 bt362.2.2.1 bt362.2.2.2.1 bt362.2.2.2.2.1 bt362.2.2.2.2.2.1 bt362.2.2.2.2.2.2.1 bt362.2.2.2.2.2.2.2.1)))))) = some r := by first | (rw [hy335]; with_reducible exact H) | (have H2_ := (Option.bind_some _ _).symm.trans H; rw [hy335]; with_reducible exact H2_) | (have H2_ := (Option.bind_some _ _).symm.trans H; with_reducible exact H2_) | with_reducible exact H | (rw [hy335]; exact H) | exact H
             have Ny335 := Aside0.mk hy335
             clear hy335
             replace H := Option.bind_eq_some_iff.mp H
             obtain ⟨⟨t338, t339, t340, t341, t342, t343, t344, t345, t348⟩, A280, H⟩ := H
             replace H : ((keys_Find.f kj21 t321 a2 x8_1).bind fun bt350 => ((keys_Find.f kj21 y335 a2 (wrap64 (x8_1 + 1))).bind fun bt362 => ((keys_Find.f kj21 y335 a2 x8_1).bind fun bt374 => (if t348 = true then ((deadeyeref07_Same.f t338 t339 t340 t341 t342 t343 t344 t345 (wrap64 (x8_1 + 1)) a1_1 a1_2 xu a1_4 a1_5 a1_6 l1_7).bind fun t386 => (if t386 = true then (if (bt350.2.2.2.2.2.2.2.2 != bt374.2.2.2.2.2.2.2.2) = true then (kpt.j4 kj21 a2 bt350.2.2.2.2.2.2.2.2 bt362.2.2.2.2.2.2.2.2 true (wrap64 (x8_1 + 1)) a1_1 a1_2 xu a1_4 a1_5 a1_6 l1_7 bt350.1 bt350.2.1 bt350.2.2.1 bt350.2.2.2.1 bt350.2.2.2.2.1 bt350.2.2.2.2.2.1 bt350.2.2.2.2.2.2.1 bt350.2.2.2.2.2.2.2.1 bt362.1 bt362.2.1 bt362.2.2.1 bt362.2.2.2.1 bt362.2.2.2.2.1 bt362.2.2.2.2.2.1 bt362.2.2.2.2.2.2.1 bt362.2.2.2.2.2.2.2.1) else (if bt350.2.2.2.2.2.2.2.2 = true then ((deadeyeref07_Same.f bt350.1 bt350.2.1 bt350.2.2.1 bt350.2.2.2.1 bt350.2.2.2.2.1 bt350.2.2.2.2.2.1 bt350.2.2.2.2.2.2.1 bt350.2.2.2.2.2.2.2.1 bt374.1 bt374.2.1 bt374.2.2.1 bt374.2.2.2.1 bt374.2.2.2.2.1 bt374.2.2.2.2.2.1 bt374.2.2.2.2.2.2.1 bt374.2.2.2.2.2.2.2.1).bind fun t387 => (kpt.j4 kj21 a2 bt350.2.2.2.2.2.2.2.2 bt362.2.2.2.2.2.2.2.2 (!t387) (wrap64 (x8_1 + 1)) a1_1 a1_2 xu a1_4 a1_5 a1_6 l1_7 bt350.1 bt350.2.1 bt350.2.2.1 bt350.2.2.2.1 bt350.2.2.2.2.1 bt350.2.2.2.2.2.1 bt350.2.2.2.2.2.2.1 bt350.2.2.2.2.2.2.2.1 bt362.1 bt362.2.1 bt362.2.2.1 bt362.2.2.2.1 bt362.2.2.2.2.1 bt362.2.2.2.2.2.1 bt362.2.2.2.2.2.2.1 bt362.2.2.2.2.2.2.2.1)) else (kpt.j4 kj21 a2 bt350.2.2.2.2.2.2.2.2 bt362.2.2.2.2.2.2.2.2 false (wrap64 (x8_1 + 1)) a1_1 a1_2 xu a1_4 a1_5 a1_6 l1_7 bt350.1 bt350.2.1 bt350.2.2.1 bt350.2.2.2.1 bt350.2.2.2.2.1 bt350.2.2.2.2.2.1 bt350.2.2.2.2.2.2.1 bt350.2.2.2.2.2.2.2.1 bt362.1 bt362.2.1 bt362.2.2.1 bt362.2.2.2.1 bt362.2.2.2.2.1 bt362.2.2.2.2.2.1 bt362.2.2.2.2.2.2.1 bt362.2.2.2.2.2.2.2.1))) else (kpt.j4 kj21 a2 bt350.2.2.2.2.2.2.2.2 bt362.2.2.2.2.2.2.2.2 true (wrap64 (x8_1 + 1)) a1_1 a1_2 xu a1_4 a1_5 a1_6 l1_7 bt350.1 bt350.2.1 bt350.2.2.1 bt350.2.2.2.1 bt350.2.2.2.2.1 bt350.2.2.2.2.2.1 bt350.2.2.2.2.2.2.1 bt350.2.2.2.2.2.2.2.1 bt362.1 bt362.2.1 bt362.2.2.1 bt362.2.2.2.1 bt362.2.2.2.2.1 bt362.2.2.2.2.2.1 bt362.2.2.2.2.2.2.1 bt362.2.2.2.2.2.2.2.1))) else (kpt.j4 kj21 a2 bt350.2.2.2.2.2.2.2.2 bt362.2.2.2.2.2.2.2.2 true (wrap64 (x8_1 + 1)) a1_1 a1_2 xu a1_4 a1_5 a1_6 l1_7 bt350.1 bt350.2.1 bt350.2.2.1 bt350.2.2.2.1 bt350.2.2.2.2.1 bt350.2.2.2.2.2.1 bt350.2.2.2.2.2.2.1 bt350.2.2.2.2.2.2.2.1 bt362.1 bt362.2.1 bt362.2.2.1 bt362.2.2.2.1 bt362.2.2.2.2.1 bt362.2.2.2.2.2.1 bt362.2.2.2.2.2.2.1 bt362.2.2.2.2.2.2.2.1))))) = some r := H
             have A28 := Aside0.mk A280
             clear A280
             replace H := Option.bind_eq_some_iff.mp H
             obtain ⟨⟨t350, t351, t352, t353, t354, t355, t356, t357, t360⟩, A290, H⟩ := H
             replace H : ((keys_Find.f kj21 y335 a2 (wrap64 (x8_1 + 1))).bind fun bt362 => ((keys_Find.f kj21 y335 a2 x8_1).bind fun bt374 => (if t348 = true then ((deadeyeref07_Same.f t338 t339 t340 t341 t342 t343 t344 t345 (wrap64 (x8_1 + 1)) a1_1 a1_2 xu a1_4 a1_5 a1_6 l1_7).bind fun t386 => (if t386 = true then (if (t360 != bt374.2.2.2.2.2.2.2.2) = true then (kpt.j4 kj21 a2 t360 bt362.2.2.2.2.2.2.2.2 true (wrap64 (x8_1 + 1)) a1_1 a1_2 xu a1_4 a1_5 a1_6 l1_7 t350 t351 t352 t353 t354 t355 t356 t357 bt362.1 bt362.2.1 bt362.2.2.1 bt362.2.2.2.1 bt362.2.2.2.2.1 bt362.2.2.2.2.2.1 bt362.2.2.2.2.2.2.1 bt362.2.2.2.2.2.2.2.1) else (if t360 = true then ((deadeyeref07_Same.f t350 t351 t352 t353 t354 t355 t356 t357 bt374.1 bt374.2.1 bt374.2.2.1 bt374.2.2.2.1 bt374.2.2.2.2.1 bt374.2.2.2.2.2.1 bt374.2.2.2.2.2.2.1 bt374.2.2.2.2.2.2.2.1).bind fun t387 => (kpt.j4 kj21 a2 t360 bt362.2.2.2.2.2.2.2.2 (!t387) (wrap64 (x8_1 + 1)) a1_1 a1_2 xu a1_4 a1_5 a1_6 l1_7 t350 t351 t352 t353 t354 t355 t356 t357 bt362.1 bt362.2.1 bt362.2.2.1 bt362.2.2.2.1 bt362.2.2.2.2.1 bt362.2.2.2.2.2.1 bt362.2.2.2.2.2.2.1 bt362.2.2.2.2.2.2.2.1)) else (kpt.j4 kj21 a2 t360 bt362.2.2.2.2.2.2.2.2 false (wrap64 (x8_1 + 1)) a1_1 a1_2 xu a1_4 a1_5 a1_6 l1_7 t350 t351 t352 t353 t354 t355 t356 t357 bt362.1 bt362.2.1 bt362.2.2.1 bt362.2.2.2.1 bt362.2.2.2.2.1 bt362.2.2.2.2.2.1 bt362.2.2.2.2.2.2.1 bt362.2.2.2.2.2.2.2.1))) else (kpt.j4 kj21 a2 t360 bt362.2.2.2.2.2.2.2.2 true (wrap64 (x8_1 + 1)) a1_1 a1_2 xu a1_4 a1_5 a1_6 l1_7 t350 t351 t352 t353 t354 t355 t356 t357 bt362.1 bt362.2.1 bt362.2.2.1 bt362.2.2.2.1 bt362.2.2.2.2.1 bt362.2.2.2.2.2.1 bt362.2.2.2.2.2.2.1 bt362.2.2.2.2.2.2.2.1))) else (kpt.j4 kj21 a2 t360 bt362.2.2.2.2.2.2.2.2 true (wrap64 (x8_1 + 1)) a1_1 a1_2 xu a1_4 a1_5 a1_6 l1_7 t350 t351 t352 t353 t354 t355 t356 t357 bt362.1 bt362.2.1 bt362.2.2.1 bt362.2.2.2.1 bt362.2.2.2.2.1 bt362.2.2.2.2.2.1 bt362.2.2.2.2.2.2.1 bt362.2.2.2.2.2.2.2.1)))) = some r := H
             have A29 := Aside0.mk A290
             clear A290
             replace H := Option.bind_eq_some_iff.mp H
             obtain ⟨⟨t362, t363, t364, t365, t366, t367, t368, t369, t372⟩, A300, H⟩ := H
             replace H : ((keys_Find.f kj21 y335 a2 x8_1).bind fun bt374 => (if t348 = true then ((deadeyeref07_Same.f t338 t339 t340 t341 t342 t343 t344 t345 (wrap64 (x8_1 + 1)) a1_1 a1_2 xu a1_4 a1_5 a1_6 l1_7).bind fun t386 => (if t386 = true then (if (t360 != bt374.2.2.2.2.2.2.2.2) = true then (kpt.j4 kj21 a2 t360 t372 true (wrap64 (x8_1 + 1)) a1_1 a1_2 xu a1_4 a1_5 a1_6 l1_7 t350 t351 t352 t353 t354 t355 t356 t357 t362 t363 t364 t365 t366 t367 t368 t369) else (if t360 = true then ((deadeyeref07_Same.f t350 t351 t352 t353 t354 t355 t356 t357 bt374.1 bt374.2.1 bt374.2.2.1 bt374.2.2.2.1 bt374.2.2.2.2.1 bt374.2.2.2.2.2.1 bt374.2.2.2.2.2.2.1 bt374.2.2.2.2.2.2.2.1).bind fun t387 => (kpt.j4 kj21 a2 t360 t372 (!t387) (wrap64 (x8_1 + 1)) a1_1 a1_2 xu a1_4 a1_5 a1_6 l1_7 t350 t351 t352 t353 t354 t355 t356 t357 t362 t363 t364 t365 t366 t367 t368 t369)) else (kpt.j4 kj21 a2 t360 t372 false (wrap64 (x8_1 + 1)) a1_1 a1_2 xu a1_4 a1_5 a1_6 l1_7 t350 t351 t352 t353 t354 t355 t356 t357 t362 t363 t364 t365 t366 t367 t368 t369))) else (kpt.j4 kj21 a2 t360 t372 true (wrap64 (x8_1 + 1)) a1_1 a1_2 xu a1_4 a1_5 a1_6 l1_7 t350 t351 t352 t353 t354 t355 t356 t357 t362 t363 t364 t365 t366 t367 t368 t369))) else (kpt.j4 kj21 a2 t360 t372 true (wrap64 (x8_1 + 1)) a1_1 a1_2 xu a1_4 a1_5 a1_6 l1_7 t350 t351 t352 t353 t354 t355 t356 t357 t362 t363 t364 t365 t366 t367 t368 t369))) = some r := H
             have A30 := Aside0.mk A300
             clear A300
             replace H := Option.bind_eq_some_iff.mp H
             obtain ⟨⟨t374, t375, t376, t377, t378, t379, t380, t381, t384⟩, A310, H⟩ := H
             replace H : (if t348 = true then ((deadeyeref07_Same.f t338 t339 t340 t341 t342 t343 t344 t345 (wrap64 (x8_1 + 1)) a1_1 a1_2 xu a1_4 a1_5 a1_6 l1_7).bind fun t386 => (if t386 = true then (if (t360 != t384) = true then (kpt.j4 kj21 a2 t360 t372 true (wrap64 (x8_1 + 1)) a1_1 a1_2 xu a1_4 a1_5 a1_6 l1_7 t350 t351 t352 t353 t354 t355 t356 t357 t362 t363 t364 t365 t366 t367 t368 t369) else (if t360 = true then ((deadeyeref07_Same.f t350 t351 t352 t353 t354 t355 t356 t357 t374 t375 t376 t377 t378 t379 t380 t381).bind fun t387 => (kpt.j4 kj21 a2 t360 t372 (!t387) (wrap64 (x8_1 + 1)) a1_1 a1_2 xu a1_4 a1_5 a1_6 l1_7 t350 t351 t352 t353 t354 t355 t356 t357 t362 t363 t364 t365 t366 t367 t368 t369)) else (kpt.j4 kj21 a2 t360 t372 false (wrap64 (x8_1 + 1)) a1_1 a1_2 xu a1_4 a1_5 a1_6 l1_7 t350 t351 t352 t353 t354 t355 t356 t357 t362 t363 t364 t365 t366 t367 t368 t369))) else (kpt.j4 kj21 a2 t360 t372 true (wrap64 (x8_1 + 1)) a1_1 a1_2 xu a1_4 a1_5 a1_6 l1_7 t350 t351 t352 t353 t354 t355 t356 t357 t362 t363 t364 t365 t366 t367 t368 t369))) else (kpt.j4 kj21 a2 t360 t372 true (wrap64 (x8_1 + 1)) a1_1 a1_2 xu a1_4 a1_5 a1_6 l1_7 t350 t351 t352 t353 t354 t355 t356 t357 t362 t363 t364 t365 t366 t367 t368 t369)) = some r := H
             have A31 := Aside0.mk A310
             clear A310
             have HC32 := Aside0.mk H
             clear H
             try go_wp2
             have n0_ := Aside0.mk (Kd.N_drew HO_7.out)
             have n1_ := Aside0.mk (Kd.V_drew HOq.out)
             have n2_ := Aside0.mk (blk_drew B0.out)
             have n3_ := Aside0.mk (below_drew1 HB.out)
             clear HO_7
             clear HOq
             clear B0
             clear HB
             have HO_7 := n0_
             have HOq := n1_
             have B0 := n2_
             have HB := n3_
             clear n0_ n1_ n2_ n3_
             refine start_ (n := 7) (S := fun w' => w'.cell? ⟨g0, 0, none⟩ = some (.int .i64 (wrap64 (x8_1 + 1))) ∧ w'.cell? ⟨g0, 1, none⟩ = some (.int .i64 a1_1) ∧ w'.cell? ⟨g0, 2, none⟩ = some (.int .i64 a1_2) ∧ w'.cell? ⟨g0, 3, none⟩ = some (.int .i64 xu) ∧ w'.cell? ⟨g0, 4, none⟩ = some (.string a1_4) ∧ w'.cell? ⟨g0, 5, none⟩ = some (.int .i64 a1_5) ∧ w'.cell? ⟨g0, 6, none⟩ = some (.int .u32 a1_6) ∧ w'.cell? ⟨g0, 7, none⟩ = some (.slice A1_7 l1_7.length c1_7)) (ds := []) #[false, false, false, false, false, false, false] (by kernel_rfl) rfl rfl ⟨(blk_cell B0.out 0).trans rfl, (blk_cell B0.out 1).trans rfl, (blk_cell B0.out 2).trans rfl, (blk_cell B0.out 3).trans rfl, (blk_cell B0.out 4).trans rfl, (blk_cell B0.out 5).trans rfl, (blk_cell B0.out 6).trans rfl, (blk_cell B0.out 7).trans rfl⟩ (fun hHeld => ?_)
             generalize wc.drew = w33 at HO_7 HOq B0 HB hHeld ⊢
             refine pure_ (i := 1) (N := some 52) (v := ?_) (a' := ?_) #[false, true, false, false, false, false, false] rfl rfl (by kernel_rfl) (fun _ _ _ h => h) (Or.inl ⟨by rfl, ?_⟩) ?_ ?_
             rotate_left
             ·intro w'
              go_simp
              with_reducible rfl
             rotate_left
             ·simp only [Act.put, List.setIfInBounds_toArray, List.set_cons_zero, List.set_cons_succ, i64_w, i32_w]
              rfl
             refine take_ (i := 3) (N := some 54) (v := ?_) (a' := ?_) #[false, true, false, true, false, false, false] rfl rfl (by kernel_rfl) (fun _ _ _ h => h) (Or.inl ⟨by rfl, ?_⟩) hHeld ?_ ?_
             rotate_left
             ·rintro w' ⟨s0, s1, s2, s3, s4, s5, s6, s7⟩
              go_simp
              with_reducible rfl
             rotate_left
             ·simp only [Act.put, List.setIfInBounds_toArray, List.set_cons_zero, List.set_cons_succ, i64_w, i32_w]
              rfl
             refine join_ (σ := Value × Value × Value) 2 #[true, true, true, true, true, false, false] (fun s_ => [(51, s_.1), (53, s_.2.1), (55, s_.2.2)]) (fun s_ w' => (w'.cell? ⟨g0, 0, none⟩ = some (.int .i64 (wrap64 (x8_1 + 1))) ∧ w'.cell? ⟨g0, 1, none⟩ = some (.int .i64 a1_1) ∧ w'.cell? ⟨g0, 2, none⟩ = some (.int .i64 a1_2) ∧ w'.cell? ⟨g0, 3, none⟩ = some (.int .i64 xu) ∧ w'.cell? ⟨g0, 4, none⟩ = some (.string a1_4) ∧ w'.cell? ⟨g0, 5, none⟩ = some (.int .i64 a1_5) ∧ w'.cell? ⟨g0, 6, none⟩ = some (.int .u32 a1_6) ∧ w'.cell? ⟨g0, 7, none⟩ = some (.slice A1_7 l1_7.length c1_7)) ∧ (Kd.N k48 48 w' w.heap.size (fun k_ => ((P0_ k_ ∨ P1_7_ k_) ∨ w.heap.size ≤ k_) ∧ some k_ ≠ (s_.2.2 : Value).ownBlock ∧ k_ ≠ g0) s_.2.1 y329) ∧ (Kd.N k48 48 w' w.heap.size (fun k_ => ((P0_ k_ ∨ P1_7_ k_) ∨ w.heap.size ≤ k_) ∧ some k_ ≠ (s_.2.1 : Value).ownBlock ∧ some k_ ≠ (.slice Ao11 t321.length co11 : Value).ownBlock ∧ k_ ≠ g0) s_.2.2 y332) ∧ (Kd.V (Kd.int .u8) 5 w' w.heap.size (fun k_ => ((P0_ k_ ∨ P1_7_ k_) ∨ w.heap.size ≤ k_) ∧ some k_ ≠ (s_.2.1 : Value).ownBlock ∧ some k_ ≠ (s_.2.2 : Value).ownBlock ∧ some k_ ≠ (.slice Ao11 t321.length co11 : Value).ownBlock ∧ k_ ≠ g0) (.slice A1_7 l1_7.length c1_7) l1_7) ∧ (Kd.N k48 48 w' w.heap.size (fun k_ => ((P0_ k_ ∨ P1_7_ k_) ∨ w.heap.size ≤ k_) ∧ some k_ ≠ (s_.2.1 : Value).ownBlock ∧ some k_ ≠ (s_.2.2 : Value).ownBlock ∧ k_ ≠ g0) (.slice Ao11 t321.length co11) t321) ∧ (w'.heap[g0]? = some (.cells #[.int .i64 (wrap64 (x8_1 + 1)), .int .i64 a1_1, .int .i64 a1_2, .int .i64 xu, .string a1_4, .int .i64 a1_5, .int .u32 a1_6, .slice A1_7 l1_7.length c1_7] 48 (0, 0))) ∧ (Below w.heap.size w w')) ?_ ?_
             rotate_left
             ·intro hCont
              refine two_ (i := 0) (j := 4) (Ni := some 51) (Nj := some 55) #[true, true, false, true, false, false, false] #[false, true, false, true, true, false, false] rfl rfl rfl rfl (by kernel_rfl) (by decide) (by decide) (fun K hK => ?_) (fun K hK => ?_)
              ·skip
               refine Kd.N_lit_step k48 _ 48 ?hg (N' := 51) ?hd (xs := ([] : List (S48))) (inner := []) (ok := (fun k_ => ((P0_ k_ ∨ P1_7_ k_) ∨ w.heap.size ≤ k_) ∧ some k_ ≠ (.slice Ao11 t321.length co11 : Value).ownBlock ∧ k_ ≠ g0)) (okp := (fun k_ => ((P0_ k_ ∨ P1_7_ k_) ∨ w.heap.size ≤ k_) ∧ some k_ ≠ (.slice Ao11 t321.length co11 : Value).ownBlock ∧ k_ ≠ g0)) ?hr ?hp (fun _ hk => hk) ((show ∀ k_, w33.heap.size ≤ k_ → (fun k_ => ((P0_ k_ ∨ P1_7_ k_) ∨ w.heap.size ≤ k_) ∧ some k_ ≠ (.slice Ao11 t321.length co11 : Value).ownBlock ∧ k_ ≠ g0) k_ from fun k_ hk => ⟨(.inr (Nat.le_trans (below_size (by repeat (first | (with_reducible first | exact HB.out | apply below_alloc | apply pw_below_drewN | apply below_drew1 | refine below_set ?_ GE320.out) | exact HB.out))) hk)), Kd.fresh' (Kd.N_lt (nv HO_7.out)) k_ hk, Kd.freshB (g := g0) (o := .cells #[.int .i64 (wrap64 (x8_1 + 1)), .int .i64 a1_1, .int .i64 a1_2, .int .i64 xu, .string a1_4, .int .i64 a1_5, .int .u32 a1_6, .slice A1_7 l1_7.length c1_7] 48 (0, 0)) (kv B0.out) k_ hk⟩) _ (Nat.le_refl _)) (Below.refl _ _) (Nat.le_refl _) (by simp) ?_; (case hd => rfl); (case hg => rfl); (case hr => first | (go_simp; done) | (go_simp; rfl)); (case hp => exact (Reps.none _ _))
               intro v327 w34 ho35 hb hg_ hnew_
               clear hg_ hnew_
               (first | rw [← Ny326.out] at ho35 | (simp only [Int.reduceToNat] at ho35; rw [← Ny326.out] at ho35))
               have n0_ := Aside0.mk (Kd.N_elder' (nv HO_7.out) (Kd.N_base ho35) hb)
               have n1_ := Aside0.mk (Kd.V_elder' (vv HOq.out) (Kd.N_base ho35) hb)
               have n2_ := Aside0.mk (Kd.N_lower ho35 (below_size (by repeat (first | (with_reducible first | exact HB.out | apply below_alloc | apply pw_below_drewN | apply below_drew1 | refine below_set ?_ GE320.out) | exact HB.out))))
               have n3_ := Aside0.mk (blk_below (kv B0.out) hb)
               have n4_ := Aside0.mk (below_step (by repeat (first | (with_reducible first | exact HB.out | apply below_alloc | apply pw_below_drewN | apply below_drew1 | refine below_set ?_ GE320.out) | exact HB.out)) hb)
               clear HO_7
               clear HOq
               clear B0
               clear HB
               have HO_7 := n0_
               have HOq := n1_
               have HO328 := n2_
               have B0 := n3_
               have HB := n4_
               clear n0_ n1_ n2_ n3_ n4_
               clear hb ho35
               refine hK.out _ _ ⟨(blk_cell B0.out 0).trans rfl, (blk_cell B0.out 1).trans rfl, (blk_cell B0.out 2).trans rfl, (blk_cell B0.out 3).trans rfl, (blk_cell B0.out 4).trans rfl, (blk_cell B0.out 5).trans rfl, (blk_cell B0.out 6).trans rfl, (blk_cell B0.out 7).trans rfl⟩ (fun hHeld => ?_)
               clear hK K
               refine norm_ (a' := ?_) ?_ ?_
               rotate_left
               ·show Act.put _ (some 51) _ = _
                simp only [Act.put, List.setIfInBounds_toArray, List.set_cons_zero, List.set_cons_succ, i64_w, i32_w]
                rfl
               refine two_ (i := 2) (j := 4) (Ni := some 53) (Nj := some 55) #[true, true, true, true, false, false, false] #[true, true, false, true, true, false, false] rfl rfl rfl rfl (by kernel_rfl) (by decide) (by decide) (fun K hK => ?_) (fun K hK => ?_)
               ·skip
                refine Kd.N_append_rows_step k48 (w0 := w) w.heap.size (by rfl) (.tmp 51) (.tmp 52) 44 48 (.agg #[(.int .i64 0), (.int .i64 0), (.int .i64 0), (.int .i64 0), (.string ⟨#[]⟩), (.int .i64 0), (.int .u32 0), (.slice none 0 0)]) 88 rfl Try.underlying44 info48 rfl (by decide) (by omega) v327 y326 t321 _ _ _ (fun k_ => ((P0_ k_ ∨ P1_7_ k_) ∨ w.heap.size ≤ k_) ∧ k_ ≠ g0) (fun k_ => ((fun k_ => ((P0_ k_ ∨ P1_7_ k_) ∨ w.heap.size ≤ k_) ∧ k_ ≠ g0)) k_ ∧ some k_ ≠ (v327 : Value).ownBlock) rfl rfl ?aO ?aR (fun _ hk => hk) ?aF ?aB ?aS ?aL ?_
                (case aR => exact (by skip; exact Kd.N_F (Kd.N_mono (ok' := (fun k_ => ((fun k_ => ((P0_ k_ ∨ P1_7_ k_) ∨ w.heap.size ≤ k_) ∧ k_ ≠ g0)) k_ ∧ some k_ ≠ (v327 : Value).ownBlock)) (HO_7.out) (fun k_ hk => ⟨⟨hk.1.1, hk.1.2⟩, hk.2⟩))))
                (case aB => exact (by repeat (first | (with_reducible first | exact HB.out | apply below_alloc | apply pw_below_drewN | apply below_drew1 | refine below_set ?_ GE320.out) | exact HB.out)))
                (case aF => exact (fun k_ hk => ⟨(.inr (Nat.le_trans (below_size (by repeat (first | (with_reducible first | exact HB.out | apply below_alloc | apply pw_below_drewN | apply below_drew1 | refine below_set ?_ GE320.out) | exact HB.out))) hk)), Kd.freshB (g := g0) (o := .cells #[.int .i64 (wrap64 (x8_1 + 1)), .int .i64 a1_1, .int .i64 a1_2, .int .i64 xu, .string a1_4, .int .i64 a1_5, .int .u32 a1_6, .slice A1_7 l1_7.length c1_7] 48 (0, 0)) (kv B0.out) k_ hk⟩))
                (case aO => exact (by (with_reducible repeat (first | apply Kd.N_alloc | apply Kd.N_drewN | apply Kd.N_drew)); exact Kd.N_mono HO328.out (fun _ hk => ⟨hk.1, hk.2.2⟩)))
                (case aS => exact (below_size (by repeat (first | (with_reducible first | exact HB.out | apply below_alloc | apply pw_below_drewN | apply below_drew1 | refine below_set ?_ GE320.out) | exact HB.out))))
                (case aL => have := LMc26.out; omega)
                intro v330 w36 ho hb hg hat
                rw [← Ny329.out] at ho
                have n0_ := Aside0.mk (Kd.N_afterv (ok := (fun k_ => ((P0_ k_ ∨ P1_7_ k_) ∨ w.heap.size ≤ k_) ∧ k_ ≠ g0)) (nv HO_7.out) hg hat)
                have n1_ := Aside0.mk (Kd.V_afterv (ok := (fun k_ => ((P0_ k_ ∨ P1_7_ k_) ∨ w.heap.size ≤ k_) ∧ some k_ ≠ (.slice Ao11 t321.length co11 : Value).ownBlock ∧ k_ ≠ g0)) (vv HOq.out) hg hat)
                have n2_ := Aside0.mk (blk_grown (g := g0) (o := .cells #[.int .i64 (wrap64 (x8_1 + 1)), .int .i64 a1_1, .int .i64 a1_2, .int .i64 xu, .string a1_4, .int .i64 a1_5, .int .u32 a1_6, .slice A1_7 l1_7.length c1_7] 48 (0, 0)) (kv B0.out) hg (Kd.N_away HO328.out (fun _ hk => hk.2.2)))
                have n3_ := Aside0.mk (hb)
                have n4_ := Aside0.mk (ho)
                clear HO_7
                clear HOq
                clear B0
                clear HB
                clear HO328
                have HO_7 := n0_
                have HOq := n1_
                have B0 := n2_
                have HB := n3_
                have HO331 := n4_
                clear n0_ n1_ n2_ n3_ n4_
                clear ho hb hg hat
                refine hK.out _ _ ⟨(blk_cell B0.out 0).trans rfl, (blk_cell B0.out 1).trans rfl, (blk_cell B0.out 2).trans rfl, (blk_cell B0.out 3).trans rfl, (blk_cell B0.out 4).trans rfl, (blk_cell B0.out 5).trans rfl, (blk_cell B0.out 6).trans rfl, (blk_cell B0.out 7).trans rfl⟩ (fun hHeld => ?_)
                clear hK K
                refine norm_ (a' := ?_) ?_ ?_
                rotate_left
                ·show Act.put _ (some 53) _ = _
                 simp only [Act.put, List.setIfInBounds_toArray, List.set_cons_zero, List.set_cons_succ, i64_w, i32_w]
                 rfl
                refine one_ (i := 4) (N := some 55) #[true, true, true, true, true, false, false] rfl rfl (by kernel_rfl) (by decide) (fun K hK => ?_)
                refine Kd.N_lit_step k48 _ 48 ?hg (N' := 55) ?hd (xs := ([(⟨(wrap64 (x8_1 + 1)), a1_1, a1_2, xu, a1_4, a1_5, a1_6, l1_7⟩ : S48)] : List (S48))) (inner := [.int .i64 (wrap64 (x8_1 + 1)), .int .i64 a1_1, .int .i64 a1_2, .int .i64 xu, .string a1_4, .int .i64 a1_5, .int .u32 a1_6, .slice A1_7 l1_7.length c1_7]) (ok := (fun k_ => ((P0_ k_ ∨ P1_7_ k_) ∨ w.heap.size ≤ k_) ∧ some k_ ≠ (.slice Ao11 t321.length co11 : Value).ownBlock ∧ some k_ ≠ (v330 : Value).ownBlock ∧ k_ ≠ g0)) (okp := (fun k_ => ((P0_ k_ ∨ P1_7_ k_) ∨ w.heap.size ≤ k_) ∧ some k_ ≠ (.slice Ao11 t321.length co11 : Value).ownBlock ∧ some k_ ≠ (v330 : Value).ownBlock ∧ k_ ≠ g0)) ?hr ?hp (fun _ hk => hk) ((show ∀ k_, w36.heap.size ≤ k_ → (fun k_ => ((P0_ k_ ∨ P1_7_ k_) ∨ w.heap.size ≤ k_) ∧ some k_ ≠ (.slice Ao11 t321.length co11 : Value).ownBlock ∧ some k_ ≠ (v330 : Value).ownBlock ∧ k_ ≠ g0) k_ from fun k_ hk => ⟨(.inr (Nat.le_trans (below_size (by repeat (first | (with_reducible first | exact HB.out | apply below_alloc | apply pw_below_drewN | apply below_drew1 | refine below_set ?_ GE320.out) | exact HB.out))) hk)), Kd.fresh' (Kd.N_lt (nv HO_7.out)) k_ hk, Kd.fresh' (Kd.N_lt (nv HO331.out)) k_ hk, Kd.freshB (g := g0) (o := .cells #[.int .i64 (wrap64 (x8_1 + 1)), .int .i64 a1_1, .int .i64 a1_2, .int .i64 xu, .string a1_4, .int .i64 a1_5, .int .u32 a1_6, .slice A1_7 l1_7.length c1_7] 48 (0, 0)) (kv B0.out) k_ hk⟩) _ (Nat.le_refl _)) (Below.refl _ _) (Nat.le_refl _) (by simp) ?_; (case hd => rfl); (case hg => rfl); (case hr => first | (go_simp; done) | (go_simp; rfl)); (case hp => exact (Reps.c8 (show Kd.FK k48 _ _ (⟨(wrap64 (x8_1 + 1)), a1_1, a1_2, xu, a1_4, a1_5, a1_6, l1_7⟩ : S48) [.int .i64 (wrap64 (x8_1 + 1)), .int .i64 a1_1, .int .i64 a1_2, .int .i64 xu, .string a1_4, .int .i64 a1_5, .int .u32 a1_6, .slice A1_7 l1_7.length c1_7] from (k48_mkF _ _ (⟨(wrap64 (x8_1 + 1)), a1_1, a1_2, xu, a1_4, a1_5, a1_6, l1_7⟩ : S48) (Kd.V_reads' (Kd.V_mono (ok' := (fun k_ => ((P0_ k_ ∨ P1_7_ k_) ∨ w.heap.size ≤ k_) ∧ some k_ ≠ (.slice Ao11 t321.length co11 : Value).ownBlock ∧ some k_ ≠ (v330 : Value).ownBlock ∧ k_ ≠ g0)) (HOq.out) (fun k_ hk => ⟨hk.1.1, ⟨hk.1.2.1, ⟨hk.2, hk.1.2.2⟩⟩⟩))).2.1 (Kd.V_F (Kd.V_mono (ok' := (fun k_ => ((P0_ k_ ∨ P1_7_ k_) ∨ w.heap.size ≤ k_) ∧ some k_ ≠ (.slice Ao11 t321.length co11 : Value).ownBlock ∧ some k_ ≠ (v330 : Value).ownBlock ∧ k_ ≠ g0)) (HOq.out) (fun k_ hk => ⟨hk.1.1, ⟨hk.1.2.1, ⟨hk.2, hk.1.2.2⟩⟩⟩))))) (Reps.none _ _)))
                intro v333 w37 ho38 hb hg_ hnew_
                clear hg_ hnew_
                (first | rw [← Ny332.out] at ho38 | (simp only [Int.reduceToNat] at ho38; rw [← Ny332.out] at ho38))
                have n0_ := Aside0.mk (Kd.N_elder' (nv HO_7.out) (Kd.N_base ho38) hb)
                have n1_ := Aside0.mk (Kd.V_elder' (vv HOq.out) (Kd.N_base ho38) hb)
                have n2_ := Aside0.mk (Kd.N_elder' (nv HO331.out) (Kd.N_base ho38) hb)
                have n3_ := Aside0.mk (Kd.N_lower ho38 (below_size (by repeat (first | (with_reducible first | exact HB.out | apply below_alloc | apply pw_below_drewN | apply below_drew1 | refine below_set ?_ GE320.out) | exact HB.out))))
                have n4_ := Aside0.mk (blk_below (kv B0.out) hb)
                have n5_ := Aside0.mk (below_step (by repeat (first | (with_reducible first | exact HB.out | apply below_alloc | apply pw_below_drewN | apply below_drew1 | refine below_set ?_ GE320.out) | exact HB.out)) hb)
                clear HO_7
                clear HOq
                clear HO331
                clear B0
                clear HB
                have HO_7 := n0_
                have HOq := n1_
                have HO331 := n2_
                have HO334 := n3_
                have B0 := n4_
                have HB := n5_
                clear n0_ n1_ n2_ n3_ n4_ n5_
                clear hb ho38
                refine hK.out _ _ ⟨(blk_cell B0.out 0).trans rfl, (blk_cell B0.out 1).trans rfl, (blk_cell B0.out 2).trans rfl, (blk_cell B0.out 3).trans rfl, (blk_cell B0.out 4).trans rfl, (blk_cell B0.out 5).trans rfl, (blk_cell B0.out 6).trans rfl, (blk_cell B0.out 7).trans rfl⟩ (fun hHeld => ?_)
                clear hK K
                refine norm_ (a' := ?_) ?_ ?_
                rotate_left
                ·show Act.put _ (some 55) _ = _
                 simp only [Act.put, List.setIfInBounds_toArray, List.set_cons_zero, List.set_cons_succ, i64_w, i32_w]
                 rfl
                exact norm_ (by simp only [putAll, Act.put, List.setIfInBounds_toArray, List.set_cons_zero, List.set_cons_succ]) (hCont (v327, v330, v333) _ ⟨hHeld, (by (with_reducible repeat (first | apply Kd.N_alloc | apply Kd.N_drewN | apply Kd.N_drew)); exact Kd.N_mono HO331.out (fun _ hk => ⟨hk.1.1, ⟨hk.2, hk.1.2⟩⟩)), (by (with_reducible repeat (first | apply Kd.N_alloc | apply Kd.N_drewN | apply Kd.N_drew)); exact Kd.N_mono HO334.out (fun _ hk => ⟨hk.1, ⟨hk.2.2.1, ⟨hk.2.1, hk.2.2.2⟩⟩⟩)), (by (with_reducible repeat (first | apply Kd.V_alloc | apply Kd.V_drewN | apply Kd.V_drew)); exact Kd.V_mono HOq.out (fun _ hk => ⟨hk.1.1.1, ⟨hk.1.2, ⟨hk.2, ⟨hk.1.1.2.1, hk.1.1.2.2⟩⟩⟩⟩)), (by (with_reducible repeat (first | apply Kd.N_alloc | apply Kd.N_drewN | apply Kd.N_drew)); exact Kd.N_mono HO_7.out (fun _ hk => ⟨hk.1.1.1, ⟨hk.1.2, ⟨hk.2, hk.1.1.2⟩⟩⟩)), (kv B0.out), (by repeat (first | (with_reducible first | exact HB.out | apply below_alloc | apply pw_below_drewN | apply below_drew1 | refine below_set ?_ GE320.out) | exact HB.out))⟩)
               ·skip
                refine Kd.N_lit_step k48 _ 48 ?hg (N' := 55) ?hd (xs := ([(⟨(wrap64 (x8_1 + 1)), a1_1, a1_2, xu, a1_4, a1_5, a1_6, l1_7⟩ : S48)] : List (S48))) (inner := [.int .i64 (wrap64 (x8_1 + 1)), .int .i64 a1_1, .int .i64 a1_2, .int .i64 xu, .string a1_4, .int .i64 a1_5, .int .u32 a1_6, .slice A1_7 l1_7.length c1_7]) (ok := (fun k_ => ((P0_ k_ ∨ P1_7_ k_) ∨ w.heap.size ≤ k_) ∧ some k_ ≠ (.slice Ao11 t321.length co11 : Value).ownBlock ∧ some k_ ≠ (v327 : Value).ownBlock ∧ k_ ≠ g0)) (okp := (fun k_ => ((P0_ k_ ∨ P1_7_ k_) ∨ w.heap.size ≤ k_) ∧ some k_ ≠ (.slice Ao11 t321.length co11 : Value).ownBlock ∧ some k_ ≠ (v327 : Value).ownBlock ∧ k_ ≠ g0)) ?hr ?hp (fun _ hk => hk) ((show ∀ k_, w34.heap.size ≤ k_ → (fun k_ => ((P0_ k_ ∨ P1_7_ k_) ∨ w.heap.size ≤ k_) ∧ some k_ ≠ (.slice Ao11 t321.length co11 : Value).ownBlock ∧ some k_ ≠ (v327 : Value).ownBlock ∧ k_ ≠ g0) k_ from fun k_ hk => ⟨(.inr (Nat.le_trans (below_size (by repeat (first | (with_reducible first | exact HB.out | apply below_alloc | apply pw_below_drewN | apply below_drew1 | refine below_set ?_ GE320.out) | exact HB.out))) hk)), Kd.fresh' (Kd.N_lt (nv HO_7.out)) k_ hk, Kd.fresh' (Kd.N_lt (nv HO328.out)) k_ hk, Kd.freshB (g := g0) (o := .cells #[.int .i64 (wrap64 (x8_1 + 1)), .int .i64 a1_1, .int .i64 a1_2, .int .i64 xu, .string a1_4, .int .i64 a1_5, .int .u32 a1_6, .slice A1_7 l1_7.length c1_7] 48 (0, 0)) (kv B0.out) k_ hk⟩) _ (Nat.le_refl _)) (Below.refl _ _) (Nat.le_refl _) (by simp) ?_; (case hd => rfl); (case hg => rfl); (case hr => first | (go_simp; done) | (go_simp; rfl)); (case hp => exact (Reps.c8 (show Kd.FK k48 _ _ (⟨(wrap64 (x8_1 + 1)), a1_1, a1_2, xu, a1_4, a1_5, a1_6, l1_7⟩ : S48) [.int .i64 (wrap64 (x8_1 + 1)), .int .i64 a1_1, .int .i64 a1_2, .int .i64 xu, .string a1_4, .int .i64 a1_5, .int .u32 a1_6, .slice A1_7 l1_7.length c1_7] from (k48_mkF _ _ (⟨(wrap64 (x8_1 + 1)), a1_1, a1_2, xu, a1_4, a1_5, a1_6, l1_7⟩ : S48) (Kd.V_reads' (Kd.V_mono (ok' := (fun k_ => ((P0_ k_ ∨ P1_7_ k_) ∨ w.heap.size ≤ k_) ∧ some k_ ≠ (.slice Ao11 t321.length co11 : Value).ownBlock ∧ some k_ ≠ (v327 : Value).ownBlock ∧ k_ ≠ g0)) (HOq.out) (fun k_ hk => ⟨hk.1.1, ⟨hk.1.2.1, ⟨hk.2, hk.1.2.2⟩⟩⟩))).2.1 (Kd.V_F (Kd.V_mono (ok' := (fun k_ => ((P0_ k_ ∨ P1_7_ k_) ∨ w.heap.size ≤ k_) ∧ some k_ ≠ (.slice Ao11 t321.length co11 : Value).ownBlock ∧ some k_ ≠ (v327 : Value).ownBlock ∧ k_ ≠ g0)) (HOq.out) (fun k_ hk => ⟨hk.1.1, ⟨hk.1.2.1, ⟨hk.2, hk.1.2.2⟩⟩⟩))))) (Reps.none _ _)))
                intro v333 w36 ho37 hb hg_ hnew_
                clear hg_ hnew_
                (first | rw [← Ny332.out] at ho37 | (simp only [Int.reduceToNat] at ho37; rw [← Ny332.out] at ho37))
                have n0_ := Aside0.mk (Kd.N_elder' (nv HO_7.out) (Kd.N_base ho37) hb)
                have n1_ := Aside0.mk (Kd.V_elder' (vv HOq.out) (Kd.N_base ho37) hb)
                have n2_ := Aside0.mk (Kd.N_elder' (nv HO328.out) (Kd.N_base ho37) hb)
                have n3_ := Aside0.mk (Kd.N_lower ho37 (below_size (by repeat (first | (with_reducible first | exact HB.out | apply below_alloc | apply pw_below_drewN | apply below_drew1 | refine below_set ?_ GE320.out) | exact HB.out))))
                have n4_ := Aside0.mk (blk_below (kv B0.out) hb)
                have n5_ := Aside0.mk (below_step (by repeat (first | (with_reducible first | exact HB.out | apply below_alloc | apply pw_below_drewN | apply below_drew1 | refine below_set ?_ GE320.out) | exact HB.out)) hb)
                clear HO_7
                clear HOq
                clear HO328
                clear B0
                clear HB
                have HO_7 := n0_
                have HOq := n1_
                have HO328 := n2_
                have HO334 := n3_
                have B0 := n4_
                have HB := n5_
                clear n0_ n1_ n2_ n3_ n4_ n5_
                clear hb ho37
                refine hK.out _ _ ⟨(blk_cell B0.out 0).trans rfl, (blk_cell B0.out 1).trans rfl, (blk_cell B0.out 2).trans rfl, (blk_cell B0.out 3).trans rfl, (blk_cell B0.out 4).trans rfl, (blk_cell B0.out 5).trans rfl, (blk_cell B0.out 6).trans rfl, (blk_cell B0.out 7).trans rfl⟩ (fun hHeld => ?_)
                clear hK K
                refine norm_ (a' := ?_) ?_ ?_
                rotate_left
                ·show Act.put _ (some 55) _ = _
                 simp only [Act.put, List.setIfInBounds_toArray, List.set_cons_zero, List.set_cons_succ, i64_w, i32_w]
                 rfl
                refine one_ (i := 2) (N := some 53) #[true, true, true, true, true, false, false] rfl rfl (by kernel_rfl) (by decide) (fun K hK => ?_)
                refine Kd.N_append_rows_step k48 (w0 := w) w.heap.size (by rfl) (.tmp 51) (.tmp 52) 44 48 (.agg #[(.int .i64 0), (.int .i64 0), (.int .i64 0), (.int .i64 0), (.string ⟨#[]⟩), (.int .i64 0), (.int .u32 0), (.slice none 0 0)]) 88 rfl Try.underlying44 info48 rfl (by decide) (by omega) v327 y326 t321 _ _ _ (fun k_ => ((P0_ k_ ∨ P1_7_ k_) ∨ w.heap.size ≤ k_) ∧ some k_ ≠ (v333 : Value).ownBlock ∧ k_ ≠ g0) (fun k_ => ((fun k_ => ((P0_ k_ ∨ P1_7_ k_) ∨ w.heap.size ≤ k_) ∧ some k_ ≠ (v333 : Value).ownBlock ∧ k_ ≠ g0)) k_ ∧ some k_ ≠ (v327 : Value).ownBlock) rfl rfl ?aO ?aR (fun _ hk => hk) ?aF ?aB ?aS ?aL ?_
                (case aR => exact (by skip; exact Kd.N_F (Kd.N_mono (ok' := (fun k_ => ((fun k_ => ((P0_ k_ ∨ P1_7_ k_) ∨ w.heap.size ≤ k_) ∧ some k_ ≠ (v333 : Value).ownBlock ∧ k_ ≠ g0)) k_ ∧ some k_ ≠ (v327 : Value).ownBlock)) (HO_7.out) (fun k_ hk => ⟨⟨hk.1.1.1, ⟨hk.2, hk.1.1.2⟩⟩, hk.1.2⟩))))
                (case aB => exact (by repeat (first | (with_reducible first | exact HB.out | apply below_alloc | apply pw_below_drewN | apply below_drew1 | refine below_set ?_ GE320.out) | exact HB.out)))
                (case aF => exact (fun k_ hk => ⟨(.inr (Nat.le_trans (below_size (by repeat (first | (with_reducible first | exact HB.out | apply below_alloc | apply pw_below_drewN | apply below_drew1 | refine below_set ?_ GE320.out) | exact HB.out))) hk)), Kd.fresh' (Kd.N_lt (nv HO334.out)) k_ hk, Kd.freshB (g := g0) (o := .cells #[.int .i64 (wrap64 (x8_1 + 1)), .int .i64 a1_1, .int .i64 a1_2, .int .i64 xu, .string a1_4, .int .i64 a1_5, .int .u32 a1_6, .slice A1_7 l1_7.length c1_7] 48 (0, 0)) (kv B0.out) k_ hk⟩))
                (case aO => exact (by (with_reducible repeat (first | apply Kd.N_alloc | apply Kd.N_drewN | apply Kd.N_drew)); exact Kd.N_mono HO328.out (fun _ hk => ⟨hk.1.1, ⟨hk.2, hk.1.2.2⟩⟩)))
                (case aS => exact (below_size (by repeat (first | (with_reducible first | exact HB.out | apply below_alloc | apply pw_below_drewN | apply below_drew1 | refine below_set ?_ GE320.out) | exact HB.out))))
                (case aL => have := LMc26.out; omega)
                intro v330 w38 ho hb hg hat
                rw [← Ny329.out] at ho
                have n0_ := Aside0.mk (Kd.N_afterv (ok := (fun k_ => ((P0_ k_ ∨ P1_7_ k_) ∨ w.heap.size ≤ k_) ∧ some k_ ≠ (v333 : Value).ownBlock ∧ k_ ≠ g0)) (by (with_reducible repeat (first | apply Kd.N_alloc | apply Kd.N_drewN | apply Kd.N_drew)); exact Kd.N_mono HO_7.out (fun _ hk => ⟨⟨hk.1.1.1, ⟨hk.2, hk.1.1.2⟩⟩, hk.1.2⟩)) hg hat)
                have n1_ := Aside0.mk (Kd.V_afterv (ok := (fun k_ => ((P0_ k_ ∨ P1_7_ k_) ∨ w.heap.size ≤ k_) ∧ some k_ ≠ (.slice Ao11 t321.length co11 : Value).ownBlock ∧ some k_ ≠ (v333 : Value).ownBlock ∧ k_ ≠ g0)) (by (with_reducible repeat (first | apply Kd.V_alloc | apply Kd.V_drewN | apply Kd.V_drew)); exact Kd.V_mono HOq.out (fun _ hk => ⟨⟨hk.1.1.1, ⟨hk.1.1.2.1, ⟨hk.2, hk.1.1.2.2⟩⟩⟩, hk.1.2⟩)) hg hat)
                have n2_ := Aside0.mk (blk_grown (g := g0) (o := .cells #[.int .i64 (wrap64 (x8_1 + 1)), .int .i64 a1_1, .int .i64 a1_2, .int .i64 xu, .string a1_4, .int .i64 a1_5, .int .u32 a1_6, .slice A1_7 l1_7.length c1_7] 48 (0, 0)) (kv B0.out) hg (Kd.N_away HO328.out (fun _ hk => hk.1.2.2)))
                have n3_ := Aside0.mk (Kd.N_afterv (ok := (fun k_ => ((P0_ k_ ∨ P1_7_ k_) ∨ w.heap.size ≤ k_) ∧ some k_ ≠ (.slice Ao11 t321.length co11 : Value).ownBlock ∧ k_ ≠ g0)) (by (with_reducible repeat (first | apply Kd.N_alloc | apply Kd.N_drewN | apply Kd.N_drew)); exact Kd.N_mono HO334.out (fun _ hk => ⟨⟨hk.1, ⟨hk.2.1, hk.2.2.2⟩⟩, hk.2.2.1⟩)) hg hat)
                have n4_ := Aside0.mk (hb)
                have n5_ := Aside0.mk (ho)
                clear HO_7
                clear HOq
                clear B0
                clear HO334
                clear HB
                clear HO328
                have HO_7 := n0_
                have HOq := n1_
                have B0 := n2_
                have HO334 := n3_
                have HB := n4_
                have HO331 := n5_
                clear n0_ n1_ n2_ n3_ n4_ n5_
                clear ho hb hg hat
                refine hK.out _ _ ⟨(blk_cell B0.out 0).trans rfl, (blk_cell B0.out 1).trans rfl, (blk_cell B0.out 2).trans rfl, (blk_cell B0.out 3).trans rfl, (blk_cell B0.out 4).trans rfl, (blk_cell B0.out 5).trans rfl, (blk_cell B0.out 6).trans rfl, (blk_cell B0.out 7).trans rfl⟩ (fun hHeld => ?_)
                clear hK K
                refine norm_ (a' := ?_) ?_ ?_
                rotate_left
                ·show Act.put _ (some 53) _ = _
                 simp only [Act.put, List.setIfInBounds_toArray, List.set_cons_zero, List.set_cons_succ, i64_w, i32_w]
                 rfl
                exact norm_ (by simp only [putAll, Act.put, List.setIfInBounds_toArray, List.set_cons_zero, List.set_cons_succ]) (hCont (v327, v330, v333) _ ⟨hHeld, (nv HO331.out), (by (with_reducible repeat (first | apply Kd.N_alloc | apply Kd.N_drewN | apply Kd.N_drew)); exact Kd.N_mono HO334.out (fun _ hk => ⟨hk.1.1, ⟨hk.2, ⟨hk.1.2.1, hk.1.2.2⟩⟩⟩)), (by (with_reducible repeat (first | apply Kd.V_alloc | apply Kd.V_drewN | apply Kd.V_drew)); exact Kd.V_mono HOq.out (fun _ hk => ⟨hk.1.1, ⟨hk.2, ⟨hk.1.2.2.1, ⟨hk.1.2.1, hk.1.2.2.2⟩⟩⟩⟩)), (by (with_reducible repeat (first | apply Kd.N_alloc | apply Kd.N_drewN | apply Kd.N_drew)); exact Kd.N_mono HO_7.out (fun _ hk => ⟨hk.1.1, ⟨hk.2, ⟨hk.1.2.1, hk.1.2.2⟩⟩⟩)), (kv B0.out), (by repeat (first | (with_reducible first | exact HB.out | apply below_alloc | apply pw_below_drewN | apply below_drew1 | refine below_set ?_ GE320.out) | exact HB.out))⟩)
              ·skip
               refine Kd.N_lit_step k48 _ 48 ?hg (N' := 55) ?hd (xs := ([(⟨(wrap64 (x8_1 + 1)), a1_1, a1_2, xu, a1_4, a1_5, a1_6, l1_7⟩ : S48)] : List (S48))) (inner := [.int .i64 (wrap64 (x8_1 + 1)), .int .i64 a1_1, .int .i64 a1_2, .int .i64 xu, .string a1_4, .int .i64 a1_5, .int .u32 a1_6, .slice A1_7 l1_7.length c1_7]) (ok := (fun k_ => ((P0_ k_ ∨ P1_7_ k_) ∨ w.heap.size ≤ k_) ∧ some k_ ≠ (.slice Ao11 t321.length co11 : Value).ownBlock ∧ k_ ≠ g0)) (okp := (fun k_ => ((P0_ k_ ∨ P1_7_ k_) ∨ w.heap.size ≤ k_) ∧ some k_ ≠ (.slice Ao11 t321.length co11 : Value).ownBlock ∧ k_ ≠ g0)) ?hr ?hp (fun _ hk => hk) ((show ∀ k_, w33.heap.size ≤ k_ → (fun k_ => ((P0_ k_ ∨ P1_7_ k_) ∨ w.heap.size ≤ k_) ∧ some k_ ≠ (.slice Ao11 t321.length co11 : Value).ownBlock ∧ k_ ≠ g0) k_ from fun k_ hk => ⟨(.inr (Nat.le_trans (below_size (by repeat (first | (with_reducible first | exact HB.out | apply below_alloc | apply pw_below_drewN | apply below_drew1 | refine below_set ?_ GE320.out) | exact HB.out))) hk)), Kd.fresh' (Kd.N_lt (nv HO_7.out)) k_ hk, Kd.freshB (g := g0) (o := .cells #[.int .i64 (wrap64 (x8_1 + 1)), .int .i64 a1_1, .int .i64 a1_2, .int .i64 xu, .string a1_4, .int .i64 a1_5, .int .u32 a1_6, .slice A1_7 l1_7.length c1_7] 48 (0, 0)) (kv B0.out) k_ hk⟩) _ (Nat.le_refl _)) (Below.refl _ _) (Nat.le_refl _) (by simp) ?_; (case hd => rfl); (case hg => rfl); (case hr => first | (go_simp; done) | (go_simp; rfl)); (case hp => exact (Reps.c8 (show Kd.FK k48 _ _ (⟨(wrap64 (x8_1 + 1)), a1_1, a1_2, xu, a1_4, a1_5, a1_6, l1_7⟩ : S48) [.int .i64 (wrap64 (x8_1 + 1)), .int .i64 a1_1, .int .i64 a1_2, .int .i64 xu, .string a1_4, .int .i64 a1_5, .int .u32 a1_6, .slice A1_7 l1_7.length c1_7] from (k48_mkF _ _ (⟨(wrap64 (x8_1 + 1)), a1_1, a1_2, xu, a1_4, a1_5, a1_6, l1_7⟩ : S48) (Kd.V_reads' (Kd.V_mono (ok' := (fun k_ => ((P0_ k_ ∨ P1_7_ k_) ∨ w.heap.size ≤ k_) ∧ some k_ ≠ (.slice Ao11 t321.length co11 : Value).ownBlock ∧ k_ ≠ g0)) (HOq.out) (fun k_ hk => ⟨hk.1, ⟨hk.2.1, hk.2.2⟩⟩))).2.1 (Kd.V_F (Kd.V_mono (ok' := (fun k_ => ((P0_ k_ ∨ P1_7_ k_) ∨ w.heap.size ≤ k_) ∧ some k_ ≠ (.slice Ao11 t321.length co11 : Value).ownBlock ∧ k_ ≠ g0)) (HOq.out) (fun k_ hk => ⟨hk.1, ⟨hk.2.1, hk.2.2⟩⟩))))) (Reps.none _ _)))
               intro v333 w34 ho35 hb hg_ hnew_
               clear hg_ hnew_
               (first | rw [← Ny332.out] at ho35 | (simp only [Int.reduceToNat] at ho35; rw [← Ny332.out] at ho35))
               have n0_ := Aside0.mk (Kd.N_elder' (nv HO_7.out) (Kd.N_base ho35) hb)
               have n1_ := Aside0.mk (Kd.V_elder' (vv HOq.out) (Kd.N_base ho35) hb)
               have n2_ := Aside0.mk (Kd.N_lower ho35 (below_size (by repeat (first | (with_reducible first | exact HB.out | apply below_alloc | apply pw_below_drewN | apply below_drew1 | refine below_set ?_ GE320.out) | exact HB.out))))
               have n3_ := Aside0.mk (blk_below (kv B0.out) hb)
               have n4_ := Aside0.mk (below_step (by repeat (first | (with_reducible first | exact HB.out | apply below_alloc | apply pw_below_drewN | apply below_drew1 | refine below_set ?_ GE320.out) | exact HB.out)) hb)
               clear HO_7
               clear HOq
               clear B0
               clear HB
               have HO_7 := n0_
               have HOq := n1_
               have HO334 := n2_
               have B0 := n3_
               have HB := n4_
               clear n0_ n1_ n2_ n3_ n4_
               clear hb ho35
               refine hK.out _ _ ⟨(blk_cell B0.out 0).trans rfl, (blk_cell B0.out 1).trans rfl, (blk_cell B0.out 2).trans rfl, (blk_cell B0.out 3).trans rfl, (blk_cell B0.out 4).trans rfl, (blk_cell B0.out 5).trans rfl, (blk_cell B0.out 6).trans rfl, (blk_cell B0.out 7).trans rfl⟩ (fun hHeld => ?_)
               clear hK K
               refine norm_ (a' := ?_) ?_ ?_
               rotate_left
               ·show Act.put _ (some 55) _ = _
                simp only [Act.put, List.setIfInBounds_toArray, List.set_cons_zero, List.set_cons_succ, i64_w, i32_w]
                rfl
               refine one_ (i := 0) (N := some 51) #[true, true, false, true, true, false, false] rfl rfl (by kernel_rfl) (by decide) (fun K hK => ?_)
               refine Kd.N_lit_step k48 _ 48 ?hg (N' := 51) ?hd (xs := ([] : List (S48))) (inner := []) (ok := (fun k_ => ((P0_ k_ ∨ P1_7_ k_) ∨ w.heap.size ≤ k_) ∧ some k_ ≠ (.slice Ao11 t321.length co11 : Value).ownBlock ∧ some k_ ≠ (v333 : Value).ownBlock ∧ k_ ≠ g0)) (okp := (fun k_ => ((P0_ k_ ∨ P1_7_ k_) ∨ w.heap.size ≤ k_) ∧ some k_ ≠ (.slice Ao11 t321.length co11 : Value).ownBlock ∧ some k_ ≠ (v333 : Value).ownBlock ∧ k_ ≠ g0)) ?hr ?hp (fun _ hk => hk) ((show ∀ k_, w34.heap.size ≤ k_ → (fun k_ => ((P0_ k_ ∨ P1_7_ k_) ∨ w.heap.size ≤ k_) ∧ some k_ ≠ (.slice Ao11 t321.length co11 : Value).ownBlock ∧ some k_ ≠ (v333 : Value).ownBlock ∧ k_ ≠ g0) k_ from fun k_ hk => ⟨(.inr (Nat.le_trans (below_size (by repeat (first | (with_reducible first | exact HB.out | apply below_alloc | apply pw_below_drewN | apply below_drew1 | refine below_set ?_ GE320.out) | exact HB.out))) hk)), Kd.fresh' (Kd.N_lt (nv HO_7.out)) k_ hk, Kd.fresh' (Kd.N_lt (nv HO334.out)) k_ hk, Kd.freshB (g := g0) (o := .cells #[.int .i64 (wrap64 (x8_1 + 1)), .int .i64 a1_1, .int .i64 a1_2, .int .i64 xu, .string a1_4, .int .i64 a1_5, .int .u32 a1_6, .slice A1_7 l1_7.length c1_7] 48 (0, 0)) (kv B0.out) k_ hk⟩) _ (Nat.le_refl _)) (Below.refl _ _) (Nat.le_refl _) (by simp) ?_; (case hd => rfl); (case hg => rfl); (case hr => first | (go_simp; done) | (go_simp; rfl)); (case hp => exact (Reps.none _ _))
               intro v327 w36 ho37 hb hg_ hnew_
               clear hg_ hnew_
               (first | rw [← Ny326.out] at ho37 | (simp only [Int.reduceToNat] at ho37; rw [← Ny326.out] at ho37))
               have n0_ := Aside0.mk (Kd.N_elder' (nv HO_7.out) (Kd.N_base ho37) hb)
               have n1_ := Aside0.mk (Kd.V_elder' (vv HOq.out) (Kd.N_base ho37) hb)
               have n2_ := Aside0.mk (Kd.N_elder' (nv HO334.out) (Kd.N_base ho37) hb)
               have n3_ := Aside0.mk (Kd.N_lower ho37 (below_size (by repeat (first | (with_reducible first | exact HB.out | apply below_alloc | apply pw_below_drewN | apply below_drew1 | refine below_set ?_ GE320.out) | exact HB.out))))
               have n4_ := Aside0.mk (blk_below (kv B0.out) hb)
               have n5_ := Aside0.mk (below_step (by repeat (first | (with_reducible first | exact HB.out | apply below_alloc | apply pw_below_drewN | apply below_drew1 | refine below_set ?_ GE320.out) | exact HB.out)) hb)
               clear HO_7
               clear HOq
               clear HO334
               clear B0
               clear HB
               have HO_7 := n0_
               have HOq := n1_
               have HO334 := n2_
               have HO328 := n3_
               have B0 := n4_
               have HB := n5_
               clear n0_ n1_ n2_ n3_ n4_ n5_
               clear hb ho37
               refine hK.out _ _ ⟨(blk_cell B0.out 0).trans rfl, (blk_cell B0.out 1).trans rfl, (blk_cell B0.out 2).trans rfl, (blk_cell B0.out 3).trans rfl, (blk_cell B0.out 4).trans rfl, (blk_cell B0.out 5).trans rfl, (blk_cell B0.out 6).trans rfl, (blk_cell B0.out 7).trans rfl⟩ (fun hHeld => ?_)
               clear hK K
               refine norm_ (a' := ?_) ?_ ?_
               rotate_left
               ·show Act.put _ (some 51) _ = _
                simp only [Act.put, List.setIfInBounds_toArray, List.set_cons_zero, List.set_cons_succ, i64_w, i32_w]
                rfl
               refine one_ (i := 2) (N := some 53) #[true, true, true, true, true, false, false] rfl rfl (by kernel_rfl) (by decide) (fun K hK => ?_)
               refine Kd.N_append_rows_step k48 (w0 := w) w.heap.size (by rfl) (.tmp 51) (.tmp 52) 44 48 (.agg #[(.int .i64 0), (.int .i64 0), (.int .i64 0), (.int .i64 0), (.string ⟨#[]⟩), (.int .i64 0), (.int .u32 0), (.slice none 0 0)]) 88 rfl Try.underlying44 info48 rfl (by decide) (by omega) v327 y326 t321 _ _ _ (fun k_ => ((P0_ k_ ∨ P1_7_ k_) ∨ w.heap.size ≤ k_) ∧ some k_ ≠ (v333 : Value).ownBlock ∧ k_ ≠ g0) (fun k_ => ((fun k_ => ((P0_ k_ ∨ P1_7_ k_) ∨ w.heap.size ≤ k_) ∧ some k_ ≠ (v333 : Value).ownBlock ∧ k_ ≠ g0)) k_ ∧ some k_ ≠ (v327 : Value).ownBlock) rfl rfl ?aO ?aR (fun _ hk => hk) ?aF ?aB ?aS ?aL ?_
               (case aR => exact (by skip; exact Kd.N_F (Kd.N_mono (ok' := (fun k_ => ((fun k_ => ((P0_ k_ ∨ P1_7_ k_) ∨ w.heap.size ≤ k_) ∧ some k_ ≠ (v333 : Value).ownBlock ∧ k_ ≠ g0)) k_ ∧ some k_ ≠ (v327 : Value).ownBlock)) (HO_7.out) (fun k_ hk => ⟨⟨hk.1.1.1, ⟨hk.1.2, hk.1.1.2⟩⟩, hk.2⟩))))
               (case aB => exact (by repeat (first | (with_reducible first | exact HB.out | apply below_alloc | apply pw_below_drewN | apply below_drew1 | refine below_set ?_ GE320.out) | exact HB.out)))
               (case aF => exact (fun k_ hk => ⟨(.inr (Nat.le_trans (below_size (by repeat (first | (with_reducible first | exact HB.out | apply below_alloc | apply pw_below_drewN | apply below_drew1 | refine below_set ?_ GE320.out) | exact HB.out))) hk)), Kd.fresh' (Kd.N_lt (nv HO334.out)) k_ hk, Kd.freshB (g := g0) (o := .cells #[.int .i64 (wrap64 (x8_1 + 1)), .int .i64 a1_1, .int .i64 a1_2, .int .i64 xu, .string a1_4, .int .i64 a1_5, .int .u32 a1_6, .slice A1_7 l1_7.length c1_7] 48 (0, 0)) (kv B0.out) k_ hk⟩))
               (case aO => exact (by (with_reducible repeat (first | apply Kd.N_alloc | apply Kd.N_drewN | apply Kd.N_drew)); exact Kd.N_mono HO328.out (fun _ hk => ⟨hk.1, ⟨hk.2.2.1, hk.2.2.2⟩⟩)))
               (case aS => exact (below_size (by repeat (first | (with_reducible first | exact HB.out | apply below_alloc | apply pw_below_drewN | apply below_drew1 | refine below_set ?_ GE320.out) | exact HB.out))))
               (case aL => have := LMc26.out; omega)
               intro v330 w38 ho hb hg hat
               rw [← Ny329.out] at ho
               have n0_ := Aside0.mk (Kd.N_afterv (ok := (fun k_ => ((P0_ k_ ∨ P1_7_ k_) ∨ w.heap.size ≤ k_) ∧ some k_ ≠ (v333 : Value).ownBlock ∧ k_ ≠ g0)) (by (with_reducible repeat (first | apply Kd.N_alloc | apply Kd.N_drewN | apply Kd.N_drew)); exact Kd.N_mono HO_7.out (fun _ hk => ⟨⟨hk.1.1.1, ⟨hk.1.2, hk.1.1.2⟩⟩, hk.2⟩)) hg hat)
               have n1_ := Aside0.mk (Kd.V_afterv (ok := (fun k_ => ((P0_ k_ ∨ P1_7_ k_) ∨ w.heap.size ≤ k_) ∧ some k_ ≠ (.slice Ao11 t321.length co11 : Value).ownBlock ∧ some k_ ≠ (v333 : Value).ownBlock ∧ k_ ≠ g0)) (by (with_reducible repeat (first | apply Kd.V_alloc | apply Kd.V_drewN | apply Kd.V_drew)); exact Kd.V_mono HOq.out (fun _ hk => ⟨⟨hk.1.1.1, ⟨hk.1.1.2.1, ⟨hk.1.2, hk.1.1.2.2⟩⟩⟩, hk.2⟩)) hg hat)
               have n2_ := Aside0.mk (blk_grown (g := g0) (o := .cells #[.int .i64 (wrap64 (x8_1 + 1)), .int .i64 a1_1, .int .i64 a1_2, .int .i64 xu, .string a1_4, .int .i64 a1_5, .int .u32 a1_6, .slice A1_7 l1_7.length c1_7] 48 (0, 0)) (kv B0.out) hg (Kd.N_away HO328.out (fun _ hk => hk.2.2.2)))
               have n3_ := Aside0.mk (Kd.N_afterv (ok := (fun k_ => ((P0_ k_ ∨ P1_7_ k_) ∨ w.heap.size ≤ k_) ∧ some k_ ≠ (.slice Ao11 t321.length co11 : Value).ownBlock ∧ k_ ≠ g0)) (nv HO334.out) hg hat)
               have n4_ := Aside0.mk (hb)
               have n5_ := Aside0.mk (ho)
               clear HO_7
               clear HOq
               clear B0
               clear HO334
               clear HB
               clear HO328
               have HO_7 := n0_
               have HOq := n1_
               have B0 := n2_
               have HO334 := n3_
               have HB := n4_
               have HO331 := n5_
               clear n0_ n1_ n2_ n3_ n4_ n5_
               clear ho hb hg hat
               refine hK.out _ _ ⟨(blk_cell B0.out 0).trans rfl, (blk_cell B0.out 1).trans rfl, (blk_cell B0.out 2).trans rfl, (blk_cell B0.out 3).trans rfl, (blk_cell B0.out 4).trans rfl, (blk_cell B0.out 5).trans rfl, (blk_cell B0.out 6).trans rfl, (blk_cell B0.out 7).trans rfl⟩ (fun hHeld => ?_)
               clear hK K
               refine norm_ (a' := ?_) ?_ ?_
               rotate_left
               ·show Act.put _ (some 53) _ = _
                simp only [Act.put, List.setIfInBounds_toArray, List.set_cons_zero, List.set_cons_succ, i64_w, i32_w]
                rfl
               exact norm_ (by simp only [putAll, Act.put, List.setIfInBounds_toArray, List.set_cons_zero, List.set_cons_succ]) (hCont (v327, v330, v333) _ ⟨hHeld, (nv HO331.out), (by (with_reducible repeat (first | apply Kd.N_alloc | apply Kd.N_drewN | apply Kd.N_drew)); exact Kd.N_mono HO334.out (fun _ hk => ⟨hk.1.1, ⟨hk.2, ⟨hk.1.2.1, hk.1.2.2⟩⟩⟩)), (by (with_reducible repeat (first | apply Kd.V_alloc | apply Kd.V_drewN | apply Kd.V_drew)); exact Kd.V_mono HOq.out (fun _ hk => ⟨hk.1.1, ⟨hk.2, ⟨hk.1.2.2.1, ⟨hk.1.2.1, hk.1.2.2.2⟩⟩⟩⟩)), (by (with_reducible repeat (first | apply Kd.N_alloc | apply Kd.N_drewN | apply Kd.N_drew)); exact Kd.N_mono HO_7.out (fun _ hk => ⟨hk.1.1, ⟨hk.2, ⟨hk.1.2.1, hk.1.2.2⟩⟩⟩)), (kv B0.out), (by repeat (first | (with_reducible first | exact HB.out | apply below_alloc | apply pw_below_drewN | apply below_drew1 | refine below_set ?_ GE320.out) | exact HB.out))⟩)
             rintro ⟨v327, v330, v333⟩ w39 ⟨hS_, h0_, h1_, h2_, h3_, h4_, h5_⟩
             have n0_ : Aside0 (Kd.N k48 48 w39 w.heap.size (fun k_ => ((P0_ k_ ∨ P1_7_ k_) ∨ w.heap.size ≤ k_) ∧ some k_ ≠ (v333 : Value).ownBlock ∧ k_ ≠ g0) v330 y329) := ⟨h0_⟩
             have n1_ : Aside0 (Kd.N k48 48 w39 w.heap.size (fun k_ => ((P0_ k_ ∨ P1_7_ k_) ∨ w.heap.size ≤ k_) ∧ some k_ ≠ (v330 : Value).ownBlock ∧ some k_ ≠ (.slice Ao11 t321.length co11 : Value).ownBlock ∧ k_ ≠ g0) v333 y332) := ⟨h1_⟩
             have n2_ : Aside0 (Kd.V (Kd.int .u8) 5 w39 w.heap.size (fun k_ => ((P0_ k_ ∨ P1_7_ k_) ∨ w.heap.size ≤ k_) ∧ some k_ ≠ (v330 : Value).ownBlock ∧ some k_ ≠ (v333 : Value).ownBlock ∧ some k_ ≠ (.slice Ao11 t321.length co11 : Value).ownBlock ∧ k_ ≠ g0) (.slice A1_7 l1_7.length c1_7) l1_7) := ⟨h2_⟩
             have n3_ : Aside0 (Kd.N k48 48 w39 w.heap.size (fun k_ => ((P0_ k_ ∨ P1_7_ k_) ∨ w.heap.size ≤ k_) ∧ some k_ ≠ (v330 : Value).ownBlock ∧ some k_ ≠ (v333 : Value).ownBlock ∧ k_ ≠ g0) (.slice Ao11 t321.length co11) t321) := ⟨h3_⟩
             have n4_ : Aside0 (w39.heap[g0]? = some (.cells #[.int .i64 (wrap64 (x8_1 + 1)), .int .i64 a1_1, .int .i64 a1_2, .int .i64 xu, .string a1_4, .int .i64 a1_5, .int .u32 a1_6, .slice A1_7 l1_7.length c1_7] 48 (0, 0))) := ⟨h4_⟩
             have n5_ : Aside0 (Below w.heap.size w w39) := ⟨h5_⟩
             clear HO_7
             clear HOq
             clear B0
             clear HB
             clear h0_ h1_ h2_ h3_ h4_ h5_
             have HO331 := n0_
             have HO334 := n1_
             have HOq := n2_
             have HO_7 := n3_
             have B0 := n4_
             have HB := n5_
             clear n0_ n1_ n2_ n3_ n4_ n5_
             have hHeld : w39.cell? ⟨g0, 0, none⟩ = some (.int .i64 (wrap64 (x8_1 + 1))) ∧ w39.cell? ⟨g0, 1, none⟩ = some (.int .i64 a1_1) ∧ w39.cell? ⟨g0, 2, none⟩ = some (.int .i64 a1_2) ∧ w39.cell? ⟨g0, 3, none⟩ = some (.int .i64 xu) ∧ w39.cell? ⟨g0, 4, none⟩ = some (.string a1_4) ∧ w39.cell? ⟨g0, 5, none⟩ = some (.int .i64 a1_5) ∧ w39.cell? ⟨g0, 6, none⟩ = some (.int .u32 a1_6) ∧ w39.cell? ⟨g0, 7, none⟩ = some (.slice A1_7 l1_7.length c1_7) := hS_
             obtain ⟨Ao41, co41, eo41⟩ := Kd.N_slice HO334.out
             (first | subst eo41 | (injection eo41 with f1_ f2_ f3_; have f4_ := f1_.symm; have f5_ := f3_.symm; clear f1_ f2_ f3_; subst f4_; subst f5_))
             refine norm_ (a' := ?_) ?_ ?_
             rotate_left
             ·simp only [putAll, Act.put, List.setIfInBounds_toArray, List.set_cons_zero, List.set_cons_succ]
              rfl
             refine one_ (i := 5) (N := some 56) #[true, true, true, true, true, true, false] rfl rfl (by kernel_rfl) (by decide) (fun K hK => ?_)
             refine Kd.N_append_rows_step k48 (w0 := w) w.heap.size (by rfl) (.tmp 53) (.tmp 55) 44 48 (.agg #[(.int .i64 0), (.int .i64 0), (.int .i64 0), (.int .i64 0), (.string ⟨#[]⟩), (.int .i64 0), (.int .u32 0), (.slice none 0 0)]) 88 rfl Try.underlying44 info48 rfl (by decide) (by omega) v330 y329 y332 _ _ _ (fun k_ => ((P0_ k_ ∨ P1_7_ k_) ∨ w.heap.size ≤ k_) ∧ k_ ≠ g0) (fun k_ => ((fun k_ => ((P0_ k_ ∨ P1_7_ k_) ∨ w.heap.size ≤ k_) ∧ k_ ≠ g0)) k_ ∧ some k_ ≠ (v330 : Value).ownBlock) rfl rfl ?aO ?aR (fun _ hk => hk) ?aF ?aB ?aS ?aL ?_
             (case aR => exact (by skip; exact Kd.N_F (Kd.N_mono (ok' := (fun k_ => ((fun k_ => ((P0_ k_ ∨ P1_7_ k_) ∨ w.heap.size ≤ k_) ∧ k_ ≠ g0)) k_ ∧ some k_ ≠ (v330 : Value).ownBlock)) (HO334.out) (fun k_ hk => ⟨⟨hk.1, hk.2.2.2⟩, hk.2.1⟩))))
             (case aB => exact (by repeat (first | (with_reducible first | exact HB.out | apply below_alloc | apply pw_below_drewN | apply below_drew1 | refine below_set ?_ GE320.out) | exact HB.out)))
             (case aF => exact (fun k_ hk => ⟨(.inr (Nat.le_trans (below_size (by repeat (first | (with_reducible first | exact HB.out | apply below_alloc | apply pw_below_drewN | apply below_drew1 | refine below_set ?_ GE320.out) | exact HB.out))) hk)), Kd.freshB (g := g0) (o := .cells #[.int .i64 (wrap64 (x8_1 + 1)), .int .i64 a1_1, .int .i64 a1_2, .int .i64 xu, .string a1_4, .int .i64 a1_5, .int .u32 a1_6, .slice A1_7 l1_7.length c1_7] 48 (0, 0)) (kv B0.out) k_ hk⟩))
             (case aO => exact (by (with_reducible repeat (first | apply Kd.N_alloc | apply Kd.N_drewN | apply Kd.N_drew)); exact Kd.N_mono HO331.out (fun _ hk => ⟨hk.1, hk.2.2⟩)))
             (case aS => exact (below_size (by repeat (first | (with_reducible first | exact HB.out | apply below_alloc | apply pw_below_drewN | apply below_drew1 | refine below_set ?_ GE320.out) | exact HB.out))))
             (case aL => have := LMc27.out; omega)
             intro v336 w40 ho hb hg hat
             rw [← Ny335.out] at ho
             have n0_ := Aside0.mk (Kd.N_afterv (ok := (fun k_ => ((P0_ k_ ∨ P1_7_ k_) ∨ w.heap.size ≤ k_) ∧ some k_ ≠ (.slice Ao41 y332.length co41 : Value).ownBlock ∧ k_ ≠ g0)) (by (with_reducible repeat (first | apply Kd.N_alloc | apply Kd.N_drewN | apply Kd.N_drew)); exact Kd.N_mono HO_7.out (fun _ hk => ⟨⟨hk.1, ⟨hk.2.2.1, hk.2.2.2⟩⟩, hk.2.1⟩)) hg hat)
             have n1_ := Aside0.mk (Kd.V_afterv (ok := (fun k_ => ((P0_ k_ ∨ P1_7_ k_) ∨ w.heap.size ≤ k_) ∧ some k_ ≠ (.slice Ao11 t321.length co11 : Value).ownBlock ∧ some k_ ≠ (.slice Ao41 y332.length co41 : Value).ownBlock ∧ k_ ≠ g0)) (by (with_reducible repeat (first | apply Kd.V_alloc | apply Kd.V_drewN | apply Kd.V_drew)); exact Kd.V_mono HOq.out (fun _ hk => ⟨⟨hk.1, ⟨hk.2.2.2.1, ⟨hk.2.2.1, hk.2.2.2.2⟩⟩⟩, hk.2.1⟩)) hg hat)
             have n2_ := Aside0.mk (blk_grown (g := g0) (o := .cells #[.int .i64 (wrap64 (x8_1 + 1)), .int .i64 a1_1, .int .i64 a1_2, .int .i64 xu, .string a1_4, .int .i64 a1_5, .int .u32 a1_6, .slice A1_7 l1_7.length c1_7] 48 (0, 0)) (kv B0.out) hg (Kd.N_away HO331.out (fun _ hk => hk.2.2)))
             have n3_ := Aside0.mk (Kd.N_afterv (ok := (fun k_ => ((P0_ k_ ∨ P1_7_ k_) ∨ w.heap.size ≤ k_) ∧ some k_ ≠ (.slice Ao11 t321.length co11 : Value).ownBlock ∧ k_ ≠ g0)) (by (with_reducible repeat (first | apply Kd.N_alloc | apply Kd.N_drewN | apply Kd.N_drew)); exact Kd.N_mono HO334.out (fun _ hk => ⟨⟨hk.1, ⟨hk.2.2.1, hk.2.2.2⟩⟩, hk.2.1⟩)) hg hat)
             have n4_ := Aside0.mk (hb)
             have n5_ := Aside0.mk (ho)
             clear HO_7
             clear HOq
             clear B0
             clear HO334
             clear HB
             clear HO331
             have HO_7 := n0_
             have HOq := n1_
             have B0 := n2_
             have HO334 := n3_
             have HB := n4_
             have HO337 := n5_
             clear n0_ n1_ n2_ n3_ n4_ n5_
             clear ho hb hg hat
             refine hK.out _ _ ⟨(blk_cell B0.out 0).trans rfl, (blk_cell B0.out 1).trans rfl, (blk_cell B0.out 2).trans rfl, (blk_cell B0.out 3).trans rfl, (blk_cell B0.out 4).trans rfl, (blk_cell B0.out 5).trans rfl, (blk_cell B0.out 6).trans rfl, (blk_cell B0.out 7).trans rfl⟩ (fun hHeld => ?_)
             clear hK K
             refine norm_ (a' := ?_) ?_ ?_
             rotate_left
             ·show Act.put _ (some 56) _ = _
              simp only [Act.put, List.setIfInBounds_toArray, List.set_cons_zero, List.set_cons_succ, i64_w, i32_w]
              rfl
             refine pure_ (i := 6) (N := some 10) (v := ?_) (a' := ?_) #[true, true, true, true, true, true, true] rfl rfl (by kernel_rfl) (fun _ _ _ h => h) (Or.inl ⟨by rfl, ?_⟩) ?_ ?_
             rotate_left
             ·intro w'
              go_simp
              with_reducible rfl
             rotate_left
             ·simp only [Act.put, List.setIfInBounds_toArray, List.set_cons_zero, List.set_cons_succ, i64_w, i32_w]
              rfl
             refine done_ (by kernel_rfl) ?_
             have hcz42_0 : w40.cell? ⟨g0, 0, none⟩ = some (.int .i64 (wrap64 (x8_1 + 1))) := (blk_cell B0.out 0).trans rfl
             have hcz42_1 : w40.cell? ⟨g0, 1, none⟩ = some (.int .i64 a1_1) := (blk_cell B0.out 1).trans rfl
             have hcz42_2 : w40.cell? ⟨g0, 2, none⟩ = some (.int .i64 a1_2) := (blk_cell B0.out 2).trans rfl
             have hcz42_3 : w40.cell? ⟨g0, 3, none⟩ = some (.int .i64 xu) := (blk_cell B0.out 3).trans rfl
             have hcz42_4 : w40.cell? ⟨g0, 4, none⟩ = some (.string a1_4) := (blk_cell B0.out 4).trans rfl
             have hcz42_5 : w40.cell? ⟨g0, 5, none⟩ = some (.int .i64 a1_5) := (blk_cell B0.out 5).trans rfl
             have hcz42_6 : w40.cell? ⟨g0, 6, none⟩ = some (.int .u32 a1_6) := (blk_cell B0.out 6).trans rfl
             have hcz42_7 : w40.cell? ⟨g0, 7, none⟩ = some (.slice A1_7 l1_7.length c1_7) := (blk_cell B0.out 7).trans rfl
             have hfz42_0 := blk_frozen B0.out 0
             have hfz42_1 := blk_frozen B0.out 1
             have hfz42_2 := blk_frozen B0.out 2
             have hfz42_3 := blk_frozen B0.out 3
             have hfz42_4 := blk_frozen B0.out 4
             have hfz42_5 := blk_frozen B0.out 5
             have hfz42_6 := blk_frozen B0.out 6
             have hfz42_7 := blk_frozen B0.out 7
             obtain ⟨Ao43, co43, eo43⟩ := Kd.N_slice HO337.out
             subst eo43
             go_upto_region 17 with (first | ((with_reducible refine gate_callee (f := 22) rfl ?_); refine goesL_ (some 63) rfl rfl Try.func22 (by kernel_rfl) rfl #[.slice Ao43 y335.length co43, .string a1_4, .int .i64 (wrap64 (x8_1 + 1))] rfl (by (try simp only [List.map_toArray, List.map_cons, List.map_nil]); first | done | rfl | (simp only [List.length_drop, List.length_take]; rfl)) ?_; (with_reducible refine (keys_Find.calls kj21 (fun k_ => (((P0_ k_ ∨ P1_7_ k_) ∨ w.heap.size ≤ k_) ∧ k_ ≠ g0)) _ _ y335 a1_4 (wrap64 (x8_1 + 1)) t338 t339 t340 t341 t342 t343 t344 t345 t348 _ ?side1 A28.out).mono ?_); (case side1 => exact Kd.N_V (HO337.out)); rintro e w44 ⟨v346, rfl, ho0, hb⟩; refine ⟨_, rfl, ?_⟩; have n0_ := Aside0.mk (Kd.N_below (nv HO_7.out) hb); have n1_ := Aside0.mk (Kd.V_below (vv HOq.out) hb); have n2_ := Aside0.mk (Kd.N_below (nv HO334.out) hb); have n3_ := Aside0.mk (Kd.N_below (nv HO337.out) hb); have n4_ := Aside0.mk (Kd.V_lower (Kd.V_mono (ok' := fun k_ => ((P0_ k_ ∨ P1_7_ k_) ∨ w.heap.size ≤ k_) ∧ k_ ≠ g0) ho0 (fun k_ hk_ => ⟨Or.elim hk_ (fun hs_ => hs_.1) (fun hn_ => (.inr (Nat.le_trans (below_size (by repeat (first | (with_reducible first | exact HB.out | apply below_alloc | apply pw_below_drewN | apply below_drew1 | refine below_set ?_ GE320.out) | exact HB.out))) hn_))), Or.elim hk_ (fun hs_ => hs_.2) (fun hn_ => (Kd.freshB (g := g0) (o := .cells #[.int .i64 (wrap64 (x8_1 + 1)), .int .i64 a1_1, .int .i64 a1_2, .int .i64 xu, .string a1_4, .int .i64 a1_5, .int .u32 a1_6, .slice A1_7 l1_7.length c1_7] 48 (0, 0)) (kv B0.out) k_ hn_))⟩)) (below_size (by repeat (first | (with_reducible first | exact HB.out | apply below_alloc | apply pw_below_drewN | apply below_drew1 | refine below_set ?_ GE320.out) | exact HB.out)))); have n5_ := Aside0.mk (blk_below (kv B0.out) hb); have n6_ := Aside0.mk (below_step (by repeat (first | (with_reducible first | exact HB.out | apply below_alloc | apply pw_below_drewN | apply below_drew1 | refine below_set ?_ GE320.out) | exact HB.out)) hb); clear HO_7; clear HOq; clear HO334; clear HO337; clear B0; clear HB; have HO_7 := n0_; have HOq := n1_; have HO334 := n2_; have HO337 := n3_; have HO347 := n4_; have B0 := n5_; have HB := n6_; clear n0_ n1_ n2_ n3_ n4_ n5_ n6_; (try clear hb); (try clear ho0)) | ((with_reducible refine gate_dst (N := 11) rfl ?_); refine box_event ?hg (N := 11) ?hd (cs := #[.int .i64 0, .int .i64 0, .int .i64 0, .int .i64 0, .string (⟨#[]⟩ : ByteArray), .int .i64 0, .int .u32 0, .slice none 0 0]) (t := 48) ?hr ?_; (case hd => rfl); (case hg => rfl); (case hr => first | (go_simp; done) | (go_simp; rfl)); intro g1 hg w45 hbox hb; have n0_ := Aside0.mk (Kd.N_below (Kd.N_elderB (nv HO_7.out) g1 (Nat.le_of_eq hg.symm)) hb); have n1_ := Aside0.mk (Kd.V_below (Kd.V_elderB (vv HOq.out) g1 (Nat.le_of_eq hg.symm)) hb); have n2_ := Aside0.mk (Kd.N_below (Kd.N_elderB (nv HO334.out) g1 (Nat.le_of_eq hg.symm)) hb); have n3_ := Aside0.mk (Kd.N_below (Kd.N_elderB (nv HO337.out) g1 (Nat.le_of_eq hg.symm)) hb); have n4_ := Aside0.mk (Kd.V_below (Kd.V_elderB (vv HO347.out) g1 (Nat.le_of_eq hg.symm)) hb); have n5_ := Aside0.mk (blk_below (kv B0.out) hb); have n6_ := Aside0.mk (below_step (by repeat (first | (with_reducible first | exact HB.out | apply below_alloc | apply pw_below_drewN | apply below_drew1 | refine below_set ?_ GE320.out) | exact HB.out)) hb); have n7_ := Aside0.mk (hbox); have n8_ := Aside0.mk ((by rw [hg]; exact (below_size (by repeat (first | (with_reducible first | exact HB.out | apply below_alloc | apply pw_below_drewN | apply below_drew1 | refine below_set ?_ GE320.out) | exact HB.out))) : w.heap.size ≤ g1)); have n9_ := Aside0.mk ((by rw [hg]; exact (below_size (by repeat (first | (with_reducible first | exact HB.out | apply below_alloc | apply pw_below_drewN | apply below_drew1 | refine below_set ?_ GE320.out) | exact HB.out))) : w.heap.size ≤ g1)); have n10_ := Aside0.mk ((by rw [hg]; exact Nat.ne_of_lt (blk_lt (g := g0) (o := .cells #[.int .i64 (wrap64 (x8_1 + 1)), .int .i64 a1_1, .int .i64 a1_2, .int .i64 xu, .string a1_4, .int .i64 a1_5, .int .u32 a1_6, .slice A1_7 l1_7.length c1_7] 48 (0, 0)) (kv B0.out)) : g0 ≠ g1)); have n11_ := Aside0.mk ((by rw [hg]; exact Nat.ne_of_gt (blk_lt (g := g0) (o := .cells #[.int .i64 (wrap64 (x8_1 + 1)), .int .i64 a1_1, .int .i64 a1_2, .int .i64 xu, .string a1_4, .int .i64 a1_5, .int .u32 a1_6, .slice A1_7 l1_7.length c1_7] 48 (0, 0)) (kv B0.out)) : g1 ≠ g0)); clear HO_7; clear HOq; clear HO334; clear HO337; clear HO347; clear B0; clear HB; have HO_7 := n0_; have HOq := n1_; have HO334 := n2_; have HO337 := n3_; have HO347 := n4_; have B0 := n5_; have HB := n6_; have B1 := n7_; have GW349 := n8_; have GE349 := n9_; have NB320_349 := n10_; have NB349_320 := n11_; clear n0_ n1_ n2_ n3_ n4_ n5_ n6_ n7_ n8_ n9_ n10_ n11_; clear hb hbox hg; have hnb46 := NB349_320.out; have hnc46 := NB320_349.out; have hcz47_0 : w45.cell? ⟨g1, 0, none⟩ = some (.int .i64 0) := (blk_cell B1.out 0).trans rfl; have hcz47_1 : w45.cell? ⟨g1, 1, none⟩ = some (.int .i64 0) := (blk_cell B1.out 1).trans rfl; have hcz47_2 : w45.cell? ⟨g1, 2, none⟩ = some (.int .i64 0) := (blk_cell B1.out 2).trans rfl; have hcz47_3 : w45.cell? ⟨g1, 3, none⟩ = some (.int .i64 0) := (blk_cell B1.out 3).trans rfl; have hcz47_4 : w45.cell? ⟨g1, 4, none⟩ = some (.string (⟨#[]⟩ : ByteArray)) := (blk_cell B1.out 4).trans rfl; have hcz47_5 : w45.cell? ⟨g1, 5, none⟩ = some (.int .i64 0) := (blk_cell B1.out 5).trans rfl; have hcz47_6 : w45.cell? ⟨g1, 6, none⟩ = some (.int .u32 0) := (blk_cell B1.out 6).trans rfl; have hcz47_7 : w45.cell? ⟨g1, 7, none⟩ = some (.slice none 0 0) := (blk_cell B1.out 7).trans rfl; have hfz47_0 := blk_frozen B1.out 0; have hfz47_1 := blk_frozen B1.out 1; have hfz47_2 := blk_frozen B1.out 2; have hfz47_3 := blk_frozen B1.out 3; have hfz47_4 := blk_frozen B1.out 4; have hfz47_5 := blk_frozen B1.out 5; have hfz47_6 := blk_frozen B1.out 6; have hfz47_7 := blk_frozen B1.out 7; obtain ⟨Ao48, co48, eo48⟩ := Kd.V_slice HO347.out; subst eo48) | ((with_reducible refine gate_store (t := 48) (p := 11) rfl ?_); refine store_event (t := 48) (p := 11) (v := ?vo_w49) (w1 := ((((((((w45.setCell ⟨g1, 0, none⟩ (.int .i64 t338)).setCell ⟨g1, 1, none⟩ (.int .i64 t339)).setCell ⟨g1, 2, none⟩ (.int .i64 t340)).setCell ⟨g1, 3, none⟩ (.int .i64 t341)).setCell ⟨g1, 4, none⟩ (.string t342)).setCell ⟨g1, 5, none⟩ (.int .i64 t343)).setCell ⟨g1, 6, none⟩ (.int .u32 t344)).setCell ⟨g1, 7, none⟩ (.slice Ao48 t345.length co48))) ?hg ?ho ?hn ?hr ?_; (case ho => rfl); (case hg => rfl); (case hn => rfl); (case hr => first | (go_simp; done) | (go_simp; rfl)); intro w49 hw; have n0_ : Aside0 (Kd.N k48 48 w49 w.heap.size (fun k_ => ((P0_ k_ ∨ P1_7_ k_) ∨ w.heap.size ≤ k_) ∧ some k_ ≠ (.slice Ao41 y332.length co41 : Value).ownBlock ∧ some k_ ≠ (.slice Ao43 y335.length co43 : Value).ownBlock ∧ k_ ≠ g0 ∧ k_ ≠ g1) (.slice Ao11 t321.length co11) t321) := ⟨(by rw [hw]; exact (by (with_reducible repeat (first | apply Kd.N_alloc | apply Kd.N_drewN | apply Kd.N_drew)); exact Kd.N_mono (Kd.N_far (p := ⟨g1, 7, none⟩) (Kd.N_far (p := ⟨g1, 6, none⟩) (Kd.N_far (p := ⟨g1, 5, none⟩) (Kd.N_far (p := ⟨g1, 4, none⟩) (Kd.N_far (p := ⟨g1, 3, none⟩) (Kd.N_far (p := ⟨g1, 2, none⟩) (Kd.N_far (p := ⟨g1, 1, none⟩) (Kd.N_far (p := ⟨g1, 0, none⟩) (Kd.N_mono HO_7.out (fun k_ hk => (⟨hk, hk.2⟩ : _ ∧ k_ ≠ g1))) (fun _ hk => hk.2) (.int .i64 t338)) (fun _ hk => hk.2) (.int .i64 t339)) (fun _ hk => hk.2) (.int .i64 t340)) (fun _ hk => hk.2) (.int .i64 t341)) (fun _ hk => hk.2) (.string t342)) (fun _ hk => hk.2) (.int .i64 t343)) (fun _ hk => hk.2) (.int .u32 t344)) (fun _ hk => hk.2) (.slice Ao48 t345.length co48)) (fun _ hk => ⟨hk.1.1.1.1, ⟨hk.1.1.1.2.1, ⟨hk.1.1.2, ⟨hk.1.1.1.2.2, hk.1.2⟩⟩⟩⟩)))⟩; have n1_ : Aside0 (Kd.V (Kd.int .u8) 5 w49 w.heap.size (fun k_ => ((P0_ k_ ∨ P1_7_ k_) ∨ w.heap.size ≤ k_) ∧ some k_ ≠ (.slice Ao11 t321.length co11 : Value).ownBlock ∧ some k_ ≠ (.slice Ao41 y332.length co41 : Value).ownBlock ∧ some k_ ≠ (.slice Ao43 y335.length co43 : Value).ownBlock ∧ k_ ≠ g0 ∧ k_ ≠ g1) (.slice A1_7 l1_7.length c1_7) l1_7) := ⟨(by rw [hw]; exact (by (with_reducible repeat (first | apply Kd.V_alloc | apply Kd.V_drewN | apply Kd.V_drew)); exact Kd.V_mono (Kd.V_far (p := ⟨g1, 7, none⟩) (Kd.V_far (p := ⟨g1, 6, none⟩) (Kd.V_far (p := ⟨g1, 5, none⟩) (Kd.V_far (p := ⟨g1, 4, none⟩) (Kd.V_far (p := ⟨g1, 3, none⟩) (Kd.V_far (p := ⟨g1, 2, none⟩) (Kd.V_far (p := ⟨g1, 1, none⟩) (Kd.V_far (p := ⟨g1, 0, none⟩) (Kd.V_mono HOq.out (fun k_ hk => (⟨hk, hk.2⟩ : _ ∧ k_ ≠ g1))) (fun _ hk => hk.2) (.int .i64 t338)) (fun _ hk => hk.2) (.int .i64 t339)) (fun _ hk => hk.2) (.int .i64 t340)) (fun _ hk => hk.2) (.int .i64 t341)) (fun _ hk => hk.2) (.string t342)) (fun _ hk => hk.2) (.int .i64 t343)) (fun _ hk => hk.2) (.int .u32 t344)) (fun _ hk => hk.2) (.slice Ao48 t345.length co48)) (fun _ hk => ⟨hk.1.1.1.1, ⟨hk.1.1.1.2.1, ⟨hk.1.1.1.2.2.1, ⟨hk.1.1.2, ⟨hk.1.1.1.2.2.2, hk.1.2⟩⟩⟩⟩⟩)))⟩; have n2_ : Aside0 (Kd.N k48 48 w49 w.heap.size (fun k_ => ((P0_ k_ ∨ P1_7_ k_) ∨ w.heap.size ≤ k_) ∧ some k_ ≠ (.slice Ao11 t321.length co11 : Value).ownBlock ∧ some k_ ≠ (.slice Ao43 y335.length co43 : Value).ownBlock ∧ k_ ≠ g0 ∧ k_ ≠ g1) (.slice Ao41 y332.length co41) y332) := ⟨(by rw [hw]; exact (by (with_reducible repeat (first | apply Kd.N_alloc | apply Kd.N_drewN | apply Kd.N_drew)); exact Kd.N_mono (Kd.N_far (p := ⟨g1, 7, none⟩) (Kd.N_far (p := ⟨g1, 6, none⟩) (Kd.N_far (p := ⟨g1, 5, none⟩) (Kd.N_far (p := ⟨g1, 4, none⟩) (Kd.N_far (p := ⟨g1, 3, none⟩) (Kd.N_far (p := ⟨g1, 2, none⟩) (Kd.N_far (p := ⟨g1, 1, none⟩) (Kd.N_far (p := ⟨g1, 0, none⟩) (Kd.N_mono HO334.out (fun k_ hk => (⟨hk, hk.2⟩ : _ ∧ k_ ≠ g1))) (fun _ hk => hk.2) (.int .i64 t338)) (fun _ hk => hk.2) (.int .i64 t339)) (fun _ hk => hk.2) (.int .i64 t340)) (fun _ hk => hk.2) (.int .i64 t341)) (fun _ hk => hk.2) (.string t342)) (fun _ hk => hk.2) (.int .i64 t343)) (fun _ hk => hk.2) (.int .u32 t344)) (fun _ hk => hk.2) (.slice Ao48 t345.length co48)) (fun _ hk => ⟨hk.1.1.1.1, ⟨hk.1.1.1.2.1, ⟨hk.1.1.2, ⟨hk.1.1.1.2.2, hk.1.2⟩⟩⟩⟩)))⟩; have n3_ : Aside0 (Kd.N k48 48 w49 w.heap.size (fun k_ => ((P0_ k_ ∨ P1_7_ k_) ∨ w.heap.size ≤ k_) ∧ k_ ≠ g0 ∧ k_ ≠ g1) (.slice Ao43 y335.length co43) y335) := ⟨(by rw [hw]; exact (by (with_reducible repeat (first | apply Kd.N_alloc | apply Kd.N_drewN | apply Kd.N_drew)); exact Kd.N_mono (Kd.N_far (p := ⟨g1, 7, none⟩) (Kd.N_far (p := ⟨g1, 6, none⟩) (Kd.N_far (p := ⟨g1, 5, none⟩) (Kd.N_far (p := ⟨g1, 4, none⟩) (Kd.N_far (p := ⟨g1, 3, none⟩) (Kd.N_far (p := ⟨g1, 2, none⟩) (Kd.N_far (p := ⟨g1, 1, none⟩) (Kd.N_far (p := ⟨g1, 0, none⟩) (Kd.N_mono HO337.out (fun k_ hk => (⟨hk, hk.2⟩ : _ ∧ k_ ≠ g1))) (fun _ hk => hk.2) (.int .i64 t338)) (fun _ hk => hk.2) (.int .i64 t339)) (fun _ hk => hk.2) (.int .i64 t340)) (fun _ hk => hk.2) (.int .i64 t341)) (fun _ hk => hk.2) (.string t342)) (fun _ hk => hk.2) (.int .i64 t343)) (fun _ hk => hk.2) (.int .u32 t344)) (fun _ hk => hk.2) (.slice Ao48 t345.length co48)) (fun _ hk => ⟨hk.1.1.1, ⟨hk.1.1.2, hk.1.2⟩⟩)))⟩; have n4_ : Aside0 (Kd.V (Kd.int .u8) 5 w49 w.heap.size (fun k_ => ((P0_ k_ ∨ P1_7_ k_) ∨ w.heap.size ≤ k_) ∧ k_ ≠ g0 ∧ k_ ≠ g1) (.slice Ao48 t345.length co48) t345) := ⟨(by rw [hw]; exact (by (with_reducible repeat (first | apply Kd.V_alloc | apply Kd.V_drewN | apply Kd.V_drew)); exact Kd.V_mono (Kd.V_far (p := ⟨g1, 7, none⟩) (Kd.V_far (p := ⟨g1, 6, none⟩) (Kd.V_far (p := ⟨g1, 5, none⟩) (Kd.V_far (p := ⟨g1, 4, none⟩) (Kd.V_far (p := ⟨g1, 3, none⟩) (Kd.V_far (p := ⟨g1, 2, none⟩) (Kd.V_far (p := ⟨g1, 1, none⟩) (Kd.V_far (p := ⟨g1, 0, none⟩) (Kd.V_mono HO347.out (fun k_ hk => (⟨hk, hk.2⟩ : _ ∧ k_ ≠ g1))) (fun _ hk => hk.2) (.int .i64 t338)) (fun _ hk => hk.2) (.int .i64 t339)) (fun _ hk => hk.2) (.int .i64 t340)) (fun _ hk => hk.2) (.int .i64 t341)) (fun _ hk => hk.2) (.string t342)) (fun _ hk => hk.2) (.int .i64 t343)) (fun _ hk => hk.2) (.int .u32 t344)) (fun _ hk => hk.2) (.slice Ao48 t345.length co48)) (fun _ hk => ⟨hk.1.1.1, ⟨hk.1.1.2, hk.1.2⟩⟩)))⟩; have n5_ : Aside0 (w49.heap[g0]? = some (.cells #[.int .i64 (wrap64 (x8_1 + 1)), .int .i64 a1_1, .int .i64 a1_2, .int .i64 xu, .string a1_4, .int .i64 a1_5, .int .u32 a1_6, .slice A1_7 l1_7.length c1_7] 48 (0, 0))) := ⟨(by rw [hw]; exact (by (with_reducible repeat (first | refine blk_drewN ?_ _ | refine blk_drew ?_ | refine blk_alloc ?_ _)); refine blk_far ?_ NB320_349.out _; (with_reducible repeat (first | refine blk_drewN ?_ _ | refine blk_drew ?_ | refine blk_alloc ?_ _)); refine blk_far ?_ NB320_349.out _; (with_reducible repeat (first | refine blk_drewN ?_ _ | refine blk_drew ?_ | refine blk_alloc ?_ _)); refine blk_far ?_ NB320_349.out _; (with_reducible repeat (first | refine blk_drewN ?_ _ | refine blk_drew ?_ | refine blk_alloc ?_ _)); refine blk_far ?_ NB320_349.out _; (with_reducible repeat (first | refine blk_drewN ?_ _ | refine blk_drew ?_ | refine blk_alloc ?_ _)); refine blk_far ?_ NB320_349.out _; (with_reducible repeat (first | refine blk_drewN ?_ _ | refine blk_drew ?_ | refine blk_alloc ?_ _)); refine blk_far ?_ NB320_349.out _; (with_reducible repeat (first | refine blk_drewN ?_ _ | refine blk_drew ?_ | refine blk_alloc ?_ _)); refine blk_far ?_ NB320_349.out _; (with_reducible repeat (first | refine blk_drewN ?_ _ | refine blk_drew ?_ | refine blk_alloc ?_ _)); refine blk_far ?_ NB320_349.out _; (with_reducible repeat (first | refine blk_drewN ?_ _ | refine blk_drew ?_ | refine blk_alloc ?_ _)); exact B0.out))⟩; have n6_ : Aside0 (w49.heap[g1]? = some (.cells #[.int .i64 t338, .int .i64 t339, .int .i64 t340, .int .i64 t341, .string t342, .int .i64 t343, .int .u32 t344, .slice Ao48 t345.length co48] 48 (0, 0))) := ⟨(by rw [hw]; exact (by (with_reducible repeat (first | refine blk_drewN ?_ _ | refine blk_drew ?_ | refine blk_alloc ?_ _)); refine blk_put (cs := #[.int .i64 t338, .int .i64 t339, .int .i64 t340, .int .i64 t341, .string t342, .int .i64 t343, .int .u32 t344, .slice none 0 0]) ?_ 7 _ rfl; (with_reducible repeat (first | refine blk_drewN ?_ _ | refine blk_drew ?_ | refine blk_alloc ?_ _)); refine blk_put (cs := #[.int .i64 t338, .int .i64 t339, .int .i64 t340, .int .i64 t341, .string t342, .int .i64 t343, .int .u32 0, .slice none 0 0]) ?_ 6 _ rfl; (with_reducible repeat (first | refine blk_drewN ?_ _ | refine blk_drew ?_ | refine blk_alloc ?_ _)); refine blk_put (cs := #[.int .i64 t338, .int .i64 t339, .int .i64 t340, .int .i64 t341, .string t342, .int .i64 0, .int .u32 0, .slice none 0 0]) ?_ 5 _ rfl; (with_reducible repeat (first | refine blk_drewN ?_ _ | refine blk_drew ?_ | refine blk_alloc ?_ _)); refine blk_put (cs := #[.int .i64 t338, .int .i64 t339, .int .i64 t340, .int .i64 t341, .string (⟨#[]⟩ : ByteArray), .int .i64 0, .int .u32 0, .slice none 0 0]) ?_ 4 _ rfl; (with_reducible repeat (first | refine blk_drewN ?_ _ | refine blk_drew ?_ | refine blk_alloc ?_ _)); refine blk_put (cs := #[.int .i64 t338, .int .i64 t339, .int .i64 t340, .int .i64 0, .string (⟨#[]⟩ : ByteArray), .int .i64 0, .int .u32 0, .slice none 0 0]) ?_ 3 _ rfl; (with_reducible repeat (first | refine blk_drewN ?_ _ | refine blk_drew ?_ | refine blk_alloc ?_ _)); refine blk_put (cs := #[.int .i64 t338, .int .i64 t339, .int .i64 0, .int .i64 0, .string (⟨#[]⟩ : ByteArray), .int .i64 0, .int .u32 0, .slice none 0 0]) ?_ 2 _ rfl; (with_reducible repeat (first | refine blk_drewN ?_ _ | refine blk_drew ?_ | refine blk_alloc ?_ _)); refine blk_put (cs := #[.int .i64 t338, .int .i64 0, .int .i64 0, .int .i64 0, .string (⟨#[]⟩ : ByteArray), .int .i64 0, .int .u32 0, .slice none 0 0]) ?_ 1 _ rfl; (with_reducible repeat (first | refine blk_drewN ?_ _ | refine blk_drew ?_ | refine blk_alloc ?_ _)); refine blk_put (cs := #[.int .i64 0, .int .i64 0, .int .i64 0, .int .i64 0, .string (⟨#[]⟩ : ByteArray), .int .i64 0, .int .u32 0, .slice none 0 0]) ?_ 0 _ rfl; (with_reducible repeat (first | refine blk_drewN ?_ _ | refine blk_drew ?_ | refine blk_alloc ?_ _)); exact B1.out))⟩; have n7_ : Aside0 (Below w.heap.size w w49) := ⟨(by rw [hw]; exact (by repeat (first | (with_reducible first | exact HB.out | apply below_alloc | apply pw_below_drewN | apply below_drew1 | refine below_set ?_ GE320.out | refine below_set ?_ GE349.out) | exact HB.out)))⟩; clear hw; clear HO_7; clear HOq; clear HO334; clear HO337; clear HO347; clear B0; clear B1; clear HB; have HO_7 := n0_; have HOq := n1_; have HO334 := n2_; have HO337 := n3_; have HO347 := n4_; have B0 := n5_; have B1 := n6_; have HB := n7_; clear n0_ n1_ n2_ n3_ n4_ n5_ n6_ n7_) | ((with_reducible refine gate_callee (f := 22) rfl ?_); refine goesL_ (some 70) rfl rfl Try.func22 (by kernel_rfl) rfl #[.slice Ao11 t321.length co11, .string a2, .int .i64 x8_1] rfl (by (try simp only [List.map_toArray, List.map_cons, List.map_nil]); first | done | rfl | (simp only [List.length_drop, List.length_take]; rfl)) ?_; (with_reducible refine (keys_Find.calls kj21 (fun k_ => (((P0_ k_ ∨ P1_7_ k_) ∨ w.heap.size ≤ k_) ∧ (some k_ ≠ (.slice Ao41 y332.length co41 : Value).ownBlock ∧ (some k_ ≠ (.slice Ao43 y335.length co43 : Value).ownBlock ∧ (k_ ≠ g0 ∧ k_ ≠ g1))))) _ _ t321 a2 x8_1 t350 t351 t352 t353 t354 t355 t356 t357 t360 _ ?side1 A29.out).mono ?_); (case side1 => exact Kd.N_V (HO_7.out)); rintro e w50 ⟨v358, rfl, ho0, hb⟩; refine ⟨_, rfl, ?_⟩; have n0_ := Aside0.mk (Kd.N_below (nv HO_7.out) hb); have n1_ := Aside0.mk (Kd.V_below (vv HOq.out) hb); have n2_ := Aside0.mk (Kd.N_below (nv HO334.out) hb); have n3_ := Aside0.mk (Kd.N_below (nv HO337.out) hb); have n4_ := Aside0.mk (Kd.V_below (vv HO347.out) hb); have n5_ := Aside0.mk (Kd.V_lower (Kd.V_mono (ok' := fun k_ => ((P0_ k_ ∨ P1_7_ k_) ∨ w.heap.size ≤ k_) ∧ some k_ ≠ (.slice Ao41 y332.length co41 : Value).ownBlock ∧ some k_ ≠ (.slice Ao43 y335.length co43 : Value).ownBlock ∧ k_ ≠ g0 ∧ k_ ≠ g1) ho0 (fun k_ hk_ => ⟨Or.elim hk_ (fun hs_ => hs_.1) (fun hn_ => (.inr (Nat.le_trans (below_size (by repeat (first | (with_reducible first | exact HB.out | apply below_alloc | apply pw_below_drewN | apply below_drew1 | refine below_set ?_ GE320.out | refine below_set ?_ GE349.out) | exact HB.out))) hn_))), Or.elim hk_ (fun hs_ => hs_.2.1) (fun hn_ => (Kd.fresh' (Kd.N_lt (nv HO334.out)) k_ hn_)), Or.elim hk_ (fun hs_ => hs_.2.2.1) (fun hn_ => (Kd.fresh' (Kd.N_lt (nv HO337.out)) k_ hn_)), Or.elim hk_ (fun hs_ => hs_.2.2.2.1) (fun hn_ => (Kd.freshB (g := g0) (o := .cells #[.int .i64 (wrap64 (x8_1 + 1)), .int .i64 a1_1, .int .i64 a1_2, .int .i64 xu, .string a1_4, .int .i64 a1_5, .int .u32 a1_6, .slice A1_7 l1_7.length c1_7] 48 (0, 0)) (kv B0.out) k_ hn_)), Or.elim hk_ (fun hs_ => hs_.2.2.2.2) (fun hn_ => (Kd.freshB (g := g1) (o := .cells #[.int .i64 t338, .int .i64 t339, .int .i64 t340, .int .i64 t341, .string t342, .int .i64 t343, .int .u32 t344, .slice Ao48 t345.length co48] 48 (0, 0)) (kv B1.out) k_ hn_))⟩)) (below_size (by repeat (first | (with_reducible first | exact HB.out | apply below_alloc | apply pw_below_drewN | apply below_drew1 | refine below_set ?_ GE320.out | refine below_set ?_ GE349.out) | exact HB.out)))); have n6_ := Aside0.mk (blk_below (kv B0.out) hb); have n7_ := Aside0.mk (blk_below (kv B1.out) hb); have n8_ := Aside0.mk (below_step (by repeat (first | (with_reducible first | exact HB.out | apply below_alloc | apply pw_below_drewN | apply below_drew1 | refine below_set ?_ GE320.out | refine below_set ?_ GE349.out) | exact HB.out)) hb); clear HO_7; clear HOq; clear HO334; clear HO337; clear HO347; clear B0; clear B1; clear HB; have HO_7 := n0_; have HOq := n1_; have HO334 := n2_; have HO337 := n3_; have HO347 := n4_; have HO359 := n5_; have B0 := n6_; have B1 := n7_; have HB := n8_; clear n0_ n1_ n2_ n3_ n4_ n5_ n6_ n7_ n8_; (try clear hb); (try clear ho0)) | ((with_reducible refine gate_dst (N := 13) rfl ?_); refine box_event ?hg (N := 13) ?hd (cs := #[.int .i64 0, .int .i64 0, .int .i64 0, .int .i64 0, .string (⟨#[]⟩ : ByteArray), .int .i64 0, .int .u32 0, .slice none 0 0]) (t := 48) ?hr ?_; (case hd => rfl); (case hg => rfl); (case hr => first | (go_simp; done) | (go_simp; rfl)); intro g2 hg w51 hbox hb; have n0_ := Aside0.mk (Kd.N_below (Kd.N_elderB (nv HO_7.out) g2 (Nat.le_of_eq hg.symm)) hb); have n1_ := Aside0.mk (Kd.V_below (Kd.V_elderB (vv HOq.out) g2 (Nat.le_of_eq hg.symm)) hb); have n2_ := Aside0.mk (Kd.N_below (Kd.N_elderB (nv HO334.out) g2 (Nat.le_of_eq hg.symm)) hb); have n3_ := Aside0.mk (Kd.N_below (Kd.N_elderB (nv HO337.out) g2 (Nat.le_of_eq hg.symm)) hb); have n4_ := Aside0.mk (Kd.V_below (Kd.V_elderB (vv HO347.out) g2 (Nat.le_of_eq hg.symm)) hb); have n5_ := Aside0.mk (Kd.V_below (Kd.V_elderB (vv HO359.out) g2 (Nat.le_of_eq hg.symm)) hb); have n6_ := Aside0.mk (blk_below (kv B0.out) hb); have n7_ := Aside0.mk (blk_below (kv B1.out) hb); have n8_ := Aside0.mk (below_step (by repeat (first | (with_reducible first | exact HB.out | apply below_alloc | apply pw_below_drewN | apply below_drew1 | refine below_set ?_ GE320.out | refine below_set ?_ GE349.out) | exact HB.out)) hb); have n9_ := Aside0.mk (hbox); have n10_ := Aside0.mk ((by rw [hg]; exact (below_size (by repeat (first | (with_reducible first | exact HB.out | apply below_alloc | apply pw_below_drewN | apply below_drew1 | refine below_set ?_ GE320.out | refine below_set ?_ GE349.out) | exact HB.out))) : w.heap.size ≤ g2)); have n11_ := Aside0.mk ((by rw [hg]; exact (below_size (by repeat (first | (with_reducible first | exact HB.out | apply below_alloc | apply pw_below_drewN | apply below_drew1 | refine below_set ?_ GE320.out | refine below_set ?_ GE349.out) | exact HB.out))) : w.heap.size ≤ g2)); have n12_ := Aside0.mk ((by rw [hg]; exact Nat.ne_of_lt (blk_lt (g := g0) (o := .cells #[.int .i64 (wrap64 (x8_1 + 1)), .int .i64 a1_1, .int .i64 a1_2, .int .i64 xu, .string a1_4, .int .i64 a1_5, .int .u32 a1_6, .slice A1_7 l1_7.length c1_7] 48 (0, 0)) (kv B0.out)) : g0 ≠ g2)); have n13_ := Aside0.mk ((by rw [hg]; exact Nat.ne_of_gt (blk_lt (g := g0) (o := .cells #[.int .i64 (wrap64 (x8_1 + 1)), .int .i64 a1_1, .int .i64 a1_2, .int .i64 xu, .string a1_4, .int .i64 a1_5, .int .u32 a1_6, .slice A1_7 l1_7.length c1_7] 48 (0, 0)) (kv B0.out)) : g2 ≠ g0)); have n14_ := Aside0.mk ((by rw [hg]; exact Nat.ne_of_lt (blk_lt (g := g1) (o := .cells #[.int .i64 t338, .int .i64 t339, .int .i64 t340, .int .i64 t341, .string t342, .int .i64 t343, .int .u32 t344, .slice Ao48 t345.length co48] 48 (0, 0)) (kv B1.out)) : g1 ≠ g2)); have n15_ := Aside0.mk ((by rw [hg]; exact Nat.ne_of_gt (blk_lt (g := g1) (o := .cells #[.int .i64 t338, .int .i64 t339, .int .i64 t340, .int .i64 t341, .string t342, .int .i64 t343, .int .u32 t344, .slice Ao48 t345.length co48] 48 (0, 0)) (kv B1.out)) : g2 ≠ g1)); clear HO_7; clear HOq; clear HO334; clear HO337; clear HO347; clear HO359; clear B0; clear B1; clear HB; have HO_7 := n0_; have HOq := n1_; have HO334 := n2_; have HO337 := n3_; have HO347 := n4_; have HO359 := n5_; have B0 := n6_; have B1 := n7_; have HB := n8_; have B2 := n9_; have GW361 := n10_; have GE361 := n11_; have NB320_361 := n12_; have NB361_320 := n13_; have NB349_361 := n14_; have NB361_349 := n15_; clear n0_ n1_ n2_ n3_ n4_ n5_ n6_ n7_ n8_ n9_ n10_ n11_ n12_ n13_ n14_ n15_; clear hb hbox hg; have hnb52 := NB361_320.out; have hnc52 := NB320_361.out; have hnb53 := NB361_349.out; have hnc53 := NB349_361.out; have hcz54_0 : w51.cell? ⟨g2, 0, none⟩ = some (.int .i64 0) := (blk_cell B2.out 0).trans rfl; have hcz54_1 : w51.cell? ⟨g2, 1, none⟩ = some (.int .i64 0) := (blk_cell B2.out 1).trans rfl; have hcz54_2 : w51.cell? ⟨g2, 2, none⟩ = some (.int .i64 0) := (blk_cell B2.out 2).trans rfl; have hcz54_3 : w51.cell? ⟨g2, 3, none⟩ = some (.int .i64 0) := (blk_cell B2.out 3).trans rfl; have hcz54_4 : w51.cell? ⟨g2, 4, none⟩ = some (.string (⟨#[]⟩ : ByteArray)) := (blk_cell B2.out 4).trans rfl; have hcz54_5 : w51.cell? ⟨g2, 5, none⟩ = some (.int .i64 0) := (blk_cell B2.out 5).trans rfl; have hcz54_6 : w51.cell? ⟨g2, 6, none⟩ = some (.int .u32 0) := (blk_cell B2.out 6).trans rfl; have hcz54_7 : w51.cell? ⟨g2, 7, none⟩ = some (.slice none 0 0) := (blk_cell B2.out 7).trans rfl; have hfz54_0 := blk_frozen B2.out 0; have hfz54_1 := blk_frozen B2.out 1; have hfz54_2 := blk_frozen B2.out 2; have hfz54_3 := blk_frozen B2.out 3; have hfz54_4 := blk_frozen B2.out 4; have hfz54_5 := blk_frozen B2.out 5; have hfz54_6 := blk_frozen B2.out 6; have hfz54_7 := blk_frozen B2.out 7; obtain ⟨Ao55, co55, eo55⟩ := Kd.V_slice HO359.out; subst eo55) | ((with_reducible refine gate_store (t := 48) (p := 13) rfl ?_); refine store_event (t := 48) (p := 13) (v := ?vo_w56) (w1 := ((((((((w51.setCell ⟨g2, 0, none⟩ (.int .i64 t350)).setCell ⟨g2, 1, none⟩ (.int .i64 t351)).setCell ⟨g2, 2, none⟩ (.int .i64 t352)).setCell ⟨g2, 3, none⟩ (.int .i64 t353)).setCell ⟨g2, 4, none⟩ (.string t354)).setCell ⟨g2, 5, none⟩ (.int .i64 t355)).setCell ⟨g2, 6, none⟩ (.int .u32 t356)).setCell ⟨g2, 7, none⟩ (.slice Ao55 t357.length co55))) ?hg ?ho ?hn ?hr ?_; (case ho => rfl); (case hg => rfl); (case hn => rfl); (case hr => first | (go_simp; done) | (go_simp; rfl)); intro w56 hw; have n0_ : Aside0 (Kd.N k48 48 w56 w.heap.size (fun k_ => ((P0_ k_ ∨ P1_7_ k_) ∨ w.heap.size ≤ k_) ∧ some k_ ≠ (.slice Ao41 y332.length co41 : Value).ownBlock ∧ some k_ ≠ (.slice Ao43 y335.length co43 : Value).ownBlock ∧ k_ ≠ g0 ∧ k_ ≠ g1 ∧ k_ ≠ g2) (.slice Ao11 t321.length co11) t321) := ⟨(by rw [hw]; exact (by (with_reducible repeat (first | apply Kd.N_alloc | apply Kd.N_drewN | apply Kd.N_drew)); exact Kd.N_mono (Kd.N_far (p := ⟨g2, 7, none⟩) (Kd.N_far (p := ⟨g2, 6, none⟩) (Kd.N_far (p := ⟨g2, 5, none⟩) (Kd.N_far (p := ⟨g2, 4, none⟩) (Kd.N_far (p := ⟨g2, 3, none⟩) (Kd.N_far (p := ⟨g2, 2, none⟩) (Kd.N_far (p := ⟨g2, 1, none⟩) (Kd.N_far (p := ⟨g2, 0, none⟩) (Kd.N_mono HO_7.out (fun k_ hk => (⟨hk, hk.2⟩ : _ ∧ k_ ≠ g2))) (fun _ hk => hk.2) (.int .i64 t350)) (fun _ hk => hk.2) (.int .i64 t351)) (fun _ hk => hk.2) (.int .i64 t352)) (fun _ hk => hk.2) (.int .i64 t353)) (fun _ hk => hk.2) (.string t354)) (fun _ hk => hk.2) (.int .i64 t355)) (fun _ hk => hk.2) (.int .u32 t356)) (fun _ hk => hk.2) (.slice Ao55 t357.length co55)) (fun _ hk => ⟨hk.1.1.1, ⟨hk.1.1.2.1, ⟨hk.1.1.2.2.1, ⟨hk.1.1.2.2.2.1, ⟨hk.1.1.2.2.2.2, hk.1.2⟩⟩⟩⟩⟩)))⟩; have n1_ : Aside0 (Kd.V (Kd.int .u8) 5 w56 w.heap.size (fun k_ => ((P0_ k_ ∨ P1_7_ k_) ∨ w.heap.size ≤ k_) ∧ some k_ ≠ (.slice Ao11 t321.length co11 : Value).ownBlock ∧ some k_ ≠ (.slice Ao41 y332.length co41 : Value).ownBlock ∧ some k_ ≠ (.slice Ao43 y335.length co43 : Value).ownBlock ∧ k_ ≠ g0 ∧ k_ ≠ g1 ∧ k_ ≠ g2) (.slice A1_7 l1_7.length c1_7) l1_7) := ⟨(by rw [hw]; exact (by (with_reducible repeat (first | apply Kd.V_alloc | apply Kd.V_drewN | apply Kd.V_drew)); exact Kd.V_mono (Kd.V_far (p := ⟨g2, 7, none⟩) (Kd.V_far (p := ⟨g2, 6, none⟩) (Kd.V_far (p := ⟨g2, 5, none⟩) (Kd.V_far (p := ⟨g2, 4, none⟩) (Kd.V_far (p := ⟨g2, 3, none⟩) (Kd.V_far (p := ⟨g2, 2, none⟩) (Kd.V_far (p := ⟨g2, 1, none⟩) (Kd.V_far (p := ⟨g2, 0, none⟩) (Kd.V_mono HOq.out (fun k_ hk => (⟨hk, hk.2⟩ : _ ∧ k_ ≠ g2))) (fun _ hk => hk.2) (.int .i64 t350)) (fun _ hk => hk.2) (.int .i64 t351)) (fun _ hk => hk.2) (.int .i64 t352)) (fun _ hk => hk.2) (.int .i64 t353)) (fun _ hk => hk.2) (.string t354)) (fun _ hk => hk.2) (.int .i64 t355)) (fun _ hk => hk.2) (.int .u32 t356)) (fun _ hk => hk.2) (.slice Ao55 t357.length co55)) (fun _ hk => ⟨hk.1.1.1, ⟨hk.1.1.2.1, ⟨hk.1.1.2.2.1, ⟨hk.1.1.2.2.2.1, ⟨hk.1.1.2.2.2.2.1, ⟨hk.1.1.2.2.2.2.2, hk.1.2⟩⟩⟩⟩⟩⟩)))⟩; have n2_ : Aside0 (Kd.N k48 48 w56 w.heap.size (fun k_ => ((P0_ k_ ∨ P1_7_ k_) ∨ w.heap.size ≤ k_) ∧ some k_ ≠ (.slice Ao11 t321.length co11 : Value).ownBlock ∧ some k_ ≠ (.slice Ao43 y335.length co43 : Value).ownBlock ∧ k_ ≠ g0 ∧ k_ ≠ g1 ∧ k_ ≠ g2) (.slice Ao41 y332.length co41) y332) := ⟨(by rw [hw]; exact (by (with_reducible repeat (first | apply Kd.N_alloc | apply Kd.N_drewN | apply Kd.N_drew)); exact Kd.N_mono (Kd.N_far (p := ⟨g2, 7, none⟩) (Kd.N_far (p := ⟨g2, 6, none⟩) (Kd.N_far (p := ⟨g2, 5, none⟩) (Kd.N_far (p := ⟨g2, 4, none⟩) (Kd.N_far (p := ⟨g2, 3, none⟩) (Kd.N_far (p := ⟨g2, 2, none⟩) (Kd.N_far (p := ⟨g2, 1, none⟩) (Kd.N_far (p := ⟨g2, 0, none⟩) (Kd.N_mono HO334.out (fun k_ hk => (⟨hk, hk.2⟩ : _ ∧ k_ ≠ g2))) (fun _ hk => hk.2) (.int .i64 t350)) (fun _ hk => hk.2) (.int .i64 t351)) (fun _ hk => hk.2) (.int .i64 t352)) (fun _ hk => hk.2) (.int .i64 t353)) (fun _ hk => hk.2) (.string t354)) (fun _ hk => hk.2) (.int .i64 t355)) (fun _ hk => hk.2) (.int .u32 t356)) (fun _ hk => hk.2) (.slice Ao55 t357.length co55)) (fun _ hk => ⟨hk.1.1.1, ⟨hk.1.1.2.1, ⟨hk.1.1.2.2.1, ⟨hk.1.1.2.2.2.1, ⟨hk.1.1.2.2.2.2, hk.1.2⟩⟩⟩⟩⟩)))⟩; have n3_ : Aside0 (Kd.N k48 48 w56 w.heap.size (fun k_ => ((P0_ k_ ∨ P1_7_ k_) ∨ w.heap.size ≤ k_) ∧ k_ ≠ g0 ∧ k_ ≠ g1 ∧ k_ ≠ g2) (.slice Ao43 y335.length co43) y335) := ⟨(by rw [hw]; exact (by (with_reducible repeat (first | apply Kd.N_alloc | apply Kd.N_drewN | apply Kd.N_drew)); exact Kd.N_mono (Kd.N_far (p := ⟨g2, 7, none⟩) (Kd.N_far (p := ⟨g2, 6, none⟩) (Kd.N_far (p := ⟨g2, 5, none⟩) (Kd.N_far (p := ⟨g2, 4, none⟩) (Kd.N_far (p := ⟨g2, 3, none⟩) (Kd.N_far (p := ⟨g2, 2, none⟩) (Kd.N_far (p := ⟨g2, 1, none⟩) (Kd.N_far (p := ⟨g2, 0, none⟩) (Kd.N_mono HO337.out (fun k_ hk => (⟨hk, hk.2⟩ : _ ∧ k_ ≠ g2))) (fun _ hk => hk.2) (.int .i64 t350)) (fun _ hk => hk.2) (.int .i64 t351)) (fun _ hk => hk.2) (.int .i64 t352)) (fun _ hk => hk.2) (.int .i64 t353)) (fun _ hk => hk.2) (.string t354)) (fun _ hk => hk.2) (.int .i64 t355)) (fun _ hk => hk.2) (.int .u32 t356)) (fun _ hk => hk.2) (.slice Ao55 t357.length co55)) (fun _ hk => ⟨hk.1.1.1, ⟨hk.1.1.2.1, ⟨hk.1.1.2.2, hk.1.2⟩⟩⟩)))⟩; have n4_ : Aside0 (Kd.V (Kd.int .u8) 5 w56 w.heap.size (fun k_ => ((P0_ k_ ∨ P1_7_ k_) ∨ w.heap.size ≤ k_) ∧ k_ ≠ g0 ∧ k_ ≠ g1 ∧ k_ ≠ g2) (.slice Ao48 t345.length co48) t345) := ⟨(by rw [hw]; exact (by (with_reducible repeat (first | apply Kd.V_alloc | apply Kd.V_drewN | apply Kd.V_drew)); exact Kd.V_mono (Kd.V_far (p := ⟨g2, 7, none⟩) (Kd.V_far (p := ⟨g2, 6, none⟩) (Kd.V_far (p := ⟨g2, 5, none⟩) (Kd.V_far (p := ⟨g2, 4, none⟩) (Kd.V_far (p := ⟨g2, 3, none⟩) (Kd.V_far (p := ⟨g2, 2, none⟩) (Kd.V_far (p := ⟨g2, 1, none⟩) (Kd.V_far (p := ⟨g2, 0, none⟩) (Kd.V_mono HO347.out (fun k_ hk => (⟨hk, hk.2⟩ : _ ∧ k_ ≠ g2))) (fun _ hk => hk.2) (.int .i64 t350)) (fun _ hk => hk.2) (.int .i64 t351)) (fun _ hk => hk.2) (.int .i64 t352)) (fun _ hk => hk.2) (.int .i64 t353)) (fun _ hk => hk.2) (.string t354)) (fun _ hk => hk.2) (.int .i64 t355)) (fun _ hk => hk.2) (.int .u32 t356)) (fun _ hk => hk.2) (.slice Ao55 t357.length co55)) (fun _ hk => ⟨hk.1.1.1, ⟨hk.1.1.2.1, ⟨hk.1.1.2.2, hk.1.2⟩⟩⟩)))⟩; have n5_ : Aside0 (Kd.V (Kd.int .u8) 5 w56 w.heap.size (fun k_ => ((P0_ k_ ∨ P1_7_ k_) ∨ w.heap.size ≤ k_) ∧ some k_ ≠ (.slice Ao41 y332.length co41 : Value).ownBlock ∧ some k_ ≠ (.slice Ao43 y335.length co43 : Value).ownBlock ∧ k_ ≠ g0 ∧ k_ ≠ g1 ∧ k_ ≠ g2) (.slice Ao55 t357.length co55) t357) := ⟨(by rw [hw]; exact (by (with_reducible repeat (first | apply Kd.V_alloc | apply Kd.V_drewN | apply Kd.V_drew)); exact Kd.V_mono (Kd.V_far (p := ⟨g2, 7, none⟩) (Kd.V_far (p := ⟨g2, 6, none⟩) (Kd.V_far (p := ⟨g2, 5, none⟩) (Kd.V_far (p := ⟨g2, 4, none⟩) (Kd.V_far (p := ⟨g2, 3, none⟩) (Kd.V_far (p := ⟨g2, 2, none⟩) (Kd.V_far (p := ⟨g2, 1, none⟩) (Kd.V_far (p := ⟨g2, 0, none⟩) (Kd.V_mono HO359.out (fun k_ hk => (⟨hk, hk.2⟩ : _ ∧ k_ ≠ g2))) (fun _ hk => hk.2) (.int .i64 t350)) (fun _ hk => hk.2) (.int .i64 t351)) (fun _ hk => hk.2) (.int .i64 t352)) (fun _ hk => hk.2) (.int .i64 t353)) (fun _ hk => hk.2) (.string t354)) (fun _ hk => hk.2) (.int .i64 t355)) (fun _ hk => hk.2) (.int .u32 t356)) (fun _ hk => hk.2) (.slice Ao55 t357.length co55)) (fun _ hk => ⟨hk.1.1.1, ⟨hk.1.1.2.1, ⟨hk.1.1.2.2.1, ⟨hk.1.1.2.2.2.1, ⟨hk.1.1.2.2.2.2, hk.1.2⟩⟩⟩⟩⟩)))⟩; have n6_ : Aside0 (w56.heap[g0]? = some (.cells #[.int .i64 (wrap64 (x8_1 + 1)), .int .i64 a1_1, .int .i64 a1_2, .int .i64 xu, .string a1_4, .int .i64 a1_5, .int .u32 a1_6, .slice A1_7 l1_7.length c1_7] 48 (0, 0))) := ⟨(by rw [hw]; exact (by (with_reducible repeat (first | refine blk_drewN ?_ _ | refine blk_drew ?_ | refine blk_alloc ?_ _)); refine blk_far ?_ NB320_361.out _; (with_reducible repeat (first | refine blk_drewN ?_ _ | refine blk_drew ?_ | refine blk_alloc ?_ _)); refine blk_far ?_ NB320_361.out _; (with_reducible repeat (first | refine blk_drewN ?_ _ | refine blk_drew ?_ | refine blk_alloc ?_ _)); refine blk_far ?_ NB320_361.out _; (with_reducible repeat (first | refine blk_drewN ?_ _ | refine blk_drew ?_ | refine blk_alloc ?_ _)); refine blk_far ?_ NB320_361.out _; (with_reducible repeat (first | refine blk_drewN ?_ _ | refine blk_drew ?_ | refine blk_alloc ?_ _)); refine blk_far ?_ NB320_361.out _; (with_reducible repeat (first | refine blk_drewN ?_ _ | refine blk_drew ?_ | refine blk_alloc ?_ _)); refine blk_far ?_ NB320_361.out _; (with_reducible repeat (first | refine blk_drewN ?_ _ | refine blk_drew ?_ | refine blk_alloc ?_ _)); refine blk_far ?_ NB320_361.out _; (with_reducible repeat (first | refine blk_drewN ?_ _ | refine blk_drew ?_ | refine blk_alloc ?_ _)); refine blk_far ?_ NB320_361.out _; (with_reducible repeat (first | refine blk_drewN ?_ _ | refine blk_drew ?_ | refine blk_alloc ?_ _)); exact B0.out))⟩; have n7_ : Aside0 (w56.heap[g1]? = some (.cells #[.int .i64 t338, .int .i64 t339, .int .i64 t340, .int .i64 t341, .string t342, .int .i64 t343, .int .u32 t344, .slice Ao48 t345.length co48] 48 (0, 0))) := ⟨(by rw [hw]; exact (by (with_reducible repeat (first | refine blk_drewN ?_ _ | refine blk_drew ?_ | refine blk_alloc ?_ _)); refine blk_far ?_ NB349_361.out _; (with_reducible repeat (first | refine blk_drewN ?_ _ | refine blk_drew ?_ | refine blk_alloc ?_ _)); refine blk_far ?_ NB349_361.out _; (with_reducible repeat (first | refine blk_drewN ?_ _ | refine blk_drew ?_ | refine blk_alloc ?_ _)); refine blk_far ?_ NB349_361.out _; (with_reducible repeat (first | refine blk_drewN ?_ _ | refine blk_drew ?_ | refine blk_alloc ?_ _)); refine blk_far ?_ NB349_361.out _; (with_reducible repeat (first | refine blk_drewN ?_ _ | refine blk_drew ?_ | refine blk_alloc ?_ _)); refine blk_far ?_ NB349_361.out _; (with_reducible repeat (first | refine blk_drewN ?_ _ | refine blk_drew ?_ | refine blk_alloc ?_ _)); refine blk_far ?_ NB349_361.out _; (with_reducible repeat (first | refine blk_drewN ?_ _ | refine blk_drew ?_ | refine blk_alloc ?_ _)); refine blk_far ?_ NB349_361.out _; (with_reducible repeat (first | refine blk_drewN ?_ _ | refine blk_drew ?_ | refine blk_alloc ?_ _)); refine blk_far ?_ NB349_361.out _; (with_reducible repeat (first | refine blk_drewN ?_ _ | refine blk_drew ?_ | refine blk_alloc ?_ _)); exact B1.out))⟩; have n8_ : Aside0 (w56.heap[g2]? = some (.cells #[.int .i64 t350, .int .i64 t351, .int .i64 t352, .int .i64 t353, .string t354, .int .i64 t355, .int .u32 t356, .slice Ao55 t357.length co55] 48 (0, 0))) := ⟨(by rw [hw]; exact (by (with_reducible repeat (first | refine blk_drewN ?_ _ | refine blk_drew ?_ | refine blk_alloc ?_ _)); refine blk_put (cs := #[.int .i64 t350, .int .i64 t351, .int .i64 t352, .int .i64 t353, .string t354, .int .i64 t355, .int .u32 t356, .slice none 0 0]) ?_ 7 _ rfl; (with_reducible repeat (first | refine blk_drewN ?_ _ | refine blk_drew ?_ | refine blk_alloc ?_ _)); refine blk_put (cs := #[.int .i64 t350, .int .i64 t351, .int .i64 t352, .int .i64 t353, .string t354, .int .i64 t355, .int .u32 0, .slice none 0 0]) ?_ 6 _ rfl; (with_reducible repeat (first | refine blk_drewN ?_ _ | refine blk_drew ?_ | refine blk_alloc ?_ _)); refine blk_put (cs := #[.int .i64 t350, .int .i64 t351, .int .i64 t352, .int .i64 t353, .string t354, .int .i64 0, .int .u32 0, .slice none 0 0]) ?_ 5 _ rfl; (with_reducible repeat (first | refine blk_drewN ?_ _ | refine blk_drew ?_ | refine blk_alloc ?_ _)); refine blk_put (cs := #[.int .i64 t350, .int .i64 t351, .int .i64 t352, .int .i64 t353, .string (⟨#[]⟩ : ByteArray), .int .i64 0, .int .u32 0, .slice none 0 0]) ?_ 4 _ rfl; (with_reducible repeat (first | refine blk_drewN ?_ _ | refine blk_drew ?_ | refine blk_alloc ?_ _)); refine blk_put (cs := #[.int .i64 t350, .int .i64 t351, .int .i64 t352, .int .i64 0, .string (⟨#[]⟩ : ByteArray), .int .i64 0, .int .u32 0, .slice none 0 0]) ?_ 3 _ rfl; (with_reducible repeat (first | refine blk_drewN ?_ _ | refine blk_drew ?_ | refine blk_alloc ?_ _)); refine blk_put (cs := #[.int .i64 t350, .int .i64 t351, .int .i64 0, .int .i64 0, .string (⟨#[]⟩ : ByteArray), .int .i64 0, .int .u32 0, .slice none 0 0]) ?_ 2 _ rfl; (with_reducible repeat (first | refine blk_drewN ?_ _ | refine blk_drew ?_ | refine blk_alloc ?_ _)); refine blk_put (cs := #[.int .i64 t350, .int .i64 0, .int .i64 0, .int .i64 0, .string (⟨#[]⟩ : ByteArray), .int .i64 0, .int .u32 0, .slice none 0 0]) ?_ 1 _ rfl; (with_reducible repeat (first | refine blk_drewN ?_ _ | refine blk_drew ?_ | refine blk_alloc ?_ _)); refine blk_put (cs := #[.int .i64 0, .int .i64 0, .int .i64 0, .int .i64 0, .string (⟨#[]⟩ : ByteArray), .int .i64 0, .int .u32 0, .slice none 0 0]) ?_ 0 _ rfl; (with_reducible repeat (first | refine blk_drewN ?_ _ | refine blk_drew ?_ | refine blk_alloc ?_ _)); exact B2.out))⟩; have n9_ : Aside0 (Below w.heap.size w w56) := ⟨(by rw [hw]; exact (by repeat (first | (with_reducible first | exact HB.out | apply below_alloc | apply pw_below_drewN | apply below_drew1 | refine below_set ?_ GE320.out | refine below_set ?_ GE349.out | refine below_set ?_ GE361.out) | exact HB.out)))⟩; clear hw; clear HO_7; clear HOq; clear HO334; clear HO337; clear HO347; clear HO359; clear B0; clear B1; clear B2; clear HB; have HO_7 := n0_; have HOq := n1_; have HO334 := n2_; have HO337 := n3_; have HO347 := n4_; have HO359 := n5_; have B0 := n6_; have B1 := n7_; have B2 := n8_; have HB := n9_; clear n0_ n1_ n2_ n3_ n4_ n5_ n6_ n7_ n8_ n9_) | ((with_reducible refine gate_callee (f := 22) rfl ?_); refine goesL_ (some 78) rfl rfl Try.func22 (by kernel_rfl) rfl #[.slice Ao43 y335.length co43, .string a2, .int .i64 (wrap64 (x8_1 + 1))] rfl (by (try simp only [List.map_toArray, List.map_cons, List.map_nil]); first | done | rfl | (simp only [List.length_drop, List.length_take]; rfl)) ?_; (with_reducible refine (keys_Find.calls kj21 (fun k_ => (((P0_ k_ ∨ P1_7_ k_) ∨ w.heap.size ≤ k_) ∧ (k_ ≠ g0 ∧ (k_ ≠ g1 ∧ k_ ≠ g2)))) _ _ y335 a2 (wrap64 (x8_1 + 1)) t362 t363 t364 t365 t366 t367 t368 t369 t372 _ ?side1 A30.out).mono ?_); (case side1 => exact Kd.N_V (HO337.out)); rintro e w57 ⟨v370, rfl, ho0, hb⟩; refine ⟨_, rfl, ?_⟩; have n0_ := Aside0.mk (Kd.N_below (nv HO_7.out) hb); have n1_ := Aside0.mk (Kd.V_below (vv HOq.out) hb); have n2_ := Aside0.mk (Kd.N_below (nv HO334.out) hb); have n3_ := Aside0.mk (Kd.N_below (nv HO337.out) hb); have n4_ := Aside0.mk (Kd.V_below (vv HO347.out) hb); have n5_ := Aside0.mk (Kd.V_below (vv HO359.out) hb); have n6_ := Aside0.mk (Kd.V_lower (Kd.V_mono (ok' := fun k_ => ((P0_ k_ ∨ P1_7_ k_) ∨ w.heap.size ≤ k_) ∧ k_ ≠ g0 ∧ k_ ≠ g1 ∧ k_ ≠ g2) ho0 (fun k_ hk_ => ⟨Or.elim hk_ (fun hs_ => hs_.1) (fun hn_ => (.inr (Nat.le_trans (below_size (by repeat (first | (with_reducible first | exact HB.out | apply below_alloc | apply pw_below_drewN | apply below_drew1 | refine below_set ?_ GE320.out | refine below_set ?_ GE349.out | refine below_set ?_ GE361.out) | exact HB.out))) hn_))), Or.elim hk_ (fun hs_ => hs_.2.1) (fun hn_ => (Kd.freshB (g := g0) (o := .cells #[.int .i64 (wrap64 (x8_1 + 1)), .int .i64 a1_1, .int .i64 a1_2, .int .i64 xu, .string a1_4, .int .i64 a1_5, .int .u32 a1_6, .slice A1_7 l1_7.length c1_7] 48 (0, 0)) (kv B0.out) k_ hn_)), Or.elim hk_ (fun hs_ => hs_.2.2.1) (fun hn_ => (Kd.freshB (g := g1) (o := .cells #[.int .i64 t338, .int .i64 t339, .int .i64 t340, .int .i64 t341, .string t342, .int .i64 t343, .int .u32 t344, .slice Ao48 t345.length co48] 48 (0, 0)) (kv B1.out) k_ hn_)), Or.elim hk_ (fun hs_ => hs_.2.2.2) (fun hn_ => (Kd.freshB (g := g2) (o := .cells #[.int .i64 t350, .int .i64 t351, .int .i64 t352, .int .i64 t353, .string t354, .int .i64 t355, .int .u32 t356, .slice Ao55 t357.length co55] 48 (0, 0)) (kv B2.out) k_ hn_))⟩)) (below_size (by repeat (first | (with_reducible first | exact HB.out | apply below_alloc | apply pw_below_drewN | apply below_drew1 | refine below_set ?_ GE320.out | refine below_set ?_ GE349.out | refine below_set ?_ GE361.out) | exact HB.out)))); have n7_ := Aside0.mk (blk_below (kv B0.out) hb); have n8_ := Aside0.mk (blk_below (kv B1.out) hb); have n9_ := Aside0.mk (blk_below (kv B2.out) hb); have n10_ := Aside0.mk (below_step (by repeat (first | (with_reducible first | exact HB.out | apply below_alloc | apply pw_below_drewN | apply below_drew1 | refine below_set ?_ GE320.out | refine below_set ?_ GE349.out | refine below_set ?_ GE361.out) | exact HB.out)) hb); clear HO_7; clear HOq; clear HO334; clear HO337; clear HO347; clear HO359; clear B0; clear B1; clear B2; clear HB; have HO_7 := n0_; have HOq := n1_; have HO334 := n2_; have HO337 := n3_; have HO347 := n4_; have HO359 := n5_; have HO371 := n6_; have B0 := n7_; have B1 := n8_; have B2 := n9_; have HB := n10_; clear n0_ n1_ n2_ n3_ n4_ n5_ n6_ n7_ n8_ n9_ n10_; (try clear hb); (try clear ho0)) | ((with_reducible refine gate_dst (N := 15) rfl ?_); refine box_event ?hg (N := 15) ?hd (cs := #[.int .i64 0, .int .i64 0, .int .i64 0, .int .i64 0, .string (⟨#[]⟩ : ByteArray), .int .i64 0, .int .u32 0, .slice none 0 0]) (t := 48) ?hr ?_; (case hd => rfl); (case hg => rfl); (case hr => first | (go_simp; done) | (go_simp; rfl)); intro g3 hg w58 hbox hb; have n0_ := Aside0.mk (Kd.N_below (Kd.N_elderB (nv HO_7.out) g3 (Nat.le_of_eq hg.symm)) hb); have n1_ := Aside0.mk (Kd.V_below (Kd.V_elderB (vv HOq.out) g3 (Nat.le_of_eq hg.symm)) hb); have n2_ := Aside0.mk (Kd.N_below (Kd.N_elderB (nv HO334.out) g3 (Nat.le_of_eq hg.symm)) hb); have n3_ := Aside0.mk (Kd.N_below (Kd.N_elderB (nv HO337.out) g3 (Nat.le_of_eq hg.symm)) hb); have n4_ := Aside0.mk (Kd.V_below (Kd.V_elderB (vv HO347.out) g3 (Nat.le_of_eq hg.symm)) hb); have n5_ := Aside0.mk (Kd.V_below (Kd.V_elderB (vv HO359.out) g3 (Nat.le_of_eq hg.symm)) hb); have n6_ := Aside0.mk (Kd.V_below (Kd.V_elderB (vv HO371.out) g3 (Nat.le_of_eq hg.symm)) hb); have n7_ := Aside0.mk (blk_below (kv B0.out) hb); have n8_ := Aside0.mk (blk_below (kv B1.out) hb); have n9_ := Aside0.mk (blk_below (kv B2.out) hb); have n10_ := Aside0.mk (below_step (by repeat (first | (with_reducible first | exact HB.out | apply below_alloc | apply pw_below_drewN | apply below_drew1 | refine below_set ?_ GE320.out | refine below_set ?_ GE349.out | refine below_set ?_ GE361.out) | exact HB.out)) hb); have n11_ := Aside0.mk (hbox); have n12_ := Aside0.mk ((by rw [hg]; exact (below_size (by repeat (first | (with_reducible first | exact HB.out | apply below_alloc | apply pw_below_drewN | apply below_drew1 | refine below_set ?_ GE320.out | refine below_set ?_ GE349.out | refine below_set ?_ GE361.out) | exact HB.out))) : w.heap.size ≤ g3)); have n13_ := Aside0.mk ((by rw [hg]; exact (below_size (by repeat (first | (with_reducible first | exact HB.out | apply below_alloc | apply pw_below_drewN | apply below_drew1 | refine below_set ?_ GE320.out | refine below_set ?_ GE349.out | refine below_set ?_ GE361.out) | exact HB.out))) : w.heap.size ≤ g3)); have n14_ := Aside0.mk ((by rw [hg]; exact Nat.ne_of_lt (blk_lt (g := g0) (o := .cells #[.int .i64 (wrap64 (x8_1 + 1)), .int .i64 a1_1, .int .i64 a1_2, .int .i64 xu, .string a1_4, .int .i64 a1_5, .int .u32 a1_6, .slice A1_7 l1_7.length c1_7] 48 (0, 0)) (kv B0.out)) : g0 ≠ g3)); have n15_ := Aside0.mk ((by rw [hg]; exact Nat.ne_of_gt (blk_lt (g := g0) (o := .cells #[.int .i64 (wrap64 (x8_1 + 1)), .int .i64 a1_1, .int .i64 a1_2, .int .i64 xu, .string a1_4, .int .i64 a1_5, .int .u32 a1_6, .slice A1_7 l1_7.length c1_7] 48 (0, 0)) (kv B0.out)) : g3 ≠ g0)); have n16_ := Aside0.mk ((by rw [hg]; exact Nat.ne_of_lt (blk_lt (g := g1) (o := .cells #[.int .i64 t338, .int .i64 t339, .int .i64 t340, .int .i64 t341, .string t342, .int .i64 t343, .int .u32 t344, .slice Ao48 t345.length co48] 48 (0, 0)) (kv B1.out)) : g1 ≠ g3)); have n17_ := Aside0.mk ((by rw [hg]; exact Nat.ne_of_gt (blk_lt (g := g1) (o := .cells #[.int .i64 t338, .int .i64 t339, .int .i64 t340, .int .i64 t341, .string t342, .int .i64 t343, .int .u32 t344, .slice Ao48 t345.length co48] 48 (0, 0)) (kv B1.out)) : g3 ≠ g1)); have n18_ := Aside0.mk ((by rw [hg]; exact Nat.ne_of_lt (blk_lt (g := g2) (o := .cells #[.int .i64 t350, .int .i64 t351, .int .i64 t352, .int .i64 t353, .string t354, .int .i64 t355, .int .u32 t356, .slice Ao55 t357.length co55] 48 (0, 0)) (kv B2.out)) : g2 ≠ g3)); have n19_ := Aside0.mk ((by rw [hg]; exact Nat.ne_of_gt (blk_lt (g := g2) (o := .cells #[.int .i64 t350, .int .i64 t351, .int .i64 t352, .int .i64 t353, .string t354, .int .i64 t355, .int .u32 t356, .slice Ao55 t357.length co55] 48 (0, 0)) (kv B2.out)) : g3 ≠ g2)); clear HO_7; clear HOq; clear HO334; clear HO337; clear HO347; clear HO359; clear HO371; clear B0; clear B1; clear B2; clear HB; have HO_7 := n0_; have HOq := n1_; have HO334 := n2_; have HO337 := n3_; have HO347 := n4_; have HO359 := n5_; have HO371 := n6_; have B0 := n7_; have B1 := n8_; have B2 := n9_; have HB := n10_; have B3 := n11_; have GW373 := n12_; have GE373 := n13_; have NB320_373 := n14_; have NB373_320 := n15_; have NB349_373 := n16_; have NB373_349 := n17_; have NB361_373 := n18_; have NB373_361 := n19_; clear n0_ n1_ n2_ n3_ n4_ n5_ n6_ n7_ n8_ n9_ n10_ n11_ n12_ n13_ n14_ n15_ n16_ n17_ n18_ n19_; clear hb hbox hg; have hnb59 := NB373_320.out; have hnc59 := NB320_373.out; have hnb60 := NB373_349.out; have hnc60 := NB349_373.out; have hnb61 := NB373_361.out; have hnc61 := NB361_373.out; have hcz62_0 : w58.cell? ⟨g3, 0, none⟩ = some (.int .i64 0) := (blk_cell B3.out 0).trans rfl; have hcz62_1 : w58.cell? ⟨g3, 1, none⟩ = some (.int .i64 0) := (blk_cell B3.out 1).trans rfl; have hcz62_2 : w58.cell? ⟨g3, 2, none⟩ = some (.int .i64 0) := (blk_cell B3.out 2).trans rfl; have hcz62_3 : w58.cell? ⟨g3, 3, none⟩ = some (.int .i64 0) := (blk_cell B3.out 3).trans rfl; have hcz62_4 : w58.cell? ⟨g3, 4, none⟩ = some (.string (⟨#[]⟩ : ByteArray)) := (blk_cell B3.out 4).trans rfl; have hcz62_5 : w58.cell? ⟨g3, 5, none⟩ = some (.int .i64 0) := (blk_cell B3.out 5).trans rfl; have hcz62_6 : w58.cell? ⟨g3, 6, none⟩ = some (.int .u32 0) := (blk_cell B3.out 6).trans rfl; have hcz62_7 : w58.cell? ⟨g3, 7, none⟩ = some (.slice none 0 0) := (blk_cell B3.out 7).trans rfl; have hfz62_0 := blk_frozen B3.out 0; have hfz62_1 := blk_frozen B3.out 1; have hfz62_2 := blk_frozen B3.out 2; have hfz62_3 := blk_frozen B3.out 3; have hfz62_4 := blk_frozen B3.out 4; have hfz62_5 := blk_frozen B3.out 5; have hfz62_6 := blk_frozen B3.out 6; have hfz62_7 := blk_frozen B3.out 7; obtain ⟨Ao63, co63, eo63⟩ := Kd.V_slice HO371.out; subst eo63) | ((with_reducible refine gate_store (t := 48) (p := 15) rfl ?_); refine store_event (t := 48) (p := 15) (v := ?vo_w64) (w1 := ((((((((w58.setCell ⟨g3, 0, none⟩ (.int .i64 t362)).setCell ⟨g3, 1, none⟩ (.int .i64 t363)).setCell ⟨g3, 2, none⟩ (.int .i64 t364)).setCell ⟨g3, 3, none⟩ (.int .i64 t365)).setCell ⟨g3, 4, none⟩ (.string t366)).setCell ⟨g3, 5, none⟩ (.int .i64 t367)).setCell ⟨g3, 6, none⟩ (.int .u32 t368)).setCell ⟨g3, 7, none⟩ (.slice Ao63 t369.length co63))) ?hg ?ho ?hn ?hr ?_; (case ho => rfl); (case hg => rfl); (case hn => rfl); (case hr => first | (go_simp; done) | (go_simp; rfl)); intro w64 hw; have n0_ : Aside0 (Kd.N k48 48 w64 w.heap.size (fun k_ => ((P0_ k_ ∨ P1_7_ k_) ∨ w.heap.size ≤ k_) ∧ some k_ ≠ (.slice Ao41 y332.length co41 : Value).ownBlock ∧ some k_ ≠ (.slice Ao43 y335.length co43 : Value).ownBlock ∧ k_ ≠ g0 ∧ k_ ≠ g1 ∧ k_ ≠ g2 ∧ k_ ≠ g3) (.slice Ao11 t321.length co11) t321) := ⟨(by rw [hw]; exact (by (with_reducible repeat (first | apply Kd.N_alloc | apply Kd.N_drewN | apply Kd.N_drew)); exact Kd.N_mono (Kd.N_far (p := ⟨g3, 7, none⟩) (Kd.N_far (p := ⟨g3, 6, none⟩) (Kd.N_far (p := ⟨g3, 5, none⟩) (Kd.N_far (p := ⟨g3, 4, none⟩) (Kd.N_far (p := ⟨g3, 3, none⟩) (Kd.N_far (p := ⟨g3, 2, none⟩) (Kd.N_far (p := ⟨g3, 1, none⟩) (Kd.N_far (p := ⟨g3, 0, none⟩) (Kd.N_mono HO_7.out (fun k_ hk => (⟨hk, hk.2⟩ : _ ∧ k_ ≠ g3))) (fun _ hk => hk.2) (.int .i64 t362)) (fun _ hk => hk.2) (.int .i64 t363)) (fun _ hk => hk.2) (.int .i64 t364)) (fun _ hk => hk.2) (.int .i64 t365)) (fun _ hk => hk.2) (.string t366)) (fun _ hk => hk.2) (.int .i64 t367)) (fun _ hk => hk.2) (.int .u32 t368)) (fun _ hk => hk.2) (.slice Ao63 t369.length co63)) (fun _ hk => ⟨hk.1.1.1, ⟨hk.1.1.2.1, ⟨hk.1.1.2.2.1, ⟨hk.1.1.2.2.2.1, ⟨hk.1.1.2.2.2.2.1, ⟨hk.1.1.2.2.2.2.2, hk.1.2⟩⟩⟩⟩⟩⟩)))⟩; have n1_ : Aside0 (Kd.V (Kd.int .u8) 5 w64 w.heap.size (fun k_ => ((P0_ k_ ∨ P1_7_ k_) ∨ w.heap.size ≤ k_) ∧ some k_ ≠ (.slice Ao11 t321.length co11 : Value).ownBlock ∧ some k_ ≠ (.slice Ao41 y332.length co41 : Value).ownBlock ∧ some k_ ≠ (.slice Ao43 y335.length co43 : Value).ownBlock ∧ k_ ≠ g0 ∧ k_ ≠ g1 ∧ k_ ≠ g2 ∧ k_ ≠ g3) (.slice A1_7 l1_7.length c1_7) l1_7) := ⟨(by rw [hw]; exact (by (with_reducible repeat (first | apply Kd.V_alloc | apply Kd.V_drewN | apply Kd.V_drew)); exact Kd.V_mono (Kd.V_far (p := ⟨g3, 7, none⟩) (Kd.V_far (p := ⟨g3, 6, none⟩) (Kd.V_far (p := ⟨g3, 5, none⟩) (Kd.V_far (p := ⟨g3, 4, none⟩) (Kd.V_far (p := ⟨g3, 3, none⟩) (Kd.V_far (p := ⟨g3, 2, none⟩) (Kd.V_far (p := ⟨g3, 1, none⟩) (Kd.V_far (p := ⟨g3, 0, none⟩) (Kd.V_mono HOq.out (fun k_ hk => (⟨hk, hk.2⟩ : _ ∧ k_ ≠ g3))) (fun _ hk => hk.2) (.int .i64 t362)) (fun _ hk => hk.2) (.int .i64 t363)) (fun _ hk => hk.2) (.int .i64 t364)) (fun _ hk => hk.2) (.int .i64 t365)) (fun _ hk => hk.2) (.string t366)) (fun _ hk => hk.2) (.int .i64 t367)) (fun _ hk => hk.2) (.int .u32 t368)) (fun _ hk => hk.2) (.slice Ao63 t369.length co63)) (fun _ hk => ⟨hk.1.1.1, ⟨hk.1.1.2.1, ⟨hk.1.1.2.2.1, ⟨hk.1.1.2.2.2.1, ⟨hk.1.1.2.2.2.2.1, ⟨hk.1.1.2.2.2.2.2.1, ⟨hk.1.1.2.2.2.2.2.2, hk.1.2⟩⟩⟩⟩⟩⟩⟩)))⟩; have n2_ : Aside0 (Kd.N k48 48 w64 w.heap.size (fun k_ => ((P0_ k_ ∨ P1_7_ k_) ∨ w.heap.size ≤ k_) ∧ some k_ ≠ (.slice Ao11 t321.length co11 : Value).ownBlock ∧ some k_ ≠ (.slice Ao43 y335.length co43 : Value).ownBlock ∧ k_ ≠ g0 ∧ k_ ≠ g1 ∧ k_ ≠ g2 ∧ k_ ≠ g3) (.slice Ao41 y332.length co41) y332) := ⟨(by rw [hw]; exact (by (with_reducible repeat (first | apply Kd.N_alloc | apply Kd.N_drewN | apply Kd.N_drew)); exact Kd.N_mono (Kd.N_far (p := ⟨g3, 7, none⟩) (Kd.N_far (p := ⟨g3, 6, none⟩) (Kd.N_far (p := ⟨g3, 5, none⟩) (Kd.N_far (p := ⟨g3, 4, none⟩) (Kd.N_far (p := ⟨g3, 3, none⟩) (Kd.N_far (p := ⟨g3, 2, none⟩) (Kd.N_far (p := ⟨g3, 1, none⟩) (Kd.N_far (p := ⟨g3, 0, none⟩) (Kd.N_mono HO334.out (fun k_ hk => (⟨hk, hk.2⟩ : _ ∧ k_ ≠ g3))) (fun _ hk => hk.2) (.int .i64 t362)) (fun _ hk => hk.2) (.int .i64 t363)) (fun _ hk => hk.2) (.int .i64 t364)) (fun _ hk => hk.2) (.int .i64 t365)) (fun _ hk => hk.2) (.string t366)) (fun _ hk => hk.2) (.int .i64 t367)) (fun _ hk => hk.2) (.int .u32 t368)) (fun _ hk => hk.2) (.slice Ao63 t369.length co63)) (fun _ hk => ⟨hk.1.1.1, ⟨hk.1.1.2.1, ⟨hk.1.1.2.2.1, ⟨hk.1.1.2.2.2.1, ⟨hk.1.1.2.2.2.2.1, ⟨hk.1.1.2.2.2.2.2, hk.1.2⟩⟩⟩⟩⟩⟩)))⟩; have n3_ : Aside0 (Kd.N k48 48 w64 w.heap.size (fun k_ => ((P0_ k_ ∨ P1_7_ k_) ∨ w.heap.size ≤ k_) ∧ k_ ≠ g0 ∧ k_ ≠ g1 ∧ k_ ≠ g2 ∧ k_ ≠ g3) (.slice Ao43 y335.length co43) y335) := ⟨(by rw [hw]; exact (by (with_reducible repeat (first | apply Kd.N_alloc | apply Kd.N_drewN | apply Kd.N_drew)); exact Kd.N_mono (Kd.N_far (p := ⟨g3, 7, none⟩) (Kd.N_far (p := ⟨g3, 6, none⟩) (Kd.N_far (p := ⟨g3, 5, none⟩) (Kd.N_far (p := ⟨g3, 4, none⟩) (Kd.N_far (p := ⟨g3, 3, none⟩) (Kd.N_far (p := ⟨g3, 2, none⟩) (Kd.N_far (p := ⟨g3, 1, none⟩) (Kd.N_far (p := ⟨g3, 0, none⟩) (Kd.N_mono HO337.out (fun k_ hk => (⟨hk, hk.2⟩ : _ ∧ k_ ≠ g3))) (fun _ hk => hk.2) (.int .i64 t362)) (fun _ hk => hk.2) (.int .i64 t363)) (fun _ hk => hk.2) (.int .i64 t364)) (fun _ hk => hk.2) (.int .i64 t365)) (fun _ hk => hk.2) (.string t366)) (fun _ hk => hk.2) (.int .i64 t367)) (fun _ hk => hk.2) (.int .u32 t368)) (fun _ hk => hk.2) (.slice Ao63 t369.length co63)) (fun _ hk => ⟨hk.1.1.1, ⟨hk.1.1.2.1, ⟨hk.1.1.2.2.1, ⟨hk.1.1.2.2.2, hk.1.2⟩⟩⟩⟩)))⟩; have n4_ : Aside0 (Kd.V (Kd.int .u8) 5 w64 w.heap.size (fun k_ => ((P0_ k_ ∨ P1_7_ k_) ∨ w.heap.size ≤ k_) ∧ k_ ≠ g0 ∧ k_ ≠ g1 ∧ k_ ≠ g2 ∧ k_ ≠ g3) (.slice Ao48 t345.length co48) t345) := ⟨(by rw [hw]; exact (by (with_reducible repeat (first | apply Kd.V_alloc | apply Kd.V_drewN | apply Kd.V_drew)); exact Kd.V_mono (Kd.V_far (p := ⟨g3, 7, none⟩) (Kd.V_far (p := ⟨g3, 6, none⟩) (Kd.V_far (p := ⟨g3, 5, none⟩) (Kd.V_far (p := ⟨g3, 4, none⟩) (Kd.V_far (p := ⟨g3, 3, none⟩) (Kd.V_far (p := ⟨g3, 2, none⟩) (Kd.V_far (p := ⟨g3, 1, none⟩) (Kd.V_far (p := ⟨g3, 0, none⟩) (Kd.V_mono HO347.out (fun k_ hk => (⟨hk, hk.2⟩ : _ ∧ k_ ≠ g3))) (fun _ hk => hk.2) (.int .i64 t362)) (fun _ hk => hk.2) (.int .i64 t363)) (fun _ hk => hk.2) (.int .i64 t364)) (fun _ hk => hk.2) (.int .i64 t365)) (fun _ hk => hk.2) (.string t366)) (fun _ hk => hk.2) (.int .i64 t367)) (fun _ hk => hk.2) (.int .u32 t368)) (fun _ hk => hk.2) (.slice Ao63 t369.length co63)) (fun _ hk => ⟨hk.1.1.1, ⟨hk.1.1.2.1, ⟨hk.1.1.2.2.1, ⟨hk.1.1.2.2.2, hk.1.2⟩⟩⟩⟩)))⟩; have n5_ : Aside0 (Kd.V (Kd.int .u8) 5 w64 w.heap.size (fun k_ => ((P0_ k_ ∨ P1_7_ k_) ∨ w.heap.size ≤ k_) ∧ some k_ ≠ (.slice Ao41 y332.length co41 : Value).ownBlock ∧ some k_ ≠ (.slice Ao43 y335.length co43 : Value).ownBlock ∧ k_ ≠ g0 ∧ k_ ≠ g1 ∧ k_ ≠ g2 ∧ k_ ≠ g3) (.slice Ao55 t357.length co55) t357) := ⟨(by rw [hw]; exact (by (with_reducible repeat (first | apply Kd.V_alloc | apply Kd.V_drewN | apply Kd.V_drew)); exact Kd.V_mono (Kd.V_far (p := ⟨g3, 7, none⟩) (Kd.V_far (p := ⟨g3, 6, none⟩) (Kd.V_far (p := ⟨g3, 5, none⟩) (Kd.V_far (p := ⟨g3, 4, none⟩) (Kd.V_far (p := ⟨g3, 3, none⟩) (Kd.V_far (p := ⟨g3, 2, none⟩) (Kd.V_far (p := ⟨g3, 1, none⟩) (Kd.V_far (p := ⟨g3, 0, none⟩) (Kd.V_mono HO359.out (fun k_ hk => (⟨hk, hk.2⟩ : _ ∧ k_ ≠ g3))) (fun _ hk => hk.2) (.int .i64 t362)) (fun _ hk => hk.2) (.int .i64 t363)) (fun _ hk => hk.2) (.int .i64 t364)) (fun _ hk => hk.2) (.int .i64 t365)) (fun _ hk => hk.2) (.string t366)) (fun _ hk => hk.2) (.int .i64 t367)) (fun _ hk => hk.2) (.int .u32 t368)) (fun _ hk => hk.2) (.slice Ao63 t369.length co63)) (fun _ hk => ⟨hk.1.1.1, ⟨hk.1.1.2.1, ⟨hk.1.1.2.2.1, ⟨hk.1.1.2.2.2.1, ⟨hk.1.1.2.2.2.2.1, ⟨hk.1.1.2.2.2.2.2, hk.1.2⟩⟩⟩⟩⟩⟩)))⟩; have n6_ : Aside0 (Kd.V (Kd.int .u8) 5 w64 w.heap.size (fun k_ => ((P0_ k_ ∨ P1_7_ k_) ∨ w.heap.size ≤ k_) ∧ k_ ≠ g0 ∧ k_ ≠ g1 ∧ k_ ≠ g2 ∧ k_ ≠ g3) (.slice Ao63 t369.length co63) t369) := ⟨(by rw [hw]; exact (by (with_reducible repeat (first | apply Kd.V_alloc | apply Kd.V_drewN | apply Kd.V_drew)); exact Kd.V_mono (Kd.V_far (p := ⟨g3, 7, none⟩) (Kd.V_far (p := ⟨g3, 6, none⟩) (Kd.V_far (p := ⟨g3, 5, none⟩) (Kd.V_far (p := ⟨g3, 4, none⟩) (Kd.V_far (p := ⟨g3, 3, none⟩) (Kd.V_far (p := ⟨g3, 2, none⟩) (Kd.V_far (p := ⟨g3, 1, none⟩) (Kd.V_far (p := ⟨g3, 0, none⟩) (Kd.V_mono HO371.out (fun k_ hk => (⟨hk, hk.2⟩ : _ ∧ k_ ≠ g3))) (fun _ hk => hk.2) (.int .i64 t362)) (fun _ hk => hk.2) (.int .i64 t363)) (fun _ hk => hk.2) (.int .i64 t364)) (fun _ hk => hk.2) (.int .i64 t365)) (fun _ hk => hk.2) (.string t366)) (fun _ hk => hk.2) (.int .i64 t367)) (fun _ hk => hk.2) (.int .u32 t368)) (fun _ hk => hk.2) (.slice Ao63 t369.length co63)) (fun _ hk => ⟨hk.1.1.1, ⟨hk.1.1.2.1, ⟨hk.1.1.2.2.1, ⟨hk.1.1.2.2.2, hk.1.2⟩⟩⟩⟩)))⟩; have n7_ : Aside0 (w64.heap[g0]? = some (.cells #[.int .i64 (wrap64 (x8_1 + 1)), .int .i64 a1_1, .int .i64 a1_2, .int .i64 xu, .string a1_4, .int .i64 a1_5, .int .u32 a1_6, .slice A1_7 l1_7.length c1_7] 48 (0, 0))) := ⟨(by rw [hw]; exact (by (with_reducible repeat (first | refine blk_drewN ?_ _ | refine blk_drew ?_ | refine blk_alloc ?_ _)); refine blk_far ?_ NB320_373.out _; (with_reducible repeat (first | refine blk_drewN ?_ _ | refine blk_drew ?_ | refine blk_alloc ?_ _)); refine blk_far ?_ NB320_373.out _; (with_reducible repeat (first | refine blk_drewN ?_ _ | refine blk_drew ?_ | refine blk_alloc ?_ _)); refine blk_far ?_ NB320_373.out _; (with_reducible repeat (first | refine blk_drewN ?_ _ | refine blk_drew ?_ | refine blk_alloc ?_ _)); refine blk_far ?_ NB320_373.out _; (with_reducible repeat (first | refine blk_drewN ?_ _ | refine blk_drew ?_ | refine blk_alloc ?_ _)); refine blk_far ?_ NB320_373.out _; (with_reducible repeat (first | refine blk_drewN ?_ _ | refine blk_drew ?_ | refine blk_alloc ?_ _)); refine blk_far ?_ NB320_373.out _; (with_reducible repeat (first | refine blk_drewN ?_ _ | refine blk_drew ?_ | refine blk_alloc ?_ _)); refine blk_far ?_ NB320_373.out _; (with_reducible repeat (first | refine blk_drewN ?_ _ | refine blk_drew ?_ | refine blk_alloc ?_ _)); refine blk_far ?_ NB320_373.out _; (with_reducible repeat (first | refine blk_drewN ?_ _ | refine blk_drew ?_ | refine blk_alloc ?_ _)); exact B0.out))⟩; have n8_ : Aside0 (w64.heap[g1]? = some (.cells #[.int .i64 t338, .int .i64 t339, .int .i64 t340, .int .i64 t341, .string t342, .int .i64 t343, .int .u32 t344, .slice Ao48 t345.length co48] 48 (0, 0))) := ⟨(by rw [hw]; exact (by (with_reducible repeat (first | refine blk_drewN ?_ _ | refine blk_drew ?_ | refine blk_alloc ?_ _)); refine blk_far ?_ NB349_373.out _; (with_reducible repeat (first | refine blk_drewN ?_ _ | refine blk_drew ?_ | refine blk_alloc ?_ _)); refine blk_far ?_ NB349_373.out _; (with_reducible repeat (first | refine blk_drewN ?_ _ | refine blk_drew ?_ | refine blk_alloc ?_ _)); refine blk_far ?_ NB349_373.out _; (with_reducible repeat (first | refine blk_drewN ?_ _ | refine blk_drew ?_ | refine blk_alloc ?_ _)); refine blk_far ?_ NB349_373.out _; (with_reducible repeat (first | refine blk_drewN ?_ _ | refine blk_drew ?_ | refine blk_alloc ?_ _)); refine blk_far ?_ NB349_373.out _; (with_reducible repeat (first | refine blk_drewN ?_ _ | refine blk_drew ?_ | refine blk_alloc ?_ _)); refine blk_far ?_ NB349_373.out _; (with_reducible repeat (first | refine blk_drewN ?_ _ | refine blk_drew ?_ | refine blk_alloc ?_ _)); refine blk_far ?_ NB349_373.out _; (with_reducible repeat (first | refine blk_drewN ?_ _ | refine blk_drew ?_ | refine blk_alloc ?_ _)); refine blk_far ?_ NB349_373.out _; (with_reducible repeat (first | refine blk_drewN ?_ _ | refine blk_drew ?_ | refine blk_alloc ?_ _)); exact B1.out))⟩; have n9_ : Aside0 (w64.heap[g2]? = some (.cells #[.int .i64 t350, .int .i64 t351, .int .i64 t352, .int .i64 t353, .string t354, .int .i64 t355, .int .u32 t356, .slice Ao55 t357.length co55] 48 (0, 0))) := ⟨(by rw [hw]; exact (by (with_reducible repeat (first | refine blk_drewN ?_ _ | refine blk_drew ?_ | refine blk_alloc ?_ _)); refine blk_far ?_ NB361_373.out _; (with_reducible repeat (first | refine blk_drewN ?_ _ | refine blk_drew ?_ | refine blk_alloc ?_ _)); refine blk_far ?_ NB361_373.out _; (with_reducible repeat (first | refine blk_drewN ?_ _ | refine blk_drew ?_ | refine blk_alloc ?_ _)); refine blk_far ?_ NB361_373.out _; (with_reducible repeat (first | refine blk_drewN ?_ _ | refine blk_drew ?_ | refine blk_alloc ?_ _)); refine blk_far ?_ NB361_373.out _; (with_reducible repeat (first | refine blk_drewN ?_ _ | refine blk_drew ?_ | refine blk_alloc ?_ _)); refine blk_far ?_ NB361_373.out _; (with_reducible repeat (first | refine blk_drewN ?_ _ | refine blk_drew ?_ | refine blk_alloc ?_ _)); refine blk_far ?_ NB361_373.out _; (with_reducible repeat (first | refine blk_drewN ?_ _ | refine blk_drew ?_ | refine blk_alloc ?_ _)); refine blk_far ?_ NB361_373.out _; (with_reducible repeat (first | refine blk_drewN ?_ _ | refine blk_drew ?_ | refine blk_alloc ?_ _)); refine blk_far ?_ NB361_373.out _; (with_reducible repeat (first | refine blk_drewN ?_ _ | refine blk_drew ?_ | refine blk_alloc ?_ _)); exact B2.out))⟩; have n10_ : Aside0 (w64.heap[g3]? = some (.cells #[.int .i64 t362, .int .i64 t363, .int .i64 t364, .int .i64 t365, .string t366, .int .i64 t367, .int .u32 t368, .slice Ao63 t369.length co63] 48 (0, 0))) := ⟨(by rw [hw]; exact (by (with_reducible repeat (first | refine blk_drewN ?_ _ | refine blk_drew ?_ | refine blk_alloc ?_ _)); refine blk_put (cs := #[.int .i64 t362, .int .i64 t363, .int .i64 t364, .int .i64 t365, .string t366, .int .i64 t367, .int .u32 t368, .slice none 0 0]) ?_ 7 _ rfl; (with_reducible repeat (first | refine blk_drewN ?_ _ | refine blk_drew ?_ | refine blk_alloc ?_ _)); refine blk_put (cs := #[.int .i64 t362, .int .i64 t363, .int .i64 t364, .int .i64 t365, .string t366, .int .i64 t367, .int .u32 0, .slice none 0 0]) ?_ 6 _ rfl; (with_reducible repeat (first | refine blk_drewN ?_ _ | refine blk_drew ?_ | refine blk_alloc ?_ _)); refine blk_put (cs := #[.int .i64 t362, .int .i64 t363, .int .i64 t364, .int .i64 t365, .string t366, .int .i64 0, .int .u32 0, .slice none 0 0]) ?_ 5 _ rfl; (with_reducible repeat (first | refine blk_drewN ?_ _ | refine blk_drew ?_ | refine blk_alloc ?_ _)); refine blk_put (cs := #[.int .i64 t362, .int .i64 t363, .int .i64 t364, .int .i64 t365, .string (⟨#[]⟩ : ByteArray), .int .i64 0, .int .u32 0, .slice none 0 0]) ?_ 4 _ rfl; (with_reducible repeat (first | refine blk_drewN ?_ _ | refine blk_drew ?_ | refine blk_alloc ?_ _)); refine blk_put (cs := #[.int .i64 t362, .int .i64 t363, .int .i64 t364, .int .i64 0, .string (⟨#[]⟩ : ByteArray), .int .i64 0, .int .u32 0, .slice none 0 0]) ?_ 3 _ rfl; (with_reducible repeat (first | refine blk_drewN ?_ _ | refine blk_drew ?_ | refine blk_alloc ?_ _)); refine blk_put (cs := #[.int .i64 t362, .int .i64 t363, .int .i64 0, .int .i64 0, .string (⟨#[]⟩ : ByteArray), .int .i64 0, .int .u32 0, .slice none 0 0]) ?_ 2 _ rfl; (with_reducible repeat (first | refine blk_drewN ?_ _ | refine blk_drew ?_ | refine blk_alloc ?_ _)); refine blk_put (cs := #[.int .i64 t362, .int .i64 0, .int .i64 0, .int .i64 0, .string (⟨#[]⟩ : ByteArray), .int .i64 0, .int .u32 0, .slice none 0 0]) ?_ 1 _ rfl; (with_reducible repeat (first | refine blk_drewN ?_ _ | refine blk_drew ?_ | refine blk_alloc ?_ _)); refine blk_put (cs := #[.int .i64 0, .int .i64 0, .int .i64 0, .int .i64 0, .string (⟨#[]⟩ : ByteArray), .int .i64 0, .int .u32 0, .slice none 0 0]) ?_ 0 _ rfl; (with_reducible repeat (first | refine blk_drewN ?_ _ | refine blk_drew ?_ | refine blk_alloc ?_ _)); exact B3.out))⟩; have n11_ : Aside0 (Below w.heap.size w w64) := ⟨(by rw [hw]; exact (by repeat (first | (with_reducible first | exact HB.out | apply below_alloc | apply pw_below_drewN | apply below_drew1 | refine below_set ?_ GE320.out | refine below_set ?_ GE349.out | refine below_set ?_ GE361.out | refine below_set ?_ GE373.out) | exact HB.out)))⟩; clear hw; clear HO_7; clear HOq; clear HO334; clear HO337; clear HO347; clear HO359; clear HO371; clear B0; clear B1; clear B2; clear B3; clear HB; have HO_7 := n0_; have HOq := n1_; have HO334 := n2_; have HO337 := n3_; have HO347 := n4_; have HO359 := n5_; have HO371 := n6_; have B0 := n7_; have B1 := n8_; have B2 := n9_; have B3 := n10_; have HB := n11_; clear n0_ n1_ n2_ n3_ n4_ n5_ n6_ n7_ n8_ n9_ n10_ n11_) | ((with_reducible refine gate_callee (f := 22) rfl ?_); refine goesL_ (some 85) rfl rfl Try.func22 (by kernel_rfl) rfl #[.slice Ao43 y335.length co43, .string a2, .int .i64 x8_1] rfl (by (try simp only [List.map_toArray, List.map_cons, List.map_nil]); first | done | rfl | (simp only [List.length_drop, List.length_take]; rfl)) ?_; (with_reducible refine (keys_Find.calls kj21 (fun k_ => (((P0_ k_ ∨ P1_7_ k_) ∨ w.heap.size ≤ k_) ∧ (k_ ≠ g0 ∧ (k_ ≠ g1 ∧ (k_ ≠ g2 ∧ k_ ≠ g3))))) _ _ y335 a2 x8_1 t374 t375 t376 t377 t378 t379 t380 t381 t384 _ ?side1 A31.out).mono ?_); (case side1 => exact Kd.N_V (HO337.out)); rintro e w65 ⟨v382, rfl, ho0, hb⟩; refine ⟨_, rfl, ?_⟩; have n0_ := Aside0.mk (Kd.N_below (nv HO_7.out) hb); have n1_ := Aside0.mk (Kd.V_below (vv HOq.out) hb); have n2_ := Aside0.mk (Kd.N_below (nv HO334.out) hb); have n3_ := Aside0.mk (Kd.N_below (nv HO337.out) hb); have n4_ := Aside0.mk (Kd.V_below (vv HO347.out) hb); have n5_ := Aside0.mk (Kd.V_below (vv HO359.out) hb); have n6_ := Aside0.mk (Kd.V_below (vv HO371.out) hb); have n7_ := Aside0.mk (Kd.V_lower (Kd.V_mono (ok' := fun k_ => ((P0_ k_ ∨ P1_7_ k_) ∨ w.heap.size ≤ k_) ∧ k_ ≠ g0 ∧ k_ ≠ g1 ∧ k_ ≠ g2 ∧ k_ ≠ g3) ho0 (fun k_ hk_ => ⟨Or.elim hk_ (fun hs_ => hs_.1) (fun hn_ => (.inr (Nat.le_trans (below_size (by repeat (first | (with_reducible first | exact HB.out | apply below_alloc | apply pw_below_drewN | apply below_drew1 | refine below_set ?_ GE320.out | refine below_set ?_ GE349.out | refine below_set ?_ GE361.out | refine below_set ?_ GE373.out) | exact HB.out))) hn_))), Or.elim hk_ (fun hs_ => hs_.2.1) (fun hn_ => (Kd.freshB (g := g0) (o := .cells #[.int .i64 (wrap64 (x8_1 + 1)), .int .i64 a1_1, .int .i64 a1_2, .int .i64 xu, .string a1_4, .int .i64 a1_5, .int .u32 a1_6, .slice A1_7 l1_7.length c1_7] 48 (0, 0)) (kv B0.out) k_ hn_)), Or.elim hk_ (fun hs_ => hs_.2.2.1) (fun hn_ => (Kd.freshB (g := g1) (o := .cells #[.int .i64 t338, .int .i64 t339, .int .i64 t340, .int .i64 t341, .string t342, .int .i64 t343, .int .u32 t344, .slice Ao48 t345.length co48] 48 (0, 0)) (kv B1.out) k_ hn_)), Or.elim hk_ (fun hs_ => hs_.2.2.2.1) (fun hn_ => (Kd.freshB (g := g2) (o := .cells #[.int .i64 t350, .int .i64 t351, .int .i64 t352, .int .i64 t353, .string t354, .int .i64 t355, .int .u32 t356, .slice Ao55 t357.length co55] 48 (0, 0)) (kv B2.out) k_ hn_)), Or.elim hk_ (fun hs_ => hs_.2.2.2.2) (fun hn_ => (Kd.freshB (g := g3) (o := .cells #[.int .i64 t362, .int .i64 t363, .int .i64 t364, .int .i64 t365, .string t366, .int .i64 t367, .int .u32 t368, .slice Ao63 t369.length co63] 48 (0, 0)) (kv B3.out) k_ hn_))⟩)) (below_size (by repeat (first | (with_reducible first | exact HB.out | apply below_alloc | apply pw_below_drewN | apply below_drew1 | refine below_set ?_ GE320.out | refine below_set ?_ GE349.out | refine below_set ?_ GE361.out | refine below_set ?_ GE373.out) | exact HB.out)))); have n8_ := Aside0.mk (blk_below (kv B0.out) hb); have n9_ := Aside0.mk (blk_below (kv B1.out) hb); have n10_ := Aside0.mk (blk_below (kv B2.out) hb); have n11_ := Aside0.mk (blk_below (kv B3.out) hb); have n12_ := Aside0.mk (below_step (by repeat (first | (with_reducible first | exact HB.out | apply below_alloc | apply pw_below_drewN | apply below_drew1 | refine below_set ?_ GE320.out | refine below_set ?_ GE349.out | refine below_set ?_ GE361.out | refine below_set ?_ GE373.out) | exact HB.out)) hb); clear HO_7; clear HOq; clear HO334; clear HO337; clear HO347; clear HO359; clear HO371; clear B0; clear B1; clear B2; clear B3; clear HB; have HO_7 := n0_; have HOq := n1_; have HO334 := n2_; have HO337 := n3_; have HO347 := n4_; have HO359 := n5_; have HO371 := n6_; have HO383 := n7_; have B0 := n8_; have B1 := n9_; have B2 := n10_; have B3 := n11_; have HB := n12_; clear n0_ n1_ n2_ n3_ n4_ n5_ n6_ n7_ n8_ n9_ n10_ n11_ n12_; (try clear hb); (try clear ho0)) | ((with_reducible refine gate_dst (N := 17) rfl ?_); refine box_event ?hg (N := 17) ?hd (cs := #[.int .i64 0, .int .i64 0, .int .i64 0, .int .i64 0, .string (⟨#[]⟩ : ByteArray), .int .i64 0, .int .u32 0, .slice none 0 0]) (t := 48) ?hr ?_; (case hd => rfl); (case hg => rfl); (case hr => first | (go_simp; done) | (go_simp; rfl)); intro gb385 hg w66 hbox hb; have n0_ := Aside0.mk (Kd.N_below (Kd.N_elderB (nv HO_7.out) gb385 (Nat.le_of_eq hg.symm)) hb); have n1_ := Aside0.mk (Kd.V_below (Kd.V_elderB (vv HOq.out) gb385 (Nat.le_of_eq hg.symm)) hb); have n2_ := Aside0.mk (Kd.N_below (Kd.N_elderB (nv HO334.out) gb385 (Nat.le_of_eq hg.symm)) hb); have n3_ := Aside0.mk (Kd.N_below (Kd.N_elderB (nv HO337.out) gb385 (Nat.le_of_eq hg.symm)) hb); have n4_ := Aside0.mk (Kd.V_below (Kd.V_elderB (vv HO347.out) gb385 (Nat.le_of_eq hg.symm)) hb); have n5_ := Aside0.mk (Kd.V_below (Kd.V_elderB (vv HO359.out) gb385 (Nat.le_of_eq hg.symm)) hb); have n6_ := Aside0.mk (Kd.V_below (Kd.V_elderB (vv HO371.out) gb385 (Nat.le_of_eq hg.symm)) hb); have n7_ := Aside0.mk (Kd.V_below (Kd.V_elderB (vv HO383.out) gb385 (Nat.le_of_eq hg.symm)) hb); have n8_ := Aside0.mk (blk_below (kv B0.out) hb); have n9_ := Aside0.mk (blk_below (kv B1.out) hb); have n10_ := Aside0.mk (blk_below (kv B2.out) hb); have n11_ := Aside0.mk (blk_below (kv B3.out) hb); have n12_ := Aside0.mk (below_step (by repeat (first | (with_reducible first | exact HB.out | apply below_alloc | apply pw_below_drewN | apply below_drew1 | refine below_set ?_ GE320.out | refine below_set ?_ GE349.out | refine below_set ?_ GE361.out | refine below_set ?_ GE373.out) | exact HB.out)) hb); have n13_ := Aside0.mk (hbox); have n14_ := Aside0.mk ((by rw [hg]; exact (below_size (by repeat (first | (with_reducible first | exact HB.out | apply below_alloc | apply pw_below_drewN | apply below_drew1 | refine below_set ?_ GE320.out | refine below_set ?_ GE349.out | refine below_set ?_ GE361.out | refine below_set ?_ GE373.out) | exact HB.out))) : w.heap.size ≤ gb385)); have n15_ := Aside0.mk ((by rw [hg]; exact (below_size (by repeat (first | (with_reducible first | exact HB.out | apply below_alloc | apply pw_below_drewN | apply below_drew1 | refine below_set ?_ GE320.out | refine below_set ?_ GE349.out | refine below_set ?_ GE361.out | refine below_set ?_ GE373.out) | exact HB.out))) : w.heap.size ≤ gb385)); have n16_ := Aside0.mk ((by rw [hg]; exact Nat.ne_of_lt (blk_lt (g := g0) (o := .cells #[.int .i64 (wrap64 (x8_1 + 1)), .int .i64 a1_1, .int .i64 a1_2, .int .i64 xu, .string a1_4, .int .i64 a1_5, .int .u32 a1_6, .slice A1_7 l1_7.length c1_7] 48 (0, 0)) (kv B0.out)) : g0 ≠ gb385)); have n17_ := Aside0.mk ((by rw [hg]; exact Nat.ne_of_gt (blk_lt (g := g0) (o := .cells #[.int .i64 (wrap64 (x8_1 + 1)), .int .i64 a1_1, .int .i64 a1_2, .int .i64 xu, .string a1_4, .int .i64 a1_5, .int .u32 a1_6, .slice A1_7 l1_7.length c1_7] 48 (0, 0)) (kv B0.out)) : gb385 ≠ g0)); have n18_ := Aside0.mk ((by rw [hg]; exact Nat.ne_of_lt (blk_lt (g := g1) (o := .cells #[.int .i64 t338, .int .i64 t339, .int .i64 t340, .int .i64 t341, .string t342, .int .i64 t343, .int .u32 t344, .slice Ao48 t345.length co48] 48 (0, 0)) (kv B1.out)) : g1 ≠ gb385)); have n19_ := Aside0.mk ((by rw [hg]; exact Nat.ne_of_gt (blk_lt (g := g1) (o := .cells #[.int .i64 t338, .int .i64 t339, .int .i64 t340, .int .i64 t341, .string t342, .int .i64 t343, .int .u32 t344, .slice Ao48 t345.length co48] 48 (0, 0)) (kv B1.out)) : gb385 ≠ g1)); have n20_ := Aside0.mk ((by rw [hg]; exact Nat.ne_of_lt (blk_lt (g := g2) (o := .cells #[.int .i64 t350, .int .i64 t351, .int .i64 t352, .int .i64 t353, .string t354, .int .i64 t355, .int .u32 t356, .slice Ao55 t357.length co55] 48 (0, 0)) (kv B2.out)) : g2 ≠ gb385)); have n21_ := Aside0.mk ((by rw [hg]; exact Nat.ne_of_gt (blk_lt (g := g2) (o := .cells #[.int .i64 t350, .int .i64 t351, .int .i64 t352, .int .i64 t353, .string t354, .int .i64 t355, .int .u32 t356, .slice Ao55 t357.length co55] 48 (0, 0)) (kv B2.out)) : gb385 ≠ g2)); have n22_ := Aside0.mk ((by rw [hg]; exact Nat.ne_of_lt (blk_lt (g := g3) (o := .cells #[.int .i64 t362, .int .i64 t363, .int .i64 t364, .int .i64 t365, .string t366, .int .i64 t367, .int .u32 t368, .slice Ao63 t369.length co63] 48 (0, 0)) (kv B3.out)) : g3 ≠ gb385)); have n23_ := Aside0.mk ((by rw [hg]; exact Nat.ne_of_gt (blk_lt (g := g3) (o := .cells #[.int .i64 t362, .int .i64 t363, .int .i64 t364, .int .i64 t365, .string t366, .int .i64 t367, .int .u32 t368, .slice Ao63 t369.length co63] 48 (0, 0)) (kv B3.out)) : gb385 ≠ g3)); clear HO_7; clear HOq; clear HO334; clear HO337; clear HO347; clear HO359; clear HO371; clear HO383; clear B0; clear B1; clear B2; clear B3; clear HB; have HO_7 := n0_; have HOq := n1_; have HO334 := n2_; have HO337 := n3_; have HO347 := n4_; have HO359 := n5_; have HO371 := n6_; have HO383 := n7_; have B0 := n8_; have B1 := n9_; have B2 := n10_; have B3 := n11_; have HB := n12_; have B4 := n13_; have GW385 := n14_; have GE385 := n15_; have NB320_385 := n16_; have NB385_320 := n17_; have NB349_385 := n18_; have NB385_349 := n19_; have NB361_385 := n20_; have NB385_361 := n21_; have NB373_385 := n22_; have NB385_373 := n23_; clear n0_ n1_ n2_ n3_ n4_ n5_ n6_ n7_ n8_ n9_ n10_ n11_ n12_ n13_ n14_ n15_ n16_ n17_ n18_ n19_ n20_ n21_ n22_ n23_; clear hb hbox hg; have hnb67 := NB385_320.out; have hnc67 := NB320_385.out; have hnb68 := NB385_349.out; have hnc68 := NB349_385.out; have hnb69 := NB385_361.out; have hnc69 := NB361_385.out; have hnb70 := NB385_373.out; have hnc70 := NB373_385.out; have hcz71_0 : w66.cell? ⟨gb385, 0, none⟩ = some (.int .i64 0) := (blk_cell B4.out 0).trans rfl; have hcz71_1 : w66.cell? ⟨gb385, 1, none⟩ = some (.int .i64 0) := (blk_cell B4.out 1).trans rfl; have hcz71_2 : w66.cell? ⟨gb385, 2, none⟩ = some (.int .i64 0) := (blk_cell B4.out 2).trans rfl; have hcz71_3 : w66.cell? ⟨gb385, 3, none⟩ = some (.int .i64 0) := (blk_cell B4.out 3).trans rfl; have hcz71_4 : w66.cell? ⟨gb385, 4, none⟩ = some (.string (⟨#[]⟩ : ByteArray)) := (blk_cell B4.out 4).trans rfl; have hcz71_5 : w66.cell? ⟨gb385, 5, none⟩ = some (.int .i64 0) := (blk_cell B4.out 5).trans rfl; have hcz71_6 : w66.cell? ⟨gb385, 6, none⟩ = some (.int .u32 0) := (blk_cell B4.out 6).trans rfl; have hcz71_7 : w66.cell? ⟨gb385, 7, none⟩ = some (.slice none 0 0) := (blk_cell B4.out 7).trans rfl; have hfz71_0 := blk_frozen B4.out 0; have hfz71_1 := blk_frozen B4.out 1; have hfz71_2 := blk_frozen B4.out 2; have hfz71_3 := blk_frozen B4.out 3; have hfz71_4 := blk_frozen B4.out 4; have hfz71_5 := blk_frozen B4.out 5; have hfz71_6 := blk_frozen B4.out 6; have hfz71_7 := blk_frozen B4.out 7; obtain ⟨Ao72, co72, eo72⟩ := Kd.V_slice HO383.out; subst eo72) | ((with_reducible refine gate_store (t := 48) (p := 17) rfl ?_); refine store_event (t := 48) (p := 17) (v := ?vo_w73) (w1 := ((((((((w66.setCell ⟨gb385, 0, none⟩ (.int .i64 t374)).setCell ⟨gb385, 1, none⟩ (.int .i64 t375)).setCell ⟨gb385, 2, none⟩ (.int .i64 t376)).setCell ⟨gb385, 3, none⟩ (.int .i64 t377)).setCell ⟨gb385, 4, none⟩ (.string t378)).setCell ⟨gb385, 5, none⟩ (.int .i64 t379)).setCell ⟨gb385, 6, none⟩ (.int .u32 t380)).setCell ⟨gb385, 7, none⟩ (.slice Ao72 t381.length co72))) ?hg ?ho ?hn ?hr ?_; (case ho => rfl); (case hg => rfl); (case hn => rfl); (case hr => first | (go_simp; done) | (go_simp; rfl)); intro w73 hw; have n0_ : Aside0 (Kd.N k48 48 w73 w.heap.size (fun k_ => ((P0_ k_ ∨ P1_7_ k_) ∨ w.heap.size ≤ k_) ∧ some k_ ≠ (.slice Ao41 y332.length co41 : Value).ownBlock ∧ some k_ ≠ (.slice Ao43 y335.length co43 : Value).ownBlock ∧ k_ ≠ g0 ∧ k_ ≠ g1 ∧ k_ ≠ g2 ∧ k_ ≠ g3 ∧ k_ ≠ gb385) (.slice Ao11 t321.length co11) t321) := ⟨(by rw [hw]; exact (by (with_reducible repeat (first | apply Kd.N_alloc | apply Kd.N_drewN | apply Kd.N_drew)); exact Kd.N_mono (Kd.N_far (p := ⟨gb385, 7, none⟩) (Kd.N_far (p := ⟨gb385, 6, none⟩) (Kd.N_far (p := ⟨gb385, 5, none⟩) (Kd.N_far (p := ⟨gb385, 4, none⟩) (Kd.N_far (p := ⟨gb385, 3, none⟩) (Kd.N_far (p := ⟨gb385, 2, none⟩) (Kd.N_far (p := ⟨gb385, 1, none⟩) (Kd.N_far (p := ⟨gb385, 0, none⟩) (Kd.N_mono HO_7.out (fun k_ hk => (⟨hk, hk.2⟩ : _ ∧ k_ ≠ gb385))) (fun _ hk => hk.2) (.int .i64 t374)) (fun _ hk => hk.2) (.int .i64 t375)) (fun _ hk => hk.2) (.int .i64 t376)) (fun _ hk => hk.2) (.int .i64 t377)) (fun _ hk => hk.2) (.string t378)) (fun _ hk => hk.2) (.int .i64 t379)) (fun _ hk => hk.2) (.int .u32 t380)) (fun _ hk => hk.2) (.slice Ao72 t381.length co72)) (fun _ hk => ⟨hk.1.1.1, ⟨hk.1.1.2.1, ⟨hk.1.1.2.2.1, ⟨hk.1.1.2.2.2.1, ⟨hk.1.1.2.2.2.2.1, ⟨hk.1.1.2.2.2.2.2.1, ⟨hk.1.1.2.2.2.2.2.2, hk.1.2⟩⟩⟩⟩⟩⟩⟩)))⟩; have n1_ : Aside0 (Kd.V (Kd.int .u8) 5 w73 w.heap.size (fun k_ => ((P0_ k_ ∨ P1_7_ k_) ∨ w.heap.size ≤ k_) ∧ some k_ ≠ (.slice Ao11 t321.length co11 : Value).ownBlock ∧ some k_ ≠ (.slice Ao41 y332.length co41 : Value).ownBlock ∧ some k_ ≠ (.slice Ao43 y335.length co43 : Value).ownBlock ∧ k_ ≠ g0 ∧ k_ ≠ g1 ∧ k_ ≠ g2 ∧ k_ ≠ g3 ∧ k_ ≠ gb385) (.slice A1_7 l1_7.length c1_7) l1_7) := ⟨(by rw [hw]; exact (by (with_reducible repeat (first | apply Kd.V_alloc | apply Kd.V_drewN | apply Kd.V_drew)); exact Kd.V_mono (Kd.V_far (p := ⟨gb385, 7, none⟩) (Kd.V_far (p := ⟨gb385, 6, none⟩) (Kd.V_far (p := ⟨gb385, 5, none⟩) (Kd.V_far (p := ⟨gb385, 4, none⟩) (Kd.V_far (p := ⟨gb385, 3, none⟩) (Kd.V_far (p := ⟨gb385, 2, none⟩) (Kd.V_far (p := ⟨gb385, 1, none⟩) (Kd.V_far (p := ⟨gb385, 0, none⟩) (Kd.V_mono HOq.out (fun k_ hk => (⟨hk, hk.2⟩ : _ ∧ k_ ≠ gb385))) (fun _ hk => hk.2) (.int .i64 t374)) (fun _ hk => hk.2) (.int .i64 t375)) (fun _ hk => hk.2) (.int .i64 t376)) (fun _ hk => hk.2) (.int .i64 t377)) (fun _ hk => hk.2) (.string t378)) (fun _ hk => hk.2) (.int .i64 t379)) (fun _ hk => hk.2) (.int .u32 t380)) (fun _ hk => hk.2) (.slice Ao72 t381.length co72)) (fun _ hk => ⟨hk.1.1.1, ⟨hk.1.1.2.1, ⟨hk.1.1.2.2.1, ⟨hk.1.1.2.2.2.1, ⟨hk.1.1.2.2.2.2.1, ⟨hk.1.1.2.2.2.2.2.1, ⟨hk.1.1.2.2.2.2.2.2.1, ⟨hk.1.1.2.2.2.2.2.2.2, hk.1.2⟩⟩⟩⟩⟩⟩⟩⟩)))⟩; have n2_ : Aside0 (Kd.N k48 48 w73 w.heap.size (fun k_ => ((P0_ k_ ∨ P1_7_ k_) ∨ w.heap.size ≤ k_) ∧ some k_ ≠ (.slice Ao11 t321.length co11 : Value).ownBlock ∧ some k_ ≠ (.slice Ao43 y335.length co43 : Value).ownBlock ∧ k_ ≠ g0 ∧ k_ ≠ g1 ∧ k_ ≠ g2 ∧ k_ ≠ g3 ∧ k_ ≠ gb385) (.slice Ao41 y332.length co41) y332) := ⟨(by rw [hw]; exact (by (with_reducible repeat (first | apply Kd.N_alloc | apply Kd.N_drewN | apply Kd.N_drew)); exact Kd.N_mono (Kd.N_far (p := ⟨gb385, 7, none⟩) (Kd.N_far (p := ⟨gb385, 6, none⟩) (Kd.N_far (p := ⟨gb385, 5, none⟩) (Kd.N_far (p := ⟨gb385, 4, none⟩) (Kd.N_far (p := ⟨gb385, 3, none⟩) (Kd.N_far (p := ⟨gb385, 2, none⟩) (Kd.N_far (p := ⟨gb385, 1, none⟩) (Kd.N_far (p := ⟨gb385, 0, none⟩) (Kd.N_mono HO334.out (fun k_ hk => (⟨hk, hk.2⟩ : _ ∧ k_ ≠ gb385))) (fun _ hk => hk.2) (.int .i64 t374)) (fun _ hk => hk.2) (.int .i64 t375)) (fun _ hk => hk.2) (.int .i64 t376)) (fun _ hk => hk.2) (.int .i64 t377)) (fun _ hk => hk.2) (.string t378)) (fun _ hk => hk.2) (.int .i64 t379)) (fun _ hk => hk.2) (.int .u32 t380)) (fun _ hk => hk.2) (.slice Ao72 t381.length co72)) (fun _ hk => ⟨hk.1.1.1, ⟨hk.1.1.2.1, ⟨hk.1.1.2.2.1, ⟨hk.1.1.2.2.2.1, ⟨hk.1.1.2.2.2.2.1, ⟨hk.1.1.2.2.2.2.2.1, ⟨hk.1.1.2.2.2.2.2.2, hk.1.2⟩⟩⟩⟩⟩⟩⟩)))⟩; have n3_ : Aside0 (Kd.N k48 48 w73 w.heap.size (fun k_ => ((P0_ k_ ∨ P1_7_ k_) ∨ w.heap.size ≤ k_) ∧ k_ ≠ g0 ∧ k_ ≠ g1 ∧ k_ ≠ g2 ∧ k_ ≠ g3 ∧ k_ ≠ gb385) (.slice Ao43 y335.length co43) y335) := ⟨(by rw [hw]; exact (by (with_reducible repeat (first | apply Kd.N_alloc | apply Kd.N_drewN | apply Kd.N_drew)); exact Kd.N_mono (Kd.N_far (p := ⟨gb385, 7, none⟩) (Kd.N_far (p := ⟨gb385, 6, none⟩) (Kd.N_far (p := ⟨gb385, 5, none⟩) (Kd.N_far (p := ⟨gb385, 4, none⟩) (Kd.N_far (p := ⟨gb385, 3, none⟩) (Kd.N_far (p := ⟨gb385, 2, none⟩) (Kd.N_far (p := ⟨gb385, 1, none⟩) (Kd.N_far (p := ⟨gb385, 0, none⟩) (Kd.N_mono HO337.out (fun k_ hk => (⟨hk, hk.2⟩ : _ ∧ k_ ≠ gb385))) (fun _ hk => hk.2) (.int .i64 t374)) (fun _ hk => hk.2) (.int .i64 t375)) (fun _ hk => hk.2) (.int .i64 t376)) (fun _ hk => hk.2) (.int .i64 t377)) (fun _ hk => hk.2) (.string t378)) (fun _ hk => hk.2) (.int .i64 t379)) (fun _ hk => hk.2) (.int .u32 t380)) (fun _ hk => hk.2) (.slice Ao72 t381.length co72)) (fun _ hk => ⟨hk.1.1.1, ⟨hk.1.1.2.1, ⟨hk.1.1.2.2.1, ⟨hk.1.1.2.2.2.1, ⟨hk.1.1.2.2.2.2, hk.1.2⟩⟩⟩⟩⟩)))⟩; have n4_ : Aside0 (Kd.V (Kd.int .u8) 5 w73 w.heap.size (fun k_ => ((P0_ k_ ∨ P1_7_ k_) ∨ w.heap.size ≤ k_) ∧ k_ ≠ g0 ∧ k_ ≠ g1 ∧ k_ ≠ g2 ∧ k_ ≠ g3 ∧ k_ ≠ gb385) (.slice Ao48 t345.length co48) t345) := ⟨(by rw [hw]; exact (by (with_reducible repeat (first | apply Kd.V_alloc | apply Kd.V_drewN | apply Kd.V_drew)); exact Kd.V_mono (Kd.V_far (p := ⟨gb385, 7, none⟩) (Kd.V_far (p := ⟨gb385, 6, none⟩) (Kd.V_far (p := ⟨gb385, 5, none⟩) (Kd.V_far (p := ⟨gb385, 4, none⟩) (Kd.V_far (p := ⟨gb385, 3, none⟩) (Kd.V_far (p := ⟨gb385, 2, none⟩) (Kd.V_far (p := ⟨gb385, 1, none⟩) (Kd.V_far (p := ⟨gb385, 0, none⟩) (Kd.V_mono HO347.out (fun k_ hk => (⟨hk, hk.2⟩ : _ ∧ k_ ≠ gb385))) (fun _ hk => hk.2) (.int .i64 t374)) (fun _ hk => hk.2) (.int .i64 t375)) (fun _ hk => hk.2) (.int .i64 t376)) (fun _ hk => hk.2) (.int .i64 t377)) (fun _ hk => hk.2) (.string t378)) (fun _ hk => hk.2) (.int .i64 t379)) (fun _ hk => hk.2) (.int .u32 t380)) (fun _ hk => hk.2) (.slice Ao72 t381.length co72)) (fun _ hk => ⟨hk.1.1.1, ⟨hk.1.1.2.1, ⟨hk.1.1.2.2.1, ⟨hk.1.1.2.2.2.1, ⟨hk.1.1.2.2.2.2, hk.1.2⟩⟩⟩⟩⟩)))⟩; have n5_ : Aside0 (Kd.V (Kd.int .u8) 5 w73 w.heap.size (fun k_ => ((P0_ k_ ∨ P1_7_ k_) ∨ w.heap.size ≤ k_) ∧ some k_ ≠ (.slice Ao41 y332.length co41 : Value).ownBlock ∧ some k_ ≠ (.slice Ao43 y335.length co43 : Value).ownBlock ∧ k_ ≠ g0 ∧ k_ ≠ g1 ∧ k_ ≠ g2 ∧ k_ ≠ g3 ∧ k_ ≠ gb385) (.slice Ao55 t357.length co55) t357) := ⟨(by rw [hw]; exact (by (with_reducible repeat (first | apply Kd.V_alloc | apply Kd.V_drewN | apply Kd.V_drew)); exact Kd.V_mono (Kd.V_far (p := ⟨gb385, 7, none⟩) (Kd.V_far (p := ⟨gb385, 6, none⟩) (Kd.V_far (p := ⟨gb385, 5, none⟩) (Kd.V_far (p := ⟨gb385, 4, none⟩) (Kd.V_far (p := ⟨gb385, 3, none⟩) (Kd.V_far (p := ⟨gb385, 2, none⟩) (Kd.V_far (p := ⟨gb385, 1, none⟩) (Kd.V_far (p := ⟨gb385, 0, none⟩) (Kd.V_mono HO359.out (fun k_ hk => (⟨hk, hk.2⟩ : _ ∧ k_ ≠ gb385))) (fun _ hk => hk.2) (.int .i64 t374)) (fun _ hk => hk.2) (.int .i64 t375)) (fun _ hk => hk.2) (.int .i64 t376)) (fun _ hk => hk.2) (.int .i64 t377)) (fun _ hk => hk.2) (.string t378)) (fun _ hk => hk.2) (.int .i64 t379)) (fun _ hk => hk.2) (.int .u32 t380)) (fun _ hk => hk.2) (.slice Ao72 t381.length co72)) (fun _ hk => ⟨hk.1.1.1, ⟨hk.1.1.2.1, ⟨hk.1.1.2.2.1, ⟨hk.1.1.2.2.2.1, ⟨hk.1.1.2.2.2.2.1, ⟨hk.1.1.2.2.2.2.2.1, ⟨hk.1.1.2.2.2.2.2.2, hk.1.2⟩⟩⟩⟩⟩⟩⟩)))⟩; have n6_ : Aside0 (Kd.V (Kd.int .u8) 5 w73 w.heap.size (fun k_ => ((P0_ k_ ∨ P1_7_ k_) ∨ w.heap.size ≤ k_) ∧ k_ ≠ g0 ∧ k_ ≠ g1 ∧ k_ ≠ g2 ∧ k_ ≠ g3 ∧ k_ ≠ gb385) (.slice Ao63 t369.length co63) t369) := ⟨(by rw [hw]; exact (by (with_reducible repeat (first | apply Kd.V_alloc | apply Kd.V_drewN | apply Kd.V_drew)); exact Kd.V_mono (Kd.V_far (p := ⟨gb385, 7, none⟩) (Kd.V_far (p := ⟨gb385, 6, none⟩) (Kd.V_far (p := ⟨gb385, 5, none⟩) (Kd.V_far (p := ⟨gb385, 4, none⟩) (Kd.V_far (p := ⟨gb385, 3, none⟩) (Kd.V_far (p := ⟨gb385, 2, none⟩) (Kd.V_far (p := ⟨gb385, 1, none⟩) (Kd.V_far (p := ⟨gb385, 0, none⟩) (Kd.V_mono HO371.out (fun k_ hk => (⟨hk, hk.2⟩ : _ ∧ k_ ≠ gb385))) (fun _ hk => hk.2) (.int .i64 t374)) (fun _ hk => hk.2) (.int .i64 t375)) (fun _ hk => hk.2) (.int .i64 t376)) (fun _ hk => hk.2) (.int .i64 t377)) (fun _ hk => hk.2) (.string t378)) (fun _ hk => hk.2) (.int .i64 t379)) (fun _ hk => hk.2) (.int .u32 t380)) (fun _ hk => hk.2) (.slice Ao72 t381.length co72)) (fun _ hk => ⟨hk.1.1.1, ⟨hk.1.1.2.1, ⟨hk.1.1.2.2.1, ⟨hk.1.1.2.2.2.1, ⟨hk.1.1.2.2.2.2, hk.1.2⟩⟩⟩⟩⟩)))⟩; have n7_ : Aside0 (Kd.V (Kd.int .u8) 5 w73 w.heap.size (fun k_ => ((P0_ k_ ∨ P1_7_ k_) ∨ w.heap.size ≤ k_) ∧ k_ ≠ g0 ∧ k_ ≠ g1 ∧ k_ ≠ g2 ∧ k_ ≠ g3 ∧ k_ ≠ gb385) (.slice Ao72 t381.length co72) t381) := ⟨(by rw [hw]; exact (by (with_reducible repeat (first | apply Kd.V_alloc | apply Kd.V_drewN | apply Kd.V_drew)); exact Kd.V_mono (Kd.V_far (p := ⟨gb385, 7, none⟩) (Kd.V_far (p := ⟨gb385, 6, none⟩) (Kd.V_far (p := ⟨gb385, 5, none⟩) (Kd.V_far (p := ⟨gb385, 4, none⟩) (Kd.V_far (p := ⟨gb385, 3, none⟩) (Kd.V_far (p := ⟨gb385, 2, none⟩) (Kd.V_far (p := ⟨gb385, 1, none⟩) (Kd.V_far (p := ⟨gb385, 0, none⟩) (Kd.V_mono HO383.out (fun k_ hk => (⟨hk, hk.2⟩ : _ ∧ k_ ≠ gb385))) (fun _ hk => hk.2) (.int .i64 t374)) (fun _ hk => hk.2) (.int .i64 t375)) (fun _ hk => hk.2) (.int .i64 t376)) (fun _ hk => hk.2) (.int .i64 t377)) (fun _ hk => hk.2) (.string t378)) (fun _ hk => hk.2) (.int .i64 t379)) (fun _ hk => hk.2) (.int .u32 t380)) (fun _ hk => hk.2) (.slice Ao72 t381.length co72)) (fun _ hk => ⟨hk.1.1.1, ⟨hk.1.1.2.1, ⟨hk.1.1.2.2.1, ⟨hk.1.1.2.2.2.1, ⟨hk.1.1.2.2.2.2, hk.1.2⟩⟩⟩⟩⟩)))⟩; have n8_ : Aside0 (w73.heap[g0]? = some (.cells #[.int .i64 (wrap64 (x8_1 + 1)), .int .i64 a1_1, .int .i64 a1_2, .int .i64 xu, .string a1_4, .int .i64 a1_5, .int .u32 a1_6, .slice A1_7 l1_7.length c1_7] 48 (0, 0))) := ⟨(by rw [hw]; exact (by (with_reducible repeat (first | refine blk_drewN ?_ _ | refine blk_drew ?_ | refine blk_alloc ?_ _)); refine blk_far ?_ NB320_385.out _; (with_reducible repeat (first | refine blk_drewN ?_ _ | refine blk_drew ?_ | refine blk_alloc ?_ _)); refine blk_far ?_ NB320_385.out _; (with_reducible repeat (first | refine blk_drewN ?_ _ | refine blk_drew ?_ | refine blk_alloc ?_ _)); refine blk_far ?_ NB320_385.out _; (with_reducible repeat (first | refine blk_drewN ?_ _ | refine blk_drew ?_ | refine blk_alloc ?_ _)); refine blk_far ?_ NB320_385.out _; (with_reducible repeat (first | refine blk_drewN ?_ _ | refine blk_drew ?_ | refine blk_alloc ?_ _)); refine blk_far ?_ NB320_385.out _; (with_reducible repeat (first | refine blk_drewN ?_ _ | refine blk_drew ?_ | refine blk_alloc ?_ _)); refine blk_far ?_ NB320_385.out _; (with_reducible repeat (first | refine blk_drewN ?_ _ | refine blk_drew ?_ | refine blk_alloc ?_ _)); refine blk_far ?_ NB320_385.out _; (with_reducible repeat (first | refine blk_drewN ?_ _ | refine blk_drew ?_ | refine blk_alloc ?_ _)); refine blk_far ?_ NB320_385.out _; (with_reducible repeat (first | refine blk_drewN ?_ _ | refine blk_drew ?_ | refine blk_alloc ?_ _)); exact B0.out))⟩; have n9_ : Aside0 (w73.heap[g1]? = some (.cells #[.int .i64 t338, .int .i64 t339, .int .i64 t340, .int .i64 t341, .string t342, .int .i64 t343, .int .u32 t344, .slice Ao48 t345.length co48] 48 (0, 0))) := ⟨(by rw [hw]; exact (by (with_reducible repeat (first | refine blk_drewN ?_ _ | refine blk_drew ?_ | refine blk_alloc ?_ _)); refine blk_far ?_ NB349_385.out _; (with_reducible repeat (first | refine blk_drewN ?_ _ | refine blk_drew ?_ | refine blk_alloc ?_ _)); refine blk_far ?_ NB349_385.out _; (with_reducible repeat (first | refine blk_drewN ?_ _ | refine blk_drew ?_ | refine blk_alloc ?_ _)); refine blk_far ?_ NB349_385.out _; (with_reducible repeat (first | refine blk_drewN ?_ _ | refine blk_drew ?_ | refine blk_alloc ?_ _)); refine blk_far ?_ NB349_385.out _; (with_reducible repeat (first | refine blk_drewN ?_ _ | refine blk_drew ?_ | refine blk_alloc ?_ _)); refine blk_far ?_ NB349_385.out _; (with_reducible repeat (first | refine blk_drewN ?_ _ | refine blk_drew ?_ | refine blk_alloc ?_ _)); refine blk_far ?_ NB349_385.out _; (with_reducible repeat (first | refine blk_drewN ?_ _ | refine blk_drew ?_ | refine blk_alloc ?_ _)); refine blk_far ?_ NB349_385.out _; (with_reducible repeat (first | refine blk_drewN ?_ _ | refine blk_drew ?_ | refine blk_alloc ?_ _)); refine blk_far ?_ NB349_385.out _; (with_reducible repeat (first | refine blk_drewN ?_ _ | refine blk_drew ?_ | refine blk_alloc ?_ _)); exact B1.out))⟩; have n10_ : Aside0 (w73.heap[g2]? = some (.cells #[.int .i64 t350, .int .i64 t351, .int .i64 t352, .int .i64 t353, .string t354, .int .i64 t355, .int .u32 t356, .slice Ao55 t357.length co55] 48 (0, 0))) := ⟨(by rw [hw]; exact (by (with_reducible repeat (first | refine blk_drewN ?_ _ | refine blk_drew ?_ | refine blk_alloc ?_ _)); refine blk_far ?_ NB361_385.out _; (with_reducible repeat (first | refine blk_drewN ?_ _ | refine blk_drew ?_ | refine blk_alloc ?_ _)); refine blk_far ?_ NB361_385.out _; (with_reducible repeat (first | refine blk_drewN ?_ _ | refine blk_drew ?_ | refine blk_alloc ?_ _)); refine blk_far ?_ NB361_385.out _; (with_reducible repeat (first | refine blk_drewN ?_ _ | refine blk_drew ?_ | refine blk_alloc ?_ _)); refine blk_far ?_ NB361_385.out _; (with_reducible repeat (first | refine blk_drewN ?_ _ | refine blk_drew ?_ | refine blk_alloc ?_ _)); refine blk_far ?_ NB361_385.out _; (with_reducible repeat (first | refine blk_drewN ?_ _ | refine blk_drew ?_ | refine blk_alloc ?_ _)); refine blk_far ?_ NB361_385.out _; (with_reducible repeat (first | refine blk_drewN ?_ _ | refine blk_drew ?_ | refine blk_alloc ?_ _)); refine blk_far ?_ NB361_385.out _; (with_reducible repeat (first | refine blk_drewN ?_ _ | refine blk_drew ?_ | refine blk_alloc ?_ _)); refine blk_far ?_ NB361_385.out _; (with_reducible repeat (first | refine blk_drewN ?_ _ | refine blk_drew ?_ | refine blk_alloc ?_ _)); exact B2.out))⟩; have n11_ : Aside0 (w73.heap[g3]? = some (.cells #[.int .i64 t362, .int .i64 t363, .int .i64 t364, .int .i64 t365, .string t366, .int .i64 t367, .int .u32 t368, .slice Ao63 t369.length co63] 48 (0, 0))) := ⟨(by rw [hw]; exact (by (with_reducible repeat (first | refine blk_drewN ?_ _ | refine blk_drew ?_ | refine blk_alloc ?_ _)); refine blk_far ?_ NB373_385.out _; (with_reducible repeat (first | refine blk_drewN ?_ _ | refine blk_drew ?_ | refine blk_alloc ?_ _)); refine blk_far ?_ NB373_385.out _; (with_reducible repeat (first | refine blk_drewN ?_ _ | refine blk_drew ?_ | refine blk_alloc ?_ _)); refine blk_far ?_ NB373_385.out _; (with_reducible repeat (first | refine blk_drewN ?_ _ | refine blk_drew ?_ | refine blk_alloc ?_ _)); refine blk_far ?_ NB373_385.out _; (with_reducible repeat (first | refine blk_drewN ?_ _ | refine blk_drew ?_ | refine blk_alloc ?_ _)); refine blk_far ?_ NB373_385.out _; (with_reducible repeat (first | refine blk_drewN ?_ _ | refine blk_drew ?_ | refine blk_alloc ?_ _)); refine blk_far ?_ NB373_385.out _; (with_reducible repeat (first | refine blk_drewN ?_ _ | refine blk_drew ?_ | refine blk_alloc ?_ _)); refine blk_far ?_ NB373_385.out _; (with_reducible repeat (first | refine blk_drewN ?_ _ | refine blk_drew ?_ | refine blk_alloc ?_ _)); refine blk_far ?_ NB373_385.out _; (with_reducible repeat (first | refine blk_drewN ?_ _ | refine blk_drew ?_ | refine blk_alloc ?_ _)); exact B3.out))⟩; have n12_ : Aside0 (w73.heap[gb385]? = some (.cells #[.int .i64 t374, .int .i64 t375, .int .i64 t376, .int .i64 t377, .string t378, .int .i64 t379, .int .u32 t380, .slice Ao72 t381.length co72] 48 (0, 0))) := ⟨(by rw [hw]; exact (by (with_reducible repeat (first | refine blk_drewN ?_ _ | refine blk_drew ?_ | refine blk_alloc ?_ _)); refine blk_put (cs := #[.int .i64 t374, .int .i64 t375, .int .i64 t376, .int .i64 t377, .string t378, .int .i64 t379, .int .u32 t380, .slice none 0 0]) ?_ 7 _ rfl; (with_reducible repeat (first | refine blk_drewN ?_ _ | refine blk_drew ?_ | refine blk_alloc ?_ _)); refine blk_put (cs := #[.int .i64 t374, .int .i64 t375, .int .i64 t376, .int .i64 t377, .string t378, .int .i64 t379, .int .u32 0, .slice none 0 0]) ?_ 6 _ rfl; (with_reducible repeat (first | refine blk_drewN ?_ _ | refine blk_drew ?_ | refine blk_alloc ?_ _)); refine blk_put (cs := #[.int .i64 t374, .int .i64 t375, .int .i64 t376, .int .i64 t377, .string t378, .int .i64 0, .int .u32 0, .slice none 0 0]) ?_ 5 _ rfl; (with_reducible repeat (first | refine blk_drewN ?_ _ | refine blk_drew ?_ | refine blk_alloc ?_ _)); refine blk_put (cs := #[.int .i64 t374, .int .i64 t375, .int .i64 t376, .int .i64 t377, .string (⟨#[]⟩ : ByteArray), .int .i64 0, .int .u32 0, .slice none 0 0]) ?_ 4 _ rfl; (with_reducible repeat (first | refine blk_drewN ?_ _ | refine blk_drew ?_ | refine blk_alloc ?_ _)); refine blk_put (cs := #[.int .i64 t374, .int .i64 t375, .int .i64 t376, .int .i64 0, .string (⟨#[]⟩ : ByteArray), .int .i64 0, .int .u32 0, .slice none 0 0]) ?_ 3 _ rfl; (with_reducible repeat (first | refine blk_drewN ?_ _ | refine blk_drew ?_ | refine blk_alloc ?_ _)); refine blk_put (cs := #[.int .i64 t374, .int .i64 t375, .int .i64 0, .int .i64 0, .string (⟨#[]⟩ : ByteArray), .int .i64 0, .int .u32 0, .slice none 0 0]) ?_ 2 _ rfl; (with_reducible repeat (first | refine blk_drewN ?_ _ | refine blk_drew ?_ | refine blk_alloc ?_ _)); refine blk_put (cs := #[.int .i64 t374, .int .i64 0, .int .i64 0, .int .i64 0, .string (⟨#[]⟩ : ByteArray), .int .i64 0, .int .u32 0, .slice none 0 0]) ?_ 1 _ rfl; (with_reducible repeat (first | refine blk_drewN ?_ _ | refine blk_drew ?_ | refine blk_alloc ?_ _)); refine blk_put (cs := #[.int .i64 0, .int .i64 0, .int .i64 0, .int .i64 0, .string (⟨#[]⟩ : ByteArray), .int .i64 0, .int .u32 0, .slice none 0 0]) ?_ 0 _ rfl; (with_reducible repeat (first | refine blk_drewN ?_ _ | refine blk_drew ?_ | refine blk_alloc ?_ _)); exact B4.out))⟩; have n13_ : Aside0 (Below w.heap.size w w73) := ⟨(by rw [hw]; exact (by repeat (first | (with_reducible first | exact HB.out | apply below_alloc | apply pw_below_drewN | apply below_drew1 | refine below_set ?_ GE320.out | refine below_set ?_ GE349.out | refine below_set ?_ GE361.out | refine below_set ?_ GE373.out | refine below_set ?_ GE385.out) | exact HB.out)))⟩; clear hw; clear HO_7; clear HOq; clear HO334; clear HO337; clear HO347; clear HO359; clear HO371; clear HO383; clear B0; clear B1; clear B2; clear B3; clear B4; clear HB; have HO_7 := n0_; have HOq := n1_; have HO334 := n2_; have HO337 := n3_; have HO347 := n4_; have HO359 := n5_; have HO371 := n6_; have HO383 := n7_; have B0 := n8_; have B1 := n9_; have B2 := n10_; have B3 := n11_; have B4 := n12_; have HB := n13_; clear n0_ n1_ n2_ n3_ n4_ n5_ n6_ n7_ n8_ n9_ n10_ n11_ n12_ n13_))
             (try simp only [Act.put, List.setIfInBounds_toArray, List.set_cons_zero, List.set_cons_succ])
             go_cut [109] (fun v109 wc => ∃ (kq : Nat) (x109_31 : Bool), v109 = .bool x109_31 ∧ Aside0 (kpt.j4 kq a2 t360 t372 x109_31 (wrap64 (x8_1 + 1)) a1_1 a1_2 xu a1_4 a1_5 a1_6 l1_7 t350 t351 t352 t353 t354 t355 t356 t357 t362 t363 t364 t365 t366 t367 t368 t369 = some r) ∧ Aside0 (kq ≤ kj21) ∧ Aside0 (Kd.V (Kd.int .u8) 5 wc w.heap.size (fun k_ => ((P0_ k_ ∨ P1_7_ k_) ∨ w.heap.size ≤ k_) ∧ k_ ≠ g0 ∧ k_ ≠ g1 ∧ k_ ≠ g2 ∧ k_ ≠ g3 ∧ k_ ≠ gb385) (.slice A1_7 l1_7.length c1_7) l1_7) ∧ Aside0 (Kd.V (Kd.int .u8) 5 wc w.heap.size (fun k_ => ((P0_ k_ ∨ P1_7_ k_) ∨ w.heap.size ≤ k_) ∧ k_ ≠ g0 ∧ k_ ≠ g1 ∧ k_ ≠ g2 ∧ k_ ≠ g3 ∧ k_ ≠ gb385) (.slice Ao48 t345.length co48) t345) ∧ Aside0 (Kd.V (Kd.int .u8) 5 wc w.heap.size (fun k_ => ((P0_ k_ ∨ P1_7_ k_) ∨ w.heap.size ≤ k_) ∧ k_ ≠ g0 ∧ k_ ≠ g1 ∧ k_ ≠ g2 ∧ k_ ≠ g3 ∧ k_ ≠ gb385) (.slice Ao55 t357.length co55) t357) ∧ Aside0 (Kd.V (Kd.int .u8) 5 wc w.heap.size (fun k_ => ((P0_ k_ ∨ P1_7_ k_) ∨ w.heap.size ≤ k_) ∧ k_ ≠ g0 ∧ k_ ≠ g1 ∧ k_ ≠ g2 ∧ k_ ≠ g3 ∧ k_ ≠ gb385) (.slice Ao63 t369.length co63) t369) ∧ Aside0 (Kd.V (Kd.int .u8) 5 wc w.heap.size (fun k_ => ((P0_ k_ ∨ P1_7_ k_) ∨ w.heap.size ≤ k_) ∧ k_ ≠ g0 ∧ k_ ≠ g1 ∧ k_ ≠ g2 ∧ k_ ≠ g3 ∧ k_ ≠ gb385) (.slice Ao72 t381.length co72) t381) ∧ Aside0 (wc.heap[g0]? = some (.cells #[.int .i64 (wrap64 (x8_1 + 1)), .int .i64 a1_1, .int .i64 a1_2, .int .i64 xu, .string a1_4, .int .i64 a1_5, .int .u32 a1_6, (.slice A1_7 l1_7.length c1_7)] 48 (0, 0))) ∧ Aside0 (wc.heap[g1]? = some (.cells #[.int .i64 t338, .int .i64 t339, .int .i64 t340, .int .i64 t341, .string t342, .int .i64 t343, .int .u32 t344, (.slice Ao48 t345.length co48)] 48 (0, 0))) ∧ Aside0 (wc.heap[g2]? = some (.cells #[.int .i64 t350, .int .i64 t351, .int .i64 t352, .int .i64 t353, .string t354, .int .i64 t355, .int .u32 t356, (.slice Ao55 t357.length co55)] 48 (0, 0))) ∧ Aside0 (wc.heap[g3]? = some (.cells #[.int .i64 t362, .int .i64 t363, .int .i64 t364, .int .i64 t365, .string t366, .int .i64 t367, .int .u32 t368, (.slice Ao63 t369.length co63)] 48 (0, 0))) ∧ Aside0 (wc.heap[gb385]? = some (.cells #[.int .i64 t374, .int .i64 t375, .int .i64 t376, .int .i64 t377, .string t378, .int .i64 t379, .int .u32 t380, (.slice Ao72 t381.length co72)] 48 (0, 0))) ∧ Aside0 (Below w.heap.size w wc))
             case first =>
              have H := HC32.out
              clear HC32
              by_cases c74 : t348 = true
              ·subst c74
               have H1 : ((deadeyeref07_Same.f t338 t339 t340 t341 t342 t343 t344 t345 (wrap64 (x8_1 + 1)) a1_1 a1_2 xu a1_4 a1_5 a1_6 l1_7).bind fun t386 => (if t386 = true then (if (t360 != t384) = true then (kpt.j4 kj21 a2 t360 t372 true (wrap64 (x8_1 + 1)) a1_1 a1_2 xu a1_4 a1_5 a1_6 l1_7 t350 t351 t352 t353 t354 t355 t356 t357 t362 t363 t364 t365 t366 t367 t368 t369) else (if t360 = true then ((deadeyeref07_Same.f t350 t351 t352 t353 t354 t355 t356 t357 t374 t375 t376 t377 t378 t379 t380 t381).bind fun t387 => (kpt.j4 kj21 a2 t360 t372 (!t387) (wrap64 (x8_1 + 1)) a1_1 a1_2 xu a1_4 a1_5 a1_6 l1_7 t350 t351 t352 t353 t354 t355 t356 t357 t362 t363 t364 t365 t366 t367 t368 t369)) else (kpt.j4 kj21 a2 t360 t372 false (wrap64 (x8_1 + 1)) a1_1 a1_2 xu a1_4 a1_5 a1_6 l1_7 t350 t351 t352 t353 t354 t355 t356 t357 t362 t363 t364 t365 t366 t367 t368 t369))) else (kpt.j4 kj21 a2 t360 t372 true (wrap64 (x8_1 + 1)) a1_1 a1_2 xu a1_4 a1_5 a1_6 l1_7 t350 t351 t352 t353 t354 t355 t356 t357 t362 t363 t364 t365 t366 t367 t368 t369))) = some r := by rw [if_pos rfl] at H; exact H
               clear H
               have H := H1
               clear H1
               replace H := Option.bind_eq_some_iff.mp H
               obtain ⟨t386, A750, H⟩ := H
               replace H : (if t386 = true then (if (t360 != t384) = true then (kpt.j4 kj21 a2 t360 t372 true (wrap64 (x8_1 + 1)) a1_1 a1_2 xu a1_4 a1_5 a1_6 l1_7 t350 t351 t352 t353 t354 t355 t356 t357 t362 t363 t364 t365 t366 t367 t368 t369) else (if t360 = true then ((deadeyeref07_Same.f t350 t351 t352 t353 t354 t355 t356 t357 t374 t375 t376 t377 t378 t379 t380 t381).bind fun t387 => (kpt.j4 kj21 a2 t360 t372 (!t387) (wrap64 (x8_1 + 1)) a1_1 a1_2 xu a1_4 a1_5 a1_6 l1_7 t350 t351 t352 t353 t354 t355 t356 t357 t362 t363 t364 t365 t366 t367 t368 t369)) else (kpt.j4 kj21 a2 t360 t372 false (wrap64 (x8_1 + 1)) a1_1 a1_2 xu a1_4 a1_5 a1_6 l1_7 t350 t351 t352 t353 t354 t355 t356 t357 t362 t363 t364 t365 t366 t367 t368 t369))) else (kpt.j4 kj21 a2 t360 t372 true (wrap64 (x8_1 + 1)) a1_1 a1_2 xu a1_4 a1_5 a1_6 l1_7 t350 t351 t352 t353 t354 t355 t356 t357 t362 t363 t364 t365 t366 t367 t368 t369)) = some r := H
               have A75 := Aside0.mk A750
               clear A750
               by_cases c76 : t386 = true
               ·subst c76
                have H1 : (if (t360 != t384) = true then (kpt.j4 kj21 a2 t360 t372 true (wrap64 (x8_1 + 1)) a1_1 a1_2 xu a1_4 a1_5 a1_6 l1_7 t350 t351 t352 t353 t354 t355 t356 t357 t362 t363 t364 t365 t366 t367 t368 t369) else (if t360 = true then ((deadeyeref07_Same.f t350 t351 t352 t353 t354 t355 t356 t357 t374 t375 t376 t377 t378 t379 t380 t381).bind fun t387 => (kpt.j4 kj21 a2 t360 t372 (!t387) (wrap64 (x8_1 + 1)) a1_1 a1_2 xu a1_4 a1_5 a1_6 l1_7 t350 t351 t352 t353 t354 t355 t356 t357 t362 t363 t364 t365 t366 t367 t368 t369)) else (kpt.j4 kj21 a2 t360 t372 false (wrap64 (x8_1 + 1)) a1_1 a1_2 xu a1_4 a1_5 a1_6 l1_7 t350 t351 t352 t353 t354 t355 t356 t357 t362 t363 t364 t365 t366 t367 t368 t369))) = some r := by rw [if_pos rfl] at H; exact H
                clear H
                have H := H1
                clear H1
                by_cases c77 : (t360 != t384) = true
                ·rw [if_pos c77] at H
                 have c77b0 : (t360 != t384) = true := c77
                 (try (have c77b1 : decide (t360 = t384) = false := by simpa using c77))
                 (try (have c77b2 : (t360 == t384) = false := by simpa using c77))
                 (try (have c77b3 : ¬ (t360 = t384) := by simpa using c77))
                 clear c77
                 (first | rw [c77b0] | (simp only [i64_w, i32_w]; rw [c77b0]) | skip)
                 have H' := Aside0.mk H
                 clear H
                 have hnb78 := NB349_320.out
                 have hnc78 := NB320_349.out
                 have hnb79 := NB349_361.out
                 have hnc79 := NB361_349.out
                 have hnb80 := NB349_373.out
                 have hnc80 := NB373_349.out
                 have hnb81 := NB349_385.out
                 have hnc81 := NB385_349.out
                 have hcz82_0 : w73.cell? ⟨g1, 0, none⟩ = some (.int .i64 t338) := (blk_cell B1.out 0).trans rfl
                 have hcz82_1 : w73.cell? ⟨g1, 1, none⟩ = some (.int .i64 t339) := (blk_cell B1.out 1).trans rfl
                 have hcz82_2 : w73.cell? ⟨g1, 2, none⟩ = some (.int .i64 t340) := (blk_cell B1.out 2).trans rfl
                 have hcz82_3 : w73.cell? ⟨g1, 3, none⟩ = some (.int .i64 t341) := (blk_cell B1.out 3).trans rfl
                 have hcz82_4 : w73.cell? ⟨g1, 4, none⟩ = some (.string t342) := (blk_cell B1.out 4).trans rfl
                 have hcz82_5 : w73.cell? ⟨g1, 5, none⟩ = some (.int .i64 t343) := (blk_cell B1.out 5).trans rfl
                 have hcz82_6 : w73.cell? ⟨g1, 6, none⟩ = some (.int .u32 t344) := (blk_cell B1.out 6).trans rfl
                 have hcz82_7 : w73.cell? ⟨g1, 7, none⟩ = some (.slice Ao48 t345.length co48) := (blk_cell B1.out 7).trans rfl
                 have hfz82_0 := blk_frozen B1.out 0
                 have hfz82_1 := blk_frozen B1.out 1
                 have hfz82_2 := blk_frozen B1.out 2
                 have hfz82_3 := blk_frozen B1.out 3
                 have hfz82_4 := blk_frozen B1.out 4
                 have hfz82_5 := blk_frozen B1.out 5
                 have hfz82_6 := blk_frozen B1.out 6
                 have hfz82_7 := blk_frozen B1.out 7
                 have hnb83 := NB320_361.out
                 have hnc83 := NB361_320.out
                 have hnb84 := NB320_373.out
                 have hnc84 := NB373_320.out
                 have hnb85 := NB320_385.out
                 have hnc85 := NB385_320.out
                 have hcz86_0 : w73.cell? ⟨g0, 0, none⟩ = some (.int .i64 (wrap64 (x8_1 + 1))) := (blk_cell B0.out 0).trans rfl
                 have hcz86_1 : w73.cell? ⟨g0, 1, none⟩ = some (.int .i64 a1_1) := (blk_cell B0.out 1).trans rfl
                 have hcz86_2 : w73.cell? ⟨g0, 2, none⟩ = some (.int .i64 a1_2) := (blk_cell B0.out 2).trans rfl
                 have hcz86_3 : w73.cell? ⟨g0, 3, none⟩ = some (.int .i64 xu) := (blk_cell B0.out 3).trans rfl
                 have hcz86_4 : w73.cell? ⟨g0, 4, none⟩ = some (.string a1_4) := (blk_cell B0.out 4).trans rfl
                 have hcz86_5 : w73.cell? ⟨g0, 5, none⟩ = some (.int .i64 a1_5) := (blk_cell B0.out 5).trans rfl
                 have hcz86_6 : w73.cell? ⟨g0, 6, none⟩ = some (.int .u32 a1_6) := (blk_cell B0.out 6).trans rfl
                 have hcz86_7 : w73.cell? ⟨g0, 7, none⟩ = some (.slice A1_7 l1_7.length c1_7) := (blk_cell B0.out 7).trans rfl
                 have hfz86_0 := blk_frozen B0.out 0
                 have hfz86_1 := blk_frozen B0.out 1
                 have hfz86_2 := blk_frozen B0.out 2
                 have hfz86_3 := blk_frozen B0.out 3
                 have hfz86_4 := blk_frozen B0.out 4
                 have hfz86_5 := blk_frozen B0.out 5
                 have hfz86_6 := blk_frozen B0.out 6
                 have hfz86_7 := blk_frozen B0.out 7
                 go_wp2_with (first | (go_at_call 25; (with_reducible refine (deadeyeref07_Same.calls t338 t339 t340 t341 t342 t343 t344 _ _ t345 (wrap64 (x8_1 + 1)) a1_1 a1_2 xu a1_4 a1_5 a1_6 _ _ l1_7 true _ ?side1 ?side2 ?side3 ?side4 A75.out).mono ?_); (case side1 => repeat (first | exact (Kd.V_reads' HO347.out).2.2 | (with_reducible refine Kd.C_alloc ?_ _) | (with_reducible refine Kd.C_drewN ?_ _) | (with_reducible refine Kd.C_drew ?_))); (case side2 => exact (Kd.V_reads' HO347.out).2.1); (case side3 => repeat (first | exact (Kd.V_reads' HOq.out).2.2 | (with_reducible refine Kd.C_alloc ?_ _) | (with_reducible refine Kd.C_drewN ?_ _) | (with_reducible refine Kd.C_drew ?_))); (case side4 => exact (Kd.V_reads' HOq.out).2.1); rintro e w87 ⟨rfl, hb⟩; have n0_ := Aside0.mk (Kd.N_below (nv HO_7.out) hb); have n1_ := Aside0.mk (Kd.V_below (vv HOq.out) hb); have n2_ := Aside0.mk (Kd.N_below (nv HO334.out) hb); have n3_ := Aside0.mk (Kd.N_below (nv HO337.out) hb); have n4_ := Aside0.mk (Kd.V_below (vv HO347.out) hb); have n5_ := Aside0.mk (Kd.V_below (vv HO359.out) hb); have n6_ := Aside0.mk (Kd.V_below (vv HO371.out) hb); have n7_ := Aside0.mk (Kd.V_below (vv HO383.out) hb); have n8_ := Aside0.mk (blk_below (kv B0.out) hb); have n9_ := Aside0.mk (blk_below (kv B1.out) hb); have n10_ := Aside0.mk (blk_below (kv B2.out) hb); have n11_ := Aside0.mk (blk_below (kv B3.out) hb); have n12_ := Aside0.mk (blk_below (kv B4.out) hb); have n13_ := Aside0.mk (below_step (by repeat (first | (with_reducible first | exact HB.out | apply below_alloc | apply pw_below_drewN | apply below_drew1 | refine below_set ?_ GE320.out | refine below_set ?_ GE349.out | refine below_set ?_ GE361.out | refine below_set ?_ GE373.out | refine below_set ?_ GE385.out) | exact HB.out)) hb); clear HO_7; clear HOq; clear HO334; clear HO337; clear HO347; clear HO359; clear HO371; clear HO383; clear B0; clear B1; clear B2; clear B3; clear B4; clear HB; have HO_7 := n0_; have HOq := n1_; have HO334 := n2_; have HO337 := n3_; have HO347 := n4_; have HO359 := n5_; have HO371 := n6_; have HO383 := n7_; have B0 := n8_; have B1 := n9_; have B2 := n10_; have B3 := n11_; have B4 := n12_; have HB := n13_; clear n0_ n1_ n2_ n3_ n4_ n5_ n6_ n7_ n8_ n9_ n10_ n11_ n12_ n13_; (try clear hb); (try clear hi)))
                 go_meet
                 case rel => exact ⟨_, (true), (by first | rfl | (simp; done) | (simp [*]; done)), H', ⟨by have := HK1.out; have := HJ9.out; have := HJ15.out; have := HJ21.out; first | omega | exact Nat.le_refl _⟩, ⟨by (with_reducible repeat (first | apply Kd.V_alloc | apply Kd.V_drewN | apply Kd.V_drew)); exact Kd.V_mono HOq.out (fun _ hk => ⟨hk.1, ⟨hk.2.2.2.2.1, ⟨hk.2.2.2.2.2.1, ⟨hk.2.2.2.2.2.2.1, ⟨hk.2.2.2.2.2.2.2.1, hk.2.2.2.2.2.2.2.2⟩⟩⟩⟩⟩)⟩, ⟨vv HO347.out⟩, ⟨by (with_reducible repeat (first | apply Kd.V_alloc | apply Kd.V_drewN | apply Kd.V_drew)); exact Kd.V_mono HO359.out (fun _ hk => ⟨hk.1, ⟨hk.2.2.2.1, ⟨hk.2.2.2.2.1, ⟨hk.2.2.2.2.2.1, ⟨hk.2.2.2.2.2.2.1, hk.2.2.2.2.2.2.2⟩⟩⟩⟩⟩)⟩, ⟨vv HO371.out⟩, ⟨vv HO383.out⟩, ⟨kv B0.out⟩, ⟨kv B1.out⟩, ⟨kv B2.out⟩, ⟨kv B3.out⟩, ⟨kv B4.out⟩, ⟨by repeat (first | (with_reducible first | exact HB.out | apply below_alloc | apply pw_below_drewN | apply below_drew1 | refine below_set ?_ GE320.out | refine below_set ?_ GE349.out | refine below_set ?_ GE361.out | refine below_set ?_ GE373.out | refine below_set ?_ GE385.out) | exact HB.out)⟩⟩
                ·rw [if_neg c77] at H
                 have c77b0 : (t360 != t384) = false := by simpa using c77
                 (try (have c77b1 : decide (t360 = t384) = true := by simpa using c77))
                 (try (have c77b2 : (t360 == t384) = true := by simpa using c77))
                 clear c77
                 (first | rw [c77b0] | (simp only [i64_w, i32_w]; rw [c77b0]) | skip)
                 by_cases c88 : t360 = true
                 ·subst c88
                  have H1 : ((deadeyeref07_Same.f t350 t351 t352 t353 t354 t355 t356 t357 t374 t375 t376 t377 t378 t379 t380 t381).bind fun t387 => (kpt.j4 kj21 a2 true t372 (!t387) (wrap64 (x8_1 + 1)) a1_1 a1_2 xu a1_4 a1_5 a1_6 l1_7 t350 t351 t352 t353 t354 t355 t356 t357 t362 t363 t364 t365 t366 t367 t368 t369)) = some r := by rw [if_pos rfl] at H; exact H
                  clear H
                  have H := H1
                  clear H1
                  replace H := Option.bind_eq_some_iff.mp H
                  obtain ⟨t387, A890, H⟩ := H
                  replace H : (kpt.j4 kj21 a2 true t372 (!t387) (wrap64 (x8_1 + 1)) a1_1 a1_2 xu a1_4 a1_5 a1_6 l1_7 t350 t351 t352 t353 t354 t355 t356 t357 t362 t363 t364 t365 t366 t367 t368 t369) = some r := H
                  have A89 := Aside0.mk A890
                  clear A890
                  have H' := Aside0.mk H
                  clear H
                  have hnb90 := NB349_320.out
                  have hnc90 := NB320_349.out
                  have hnb91 := NB349_361.out
                  have hnc91 := NB361_349.out
                  have hnb92 := NB349_373.out
                  have hnc92 := NB373_349.out
                  have hnb93 := NB349_385.out
                  have hnc93 := NB385_349.out
                  have hcz94_0 : w73.cell? ⟨g1, 0, none⟩ = some (.int .i64 t338) := (blk_cell B1.out 0).trans rfl
                  have hcz94_1 : w73.cell? ⟨g1, 1, none⟩ = some (.int .i64 t339) := (blk_cell B1.out 1).trans rfl
                  have hcz94_2 : w73.cell? ⟨g1, 2, none⟩ = some (.int .i64 t340) := (blk_cell B1.out 2).trans rfl
                  have hcz94_3 : w73.cell? ⟨g1, 3, none⟩ = some (.int .i64 t341) := (blk_cell B1.out 3).trans rfl
                  have hcz94_4 : w73.cell? ⟨g1, 4, none⟩ = some (.string t342) := (blk_cell B1.out 4).trans rfl
                  have hcz94_5 : w73.cell? ⟨g1, 5, none⟩ = some (.int .i64 t343) := (blk_cell B1.out 5).trans rfl
                  have hcz94_6 : w73.cell? ⟨g1, 6, none⟩ = some (.int .u32 t344) := (blk_cell B1.out 6).trans rfl
                  have hcz94_7 : w73.cell? ⟨g1, 7, none⟩ = some (.slice Ao48 t345.length co48) := (blk_cell B1.out 7).trans rfl
                  have hfz94_0 := blk_frozen B1.out 0
                  have hfz94_1 := blk_frozen B1.out 1
                  have hfz94_2 := blk_frozen B1.out 2
                  have hfz94_3 := blk_frozen B1.out 3
                  have hfz94_4 := blk_frozen B1.out 4
                  have hfz94_5 := blk_frozen B1.out 5
                  have hfz94_6 := blk_frozen B1.out 6
                  have hfz94_7 := blk_frozen B1.out 7
                  have hnb95 := NB320_361.out
                  have hnc95 := NB361_320.out
                  have hnb96 := NB320_373.out
                  have hnc96 := NB373_320.out
                  have hnb97 := NB320_385.out
                  have hnc97 := NB385_320.out
                  have hcz98_0 : w73.cell? ⟨g0, 0, none⟩ = some (.int .i64 (wrap64 (x8_1 + 1))) := (blk_cell B0.out 0).trans rfl
                  have hcz98_1 : w73.cell? ⟨g0, 1, none⟩ = some (.int .i64 a1_1) := (blk_cell B0.out 1).trans rfl
                  have hcz98_2 : w73.cell? ⟨g0, 2, none⟩ = some (.int .i64 a1_2) := (blk_cell B0.out 2).trans rfl
                  have hcz98_3 : w73.cell? ⟨g0, 3, none⟩ = some (.int .i64 xu) := (blk_cell B0.out 3).trans rfl
                  have hcz98_4 : w73.cell? ⟨g0, 4, none⟩ = some (.string a1_4) := (blk_cell B0.out 4).trans rfl
                  have hcz98_5 : w73.cell? ⟨g0, 5, none⟩ = some (.int .i64 a1_5) := (blk_cell B0.out 5).trans rfl
                  have hcz98_6 : w73.cell? ⟨g0, 6, none⟩ = some (.int .u32 a1_6) := (blk_cell B0.out 6).trans rfl
                  have hcz98_7 : w73.cell? ⟨g0, 7, none⟩ = some (.slice A1_7 l1_7.length c1_7) := (blk_cell B0.out 7).trans rfl
                  have hfz98_0 := blk_frozen B0.out 0
                  have hfz98_1 := blk_frozen B0.out 1
                  have hfz98_2 := blk_frozen B0.out 2
                  have hfz98_3 := blk_frozen B0.out 3
                  have hfz98_4 := blk_frozen B0.out 4
                  have hfz98_5 := blk_frozen B0.out 5
                  have hfz98_6 := blk_frozen B0.out 6
                  have hfz98_7 := blk_frozen B0.out 7
                  go_wp2_with (first | (go_at_call 25; (with_reducible refine (deadeyeref07_Same.calls t338 t339 t340 t341 t342 t343 t344 _ _ t345 (wrap64 (x8_1 + 1)) a1_1 a1_2 xu a1_4 a1_5 a1_6 _ _ l1_7 true _ ?side1 ?side2 ?side3 ?side4 A75.out).mono ?_); (case side1 => repeat (first | exact (Kd.V_reads' HO347.out).2.2 | (with_reducible refine Kd.C_alloc ?_ _) | (with_reducible refine Kd.C_drewN ?_ _) | (with_reducible refine Kd.C_drew ?_))); (case side2 => exact (Kd.V_reads' HO347.out).2.1); (case side3 => repeat (first | exact (Kd.V_reads' HOq.out).2.2 | (with_reducible refine Kd.C_alloc ?_ _) | (with_reducible refine Kd.C_drewN ?_ _) | (with_reducible refine Kd.C_drew ?_))); (case side4 => exact (Kd.V_reads' HOq.out).2.1); rintro e w99 ⟨rfl, hb⟩; have n0_ := Aside0.mk (Kd.N_below (nv HO_7.out) hb); have n1_ := Aside0.mk (Kd.V_below (vv HOq.out) hb); have n2_ := Aside0.mk (Kd.N_below (nv HO334.out) hb); have n3_ := Aside0.mk (Kd.N_below (nv HO337.out) hb); have n4_ := Aside0.mk (Kd.V_below (vv HO347.out) hb); have n5_ := Aside0.mk (Kd.V_below (vv HO359.out) hb); have n6_ := Aside0.mk (Kd.V_below (vv HO371.out) hb); have n7_ := Aside0.mk (Kd.V_below (vv HO383.out) hb); have n8_ := Aside0.mk (blk_below (kv B0.out) hb); have n9_ := Aside0.mk (blk_below (kv B1.out) hb); have n10_ := Aside0.mk (blk_below (kv B2.out) hb); have n11_ := Aside0.mk (blk_below (kv B3.out) hb); have n12_ := Aside0.mk (blk_below (kv B4.out) hb); have n13_ := Aside0.mk (below_step (by repeat (first | (with_reducible first | exact HB.out | apply below_alloc | apply pw_below_drewN | apply below_drew1 | refine below_set ?_ GE320.out | refine below_set ?_ GE349.out | refine below_set ?_ GE361.out | refine below_set ?_ GE373.out | refine below_set ?_ GE385.out) | exact HB.out)) hb); clear HO_7; clear HOq; clear HO334; clear HO337; clear HO347; clear HO359; clear HO371; clear HO383; clear B0; clear B1; clear B2; clear B3; clear B4; clear HB; have HO_7 := n0_; have HOq := n1_; have HO334 := n2_; have HO337 := n3_; have HO347 := n4_; have HO359 := n5_; have HO371 := n6_; have HO383 := n7_; have B0 := n8_; have B1 := n9_; have B2 := n10_; have B3 := n11_; have B4 := n12_; have HB := n13_; clear n0_ n1_ n2_ n3_ n4_ n5_ n6_ n7_ n8_ n9_ n10_ n11_ n12_ n13_; (try clear hb); have hnb100 := NB361_373.out; have hnc100 := NB373_361.out; have hnb101 := NB361_385.out; have hnc101 := NB385_361.out; have hcz102_0 : w99.cell? ⟨g2, 0, none⟩ = some (.int .i64 t350) := (blk_cell B2.out 0).trans rfl; have hcz102_1 : w99.cell? ⟨g2, 1, none⟩ = some (.int .i64 t351) := (blk_cell B2.out 1).trans rfl; have hcz102_2 : w99.cell? ⟨g2, 2, none⟩ = some (.int .i64 t352) := (blk_cell B2.out 2).trans rfl; have hcz102_3 : w99.cell? ⟨g2, 3, none⟩ = some (.int .i64 t353) := (blk_cell B2.out 3).trans rfl; have hcz102_4 : w99.cell? ⟨g2, 4, none⟩ = some (.string t354) := (blk_cell B2.out 4).trans rfl; have hcz102_5 : w99.cell? ⟨g2, 5, none⟩ = some (.int .i64 t355) := (blk_cell B2.out 5).trans rfl; have hcz102_6 : w99.cell? ⟨g2, 6, none⟩ = some (.int .u32 t356) := (blk_cell B2.out 6).trans rfl; have hcz102_7 : w99.cell? ⟨g2, 7, none⟩ = some (.slice Ao55 t357.length co55) := (blk_cell B2.out 7).trans rfl; have hfz102_0 := blk_frozen B2.out 0; have hfz102_1 := blk_frozen B2.out 1; have hfz102_2 := blk_frozen B2.out 2; have hfz102_3 := blk_frozen B2.out 3; have hfz102_4 := blk_frozen B2.out 4; have hfz102_5 := blk_frozen B2.out 5; have hfz102_6 := blk_frozen B2.out 6; have hfz102_7 := blk_frozen B2.out 7; have hnb103 := NB385_373.out; have hnc103 := NB373_385.out; have hcz104_0 : w99.cell? ⟨gb385, 0, none⟩ = some (.int .i64 t374) := (blk_cell B4.out 0).trans rfl; have hcz104_1 : w99.cell? ⟨gb385, 1, none⟩ = some (.int .i64 t375) := (blk_cell B4.out 1).trans rfl; have hcz104_2 : w99.cell? ⟨gb385, 2, none⟩ = some (.int .i64 t376) := (blk_cell B4.out 2).trans rfl; have hcz104_3 : w99.cell? ⟨gb385, 3, none⟩ = some (.int .i64 t377) := (blk_cell B4.out 3).trans rfl; have hcz104_4 : w99.cell? ⟨gb385, 4, none⟩ = some (.string t378) := (blk_cell B4.out 4).trans rfl; have hcz104_5 : w99.cell? ⟨gb385, 5, none⟩ = some (.int .i64 t379) := (blk_cell B4.out 5).trans rfl; have hcz104_6 : w99.cell? ⟨gb385, 6, none⟩ = some (.int .u32 t380) := (blk_cell B4.out 6).trans rfl; have hcz104_7 : w99.cell? ⟨gb385, 7, none⟩ = some (.slice Ao72 t381.length co72) := (blk_cell B4.out 7).trans rfl; have hfz104_0 := blk_frozen B4.out 0; have hfz104_1 := blk_frozen B4.out 1; have hfz104_2 := blk_frozen B4.out 2; have hfz104_3 := blk_frozen B4.out 3; have hfz104_4 := blk_frozen B4.out 4; have hfz104_5 := blk_frozen B4.out 5; have hfz104_6 := blk_frozen B4.out 6; have hfz104_7 := blk_frozen B4.out 7) | (go_at_call 25; (with_reducible refine (deadeyeref07_Same.calls t350 t351 t352 t353 t354 t355 t356 _ _ t357 t374 t375 t376 t377 t378 t379 t380 _ _ t381 t387 _ ?side1 ?side2 ?side3 ?side4 A89.out).mono ?_); (case side1 => repeat (first | exact (Kd.V_reads' HO359.out).2.2 | (with_reducible refine Kd.C_alloc ?_ _) | (with_reducible refine Kd.C_drewN ?_ _) | (with_reducible refine Kd.C_drew ?_))); (case side2 => exact (Kd.V_reads' HO359.out).2.1); (case side3 => repeat (first | exact (Kd.V_reads' HO383.out).2.2 | (with_reducible refine Kd.C_alloc ?_ _) | (with_reducible refine Kd.C_drewN ?_ _) | (with_reducible refine Kd.C_drew ?_))); (case side4 => exact (Kd.V_reads' HO383.out).2.1); rintro e w105 ⟨rfl, hb⟩; have n0_ := Aside0.mk (Kd.N_below (nv HO_7.out) hb); have n1_ := Aside0.mk (Kd.V_below (vv HOq.out) hb); have n2_ := Aside0.mk (Kd.N_below (nv HO334.out) hb); have n3_ := Aside0.mk (Kd.N_below (nv HO337.out) hb); have n4_ := Aside0.mk (Kd.V_below (vv HO347.out) hb); have n5_ := Aside0.mk (Kd.V_below (vv HO359.out) hb); have n6_ := Aside0.mk (Kd.V_below (vv HO371.out) hb); have n7_ := Aside0.mk (Kd.V_below (vv HO383.out) hb); have n8_ := Aside0.mk (blk_below (kv B0.out) hb); have n9_ := Aside0.mk (blk_below (kv B1.out) hb); have n10_ := Aside0.mk (blk_below (kv B2.out) hb); have n11_ := Aside0.mk (blk_below (kv B3.out) hb); have n12_ := Aside0.mk (blk_below (kv B4.out) hb); have n13_ := Aside0.mk (below_step (by repeat (first | (with_reducible first | exact HB.out | apply below_alloc | apply pw_below_drewN | apply below_drew1 | refine below_set ?_ GE320.out | refine below_set ?_ GE349.out | refine below_set ?_ GE361.out | refine below_set ?_ GE373.out | refine below_set ?_ GE385.out) | exact HB.out)) hb); clear HO_7; clear HOq; clear HO334; clear HO337; clear HO347; clear HO359; clear HO371; clear HO383; clear B0; clear B1; clear B2; clear B3; clear B4; clear HB; have HO_7 := n0_; have HOq := n1_; have HO334 := n2_; have HO337 := n3_; have HO347 := n4_; have HO359 := n5_; have HO371 := n6_; have HO383 := n7_; have B0 := n8_; have B1 := n9_; have B2 := n10_; have B3 := n11_; have B4 := n12_; have HB := n13_; clear n0_ n1_ n2_ n3_ n4_ n5_ n6_ n7_ n8_ n9_ n10_ n11_ n12_ n13_; (try clear hb); (try clear hi)))
                  go_meet
                  case rel => exact ⟨_, (!t387), (by first | rfl | (simp; done) | (simp [*]; done)), H', ⟨by have := HK1.out; have := HJ9.out; have := HJ15.out; have := HJ21.out; first | omega | exact Nat.le_refl _⟩, ⟨by (with_reducible repeat (first | apply Kd.V_alloc | apply Kd.V_drewN | apply Kd.V_drew)); exact Kd.V_mono HOq.out (fun _ hk => ⟨hk.1, ⟨hk.2.2.2.2.1, ⟨hk.2.2.2.2.2.1, ⟨hk.2.2.2.2.2.2.1, ⟨hk.2.2.2.2.2.2.2.1, hk.2.2.2.2.2.2.2.2⟩⟩⟩⟩⟩)⟩, ⟨vv HO347.out⟩, ⟨by (with_reducible repeat (first | apply Kd.V_alloc | apply Kd.V_drewN | apply Kd.V_drew)); exact Kd.V_mono HO359.out (fun _ hk => ⟨hk.1, ⟨hk.2.2.2.1, ⟨hk.2.2.2.2.1, ⟨hk.2.2.2.2.2.1, ⟨hk.2.2.2.2.2.2.1, hk.2.2.2.2.2.2.2⟩⟩⟩⟩⟩)⟩, ⟨vv HO371.out⟩, ⟨vv HO383.out⟩, ⟨kv B0.out⟩, ⟨kv B1.out⟩, ⟨kv B2.out⟩, ⟨kv B3.out⟩, ⟨kv B4.out⟩, ⟨by repeat (first | (with_reducible first | exact HB.out | apply below_alloc | apply pw_below_drewN | apply below_drew1 | refine below_set ?_ GE320.out | refine below_set ?_ GE349.out | refine below_set ?_ GE361.out | refine below_set ?_ GE373.out | refine below_set ?_ GE385.out) | exact HB.out)⟩⟩
                 ·replace c88 := Bool.eq_false_iff.mpr c88
                  subst c88
                  have H1 : (kpt.j4 kj21 a2 false t372 false (wrap64 (x8_1 + 1)) a1_1 a1_2 xu a1_4 a1_5 a1_6 l1_7 t350 t351 t352 t353 t354 t355 t356 t357 t362 t363 t364 t365 t366 t367 t368 t369) = some r := by rw [if_neg (show ¬ (false = true) by decide)] at H; exact H
                  clear H
                  have H := H1
                  clear H1
                  have H' := Aside0.mk H
                  clear H
                  have hnb106 := NB349_320.out
                  have hnc106 := NB320_349.out
                  have hnb107 := NB349_361.out
                  have hnc107 := NB361_349.out
                  have hnb108 := NB349_373.out
                  have hnc108 := NB373_349.out
                  have hnb109 := NB349_385.out
                  have hnc109 := NB385_349.out
                  have hcz110_0 : w73.cell? ⟨g1, 0, none⟩ = some (.int .i64 t338) := (blk_cell B1.out 0).trans rfl
                  have hcz110_1 : w73.cell? ⟨g1, 1, none⟩ = some (.int .i64 t339) := (blk_cell B1.out 1).trans rfl
                  have hcz110_2 : w73.cell? ⟨g1, 2, none⟩ = some (.int .i64 t340) := (blk_cell B1.out 2).trans rfl
                  have hcz110_3 : w73.cell? ⟨g1, 3, none⟩ = some (.int .i64 t341) := (blk_cell B1.out 3).trans rfl
                  have hcz110_4 : w73.cell? ⟨g1, 4, none⟩ = some (.string t342) := (blk_cell B1.out 4).trans rfl
                  have hcz110_5 : w73.cell? ⟨g1, 5, none⟩ = some (.int .i64 t343) := (blk_cell B1.out 5).trans rfl
                  have hcz110_6 : w73.cell? ⟨g1, 6, none⟩ = some (.int .u32 t344) := (blk_cell B1.out 6).trans rfl
                  have hcz110_7 : w73.cell? ⟨g1, 7, none⟩ = some (.slice Ao48 t345.length co48) := (blk_cell B1.out 7).trans rfl
                  have hfz110_0 := blk_frozen B1.out 0
                  have hfz110_1 := blk_frozen B1.out 1
                  have hfz110_2 := blk_frozen B1.out 2
                  have hfz110_3 := blk_frozen B1.out 3
                  have hfz110_4 := blk_frozen B1.out 4
                  have hfz110_5 := blk_frozen B1.out 5
                  have hfz110_6 := blk_frozen B1.out 6
                  have hfz110_7 := blk_frozen B1.out 7
                  have hnb111 := NB320_361.out
                  have hnc111 := NB361_320.out
                  have hnb112 := NB320_373.out
                  have hnc112 := NB373_320.out
                  have hnb113 := NB320_385.out
                  have hnc113 := NB385_320.out
                  have hcz114_0 : w73.cell? ⟨g0, 0, none⟩ = some (.int .i64 (wrap64 (x8_1 + 1))) := (blk_cell B0.out 0).trans rfl
                  have hcz114_1 : w73.cell? ⟨g0, 1, none⟩ = some (.int .i64 a1_1) := (blk_cell B0.out 1).trans rfl
                  have hcz114_2 : w73.cell? ⟨g0, 2, none⟩ = some (.int .i64 a1_2) := (blk_cell B0.out 2).trans rfl
                  have hcz114_3 : w73.cell? ⟨g0, 3, none⟩ = some (.int .i64 xu) := (blk_cell B0.out 3).trans rfl
                  have hcz114_4 : w73.cell? ⟨g0, 4, none⟩ = some (.string a1_4) := (blk_cell B0.out 4).trans rfl
                  have hcz114_5 : w73.cell? ⟨g0, 5, none⟩ = some (.int .i64 a1_5) := (blk_cell B0.out 5).trans rfl
                  have hcz114_6 : w73.cell? ⟨g0, 6, none⟩ = some (.int .u32 a1_6) := (blk_cell B0.out 6).trans rfl
                  have hcz114_7 : w73.cell? ⟨g0, 7, none⟩ = some (.slice A1_7 l1_7.length c1_7) := (blk_cell B0.out 7).trans rfl
                  have hfz114_0 := blk_frozen B0.out 0
                  have hfz114_1 := blk_frozen B0.out 1
                  have hfz114_2 := blk_frozen B0.out 2
                  have hfz114_3 := blk_frozen B0.out 3
                  have hfz114_4 := blk_frozen B0.out 4
                  have hfz114_5 := blk_frozen B0.out 5
                  have hfz114_6 := blk_frozen B0.out 6
                  have hfz114_7 := blk_frozen B0.out 7
                  go_wp2_with (first | (go_at_call 25; (with_reducible refine (deadeyeref07_Same.calls t338 t339 t340 t341 t342 t343 t344 _ _ t345 (wrap64 (x8_1 + 1)) a1_1 a1_2 xu a1_4 a1_5 a1_6 _ _ l1_7 true _ ?side1 ?side2 ?side3 ?side4 A75.out).mono ?_); (case side1 => repeat (first | exact (Kd.V_reads' HO347.out).2.2 | (with_reducible refine Kd.C_alloc ?_ _) | (with_reducible refine Kd.C_drewN ?_ _) | (with_reducible refine Kd.C_drew ?_))); (case side2 => exact (Kd.V_reads' HO347.out).2.1); (case side3 => repeat (first | exact (Kd.V_reads' HOq.out).2.2 | (with_reducible refine Kd.C_alloc ?_ _) | (with_reducible refine Kd.C_drewN ?_ _) | (with_reducible refine Kd.C_drew ?_))); (case side4 => exact (Kd.V_reads' HOq.out).2.1); rintro e w115 ⟨rfl, hb⟩; have n0_ := Aside0.mk (Kd.N_below (nv HO_7.out) hb); have n1_ := Aside0.mk (Kd.V_below (vv HOq.out) hb); have n2_ := Aside0.mk (Kd.N_below (nv HO334.out) hb); have n3_ := Aside0.mk (Kd.N_below (nv HO337.out) hb); have n4_ := Aside0.mk (Kd.V_below (vv HO347.out) hb); have n5_ := Aside0.mk (Kd.V_below (vv HO359.out) hb); have n6_ := Aside0.mk (Kd.V_below (vv HO371.out) hb); have n7_ := Aside0.mk (Kd.V_below (vv HO383.out) hb); have n8_ := Aside0.mk (blk_below (kv B0.out) hb); have n9_ := Aside0.mk (blk_below (kv B1.out) hb); have n10_ := Aside0.mk (blk_below (kv B2.out) hb); have n11_ := Aside0.mk (blk_below (kv B3.out) hb); have n12_ := Aside0.mk (blk_below (kv B4.out) hb); have n13_ := Aside0.mk (below_step (by repeat (first | (with_reducible first | exact HB.out | apply below_alloc | apply pw_below_drewN | apply below_drew1 | refine below_set ?_ GE320.out | refine below_set ?_ GE349.out | refine below_set ?_ GE361.out | refine below_set ?_ GE373.out | refine below_set ?_ GE385.out) | exact HB.out)) hb); clear HO_7; clear HOq; clear HO334; clear HO337; clear HO347; clear HO359; clear HO371; clear HO383; clear B0; clear B1; clear B2; clear B3; clear B4; clear HB; have HO_7 := n0_; have HOq := n1_; have HO334 := n2_; have HO337 := n3_; have HO347 := n4_; have HO359 := n5_; have HO371 := n6_; have HO383 := n7_; have B0 := n8_; have B1 := n9_; have B2 := n10_; have B3 := n11_; have B4 := n12_; have HB := n13_; clear n0_ n1_ n2_ n3_ n4_ n5_ n6_ n7_ n8_ n9_ n10_ n11_ n12_ n13_; (try clear hb); (try clear hi)))
                  go_meet
                  case rel => exact ⟨_, (false), (by first | rfl | (simp; done) | (simp [*]; done)), H', ⟨by have := HK1.out; have := HJ9.out; have := HJ15.out; have := HJ21.out; first | omega | exact Nat.le_refl _⟩, ⟨by (with_reducible repeat (first | apply Kd.V_alloc | apply Kd.V_drewN | apply Kd.V_drew)); exact Kd.V_mono HOq.out (fun _ hk => ⟨hk.1, ⟨hk.2.2.2.2.1, ⟨hk.2.2.2.2.2.1, ⟨hk.2.2.2.2.2.2.1, ⟨hk.2.2.2.2.2.2.2.1, hk.2.2.2.2.2.2.2.2⟩⟩⟩⟩⟩)⟩, ⟨vv HO347.out⟩, ⟨by (with_reducible repeat (first | apply Kd.V_alloc | apply Kd.V_drewN | apply Kd.V_drew)); exact Kd.V_mono HO359.out (fun _ hk => ⟨hk.1, ⟨hk.2.2.2.1, ⟨hk.2.2.2.2.1, ⟨hk.2.2.2.2.2.1, ⟨hk.2.2.2.2.2.2.1, hk.2.2.2.2.2.2.2⟩⟩⟩⟩⟩)⟩, ⟨vv HO371.out⟩, ⟨vv HO383.out⟩, ⟨kv B0.out⟩, ⟨kv B1.out⟩, ⟨kv B2.out⟩, ⟨kv B3.out⟩, ⟨kv B4.out⟩, ⟨by repeat (first | (with_reducible first | exact HB.out | apply below_alloc | apply pw_below_drewN | apply below_drew1 | refine below_set ?_ GE320.out | refine below_set ?_ GE349.out | refine below_set ?_ GE361.out | refine below_set ?_ GE373.out | refine below_set ?_ GE385.out) | exact HB.out)⟩⟩
               ·replace c76 := Bool.eq_false_iff.mpr c76
                subst c76
                have H1 : (kpt.j4 kj21 a2 t360 t372 true (wrap64 (x8_1 + 1)) a1_1 a1_2 xu a1_4 a1_5 a1_6 l1_7 t350 t351 t352 t353 t354 t355 t356 t357 t362 t363 t364 t365 t366 t367 t368 t369) = some r := by rw [if_neg (show ¬ (false = true) by decide)] at H; exact H
                clear H
                have H := H1
                clear H1
                have H' := Aside0.mk H
                clear H
                have hnb116 := NB349_320.out
                have hnc116 := NB320_349.out
                have hnb117 := NB349_361.out
                have hnc117 := NB361_349.out
                have hnb118 := NB349_373.out
                have hnc118 := NB373_349.out
                have hnb119 := NB349_385.out
                have hnc119 := NB385_349.out
                have hcz120_0 : w73.cell? ⟨g1, 0, none⟩ = some (.int .i64 t338) := (blk_cell B1.out 0).trans rfl
                have hcz120_1 : w73.cell? ⟨g1, 1, none⟩ = some (.int .i64 t339) := (blk_cell B1.out 1).trans rfl
                have hcz120_2 : w73.cell? ⟨g1, 2, none⟩ = some (.int .i64 t340) := (blk_cell B1.out 2).trans rfl
                have hcz120_3 : w73.cell? ⟨g1, 3, none⟩ = some (.int .i64 t341) := (blk_cell B1.out 3).trans rfl
                have hcz120_4 : w73.cell? ⟨g1, 4, none⟩ = some (.string t342) := (blk_cell B1.out 4).trans rfl
                have hcz120_5 : w73.cell? ⟨g1, 5, none⟩ = some (.int .i64 t343) := (blk_cell B1.out 5).trans rfl
                have hcz120_6 : w73.cell? ⟨g1, 6, none⟩ = some (.int .u32 t344) := (blk_cell B1.out 6).trans rfl
                have hcz120_7 : w73.cell? ⟨g1, 7, none⟩ = some (.slice Ao48 t345.length co48) := (blk_cell B1.out 7).trans rfl
                have hfz120_0 := blk_frozen B1.out 0
                have hfz120_1 := blk_frozen B1.out 1
                have hfz120_2 := blk_frozen B1.out 2
                have hfz120_3 := blk_frozen B1.out 3
                have hfz120_4 := blk_frozen B1.out 4
                have hfz120_5 := blk_frozen B1.out 5
                have hfz120_6 := blk_frozen B1.out 6
                have hfz120_7 := blk_frozen B1.out 7
                have hnb121 := NB320_361.out
                have hnc121 := NB361_320.out
                have hnb122 := NB320_373.out
                have hnc122 := NB373_320.out
                have hnb123 := NB320_385.out
                have hnc123 := NB385_320.out
                have hcz124_0 : w73.cell? ⟨g0, 0, none⟩ = some (.int .i64 (wrap64 (x8_1 + 1))) := (blk_cell B0.out 0).trans rfl
                have hcz124_1 : w73.cell? ⟨g0, 1, none⟩ = some (.int .i64 a1_1) := (blk_cell B0.out 1).trans rfl
                have hcz124_2 : w73.cell? ⟨g0, 2, none⟩ = some (.int .i64 a1_2) := (blk_cell B0.out 2).trans rfl
                have hcz124_3 : w73.cell? ⟨g0, 3, none⟩ = some (.int .i64 xu) := (blk_cell B0.out 3).trans rfl
                have hcz124_4 : w73.cell? ⟨g0, 4, none⟩ = some (.string a1_4) := (blk_cell B0.out 4).trans rfl
                have hcz124_5 : w73.cell? ⟨g0, 5, none⟩ = some (.int .i64 a1_5) := (blk_cell B0.out 5).trans rfl
                have hcz124_6 : w73.cell? ⟨g0, 6, none⟩ = some (.int .u32 a1_6) := (blk_cell B0.out 6).trans rfl
                have hcz124_7 : w73.cell? ⟨g0, 7, none⟩ = some (.slice A1_7 l1_7.length c1_7) := (blk_cell B0.out 7).trans rfl
                have hfz124_0 := blk_frozen B0.out 0
                have hfz124_1 := blk_frozen B0.out 1
                have hfz124_2 := blk_frozen B0.out 2
                have hfz124_3 := blk_frozen B0.out 3
                have hfz124_4 := blk_frozen B0.out 4
                have hfz124_5 := blk_frozen B0.out 5
                have hfz124_6 := blk_frozen B0.out 6
                have hfz124_7 := blk_frozen B0.out 7
                go_wp2_with (first | (go_at_call 25; (with_reducible refine (deadeyeref07_Same.calls t338 t339 t340 t341 t342 t343 t344 _ _ t345 (wrap64 (x8_1 + 1)) a1_1 a1_2 xu a1_4 a1_5 a1_6 _ _ l1_7 false _ ?side1 ?side2 ?side3 ?side4 A75.out).mono ?_); (case side1 => repeat (first | exact (Kd.V_reads' HO347.out).2.2 | (with_reducible refine Kd.C_alloc ?_ _) | (with_reducible refine Kd.C_drewN ?_ _) | (with_reducible refine Kd.C_drew ?_))); (case side2 => exact (Kd.V_reads' HO347.out).2.1); (case side3 => repeat (first | exact (Kd.V_reads' HOq.out).2.2 | (with_reducible refine Kd.C_alloc ?_ _) | (with_reducible refine Kd.C_drewN ?_ _) | (with_reducible refine Kd.C_drew ?_))); (case side4 => exact (Kd.V_reads' HOq.out).2.1); rintro e w125 ⟨rfl, hb⟩; have n0_ := Aside0.mk (Kd.N_below (nv HO_7.out) hb); have n1_ := Aside0.mk (Kd.V_below (vv HOq.out) hb); have n2_ := Aside0.mk (Kd.N_below (nv HO334.out) hb); have n3_ := Aside0.mk (Kd.N_below (nv HO337.out) hb); have n4_ := Aside0.mk (Kd.V_below (vv HO347.out) hb); have n5_ := Aside0.mk (Kd.V_below (vv HO359.out) hb); have n6_ := Aside0.mk (Kd.V_below (vv HO371.out) hb); have n7_ := Aside0.mk (Kd.V_below (vv HO383.out) hb); have n8_ := Aside0.mk (blk_below (kv B0.out) hb); have n9_ := Aside0.mk (blk_below (kv B1.out) hb); have n10_ := Aside0.mk (blk_below (kv B2.out) hb); have n11_ := Aside0.mk (blk_below (kv B3.out) hb); have n12_ := Aside0.mk (blk_below (kv B4.out) hb); have n13_ := Aside0.mk (below_step (by repeat (first | (with_reducible first | exact HB.out | apply below_alloc | apply pw_below_drewN | apply below_drew1 | refine below_set ?_ GE320.out | refine below_set ?_ GE349.out | refine below_set ?_ GE361.out | refine below_set ?_ GE373.out | refine below_set ?_ GE385.out) | exact HB.out)) hb); clear HO_7; clear HOq; clear HO334; clear HO337; clear HO347; clear HO359; clear HO371; clear HO383; clear B0; clear B1; clear B2; clear B3; clear B4; clear HB; have HO_7 := n0_; have HOq := n1_; have HO334 := n2_; have HO337 := n3_; have HO347 := n4_; have HO359 := n5_; have HO371 := n6_; have HO383 := n7_; have B0 := n8_; have B1 := n9_; have B2 := n10_; have B3 := n11_; have B4 := n12_; have HB := n13_; clear n0_ n1_ n2_ n3_ n4_ n5_ n6_ n7_ n8_ n9_ n10_ n11_ n12_ n13_; (try clear hb); (try clear hi)))
                go_meet
                case rel => exact ⟨_, (true), (by first | rfl | (simp; done) | (simp [*]; done)), H', ⟨by have := HK1.out; have := HJ9.out; have := HJ15.out; have := HJ21.out; first | omega | exact Nat.le_refl _⟩, ⟨by (with_reducible repeat (first | apply Kd.V_alloc | apply Kd.V_drewN | apply Kd.V_drew)); exact Kd.V_mono HOq.out (fun _ hk => ⟨hk.1, ⟨hk.2.2.2.2.1, ⟨hk.2.2.2.2.2.1, ⟨hk.2.2.2.2.2.2.1, ⟨hk.2.2.2.2.2.2.2.1, hk.2.2.2.2.2.2.2.2⟩⟩⟩⟩⟩)⟩, ⟨vv HO347.out⟩, ⟨by (with_reducible repeat (first | apply Kd.V_alloc | apply Kd.V_drewN | apply Kd.V_drew)); exact Kd.V_mono HO359.out (fun _ hk => ⟨hk.1, ⟨hk.2.2.2.1, ⟨hk.2.2.2.2.1, ⟨hk.2.2.2.2.2.1, ⟨hk.2.2.2.2.2.2.1, hk.2.2.2.2.2.2.2⟩⟩⟩⟩⟩)⟩, ⟨vv HO371.out⟩, ⟨vv HO383.out⟩, ⟨kv B0.out⟩, ⟨kv B1.out⟩, ⟨kv B2.out⟩, ⟨kv B3.out⟩, ⟨kv B4.out⟩, ⟨by repeat (first | (with_reducible first | exact HB.out | apply below_alloc | apply pw_below_drewN | apply below_drew1 | refine below_set ?_ GE320.out | refine below_set ?_ GE349.out | refine below_set ?_ GE361.out | refine below_set ?_ GE373.out | refine below_set ?_ GE385.out) | exact HB.out)⟩⟩
              ·replace c74 := Bool.eq_false_iff.mpr c74
               subst c74
               have H1 : (kpt.j4 kj21 a2 t360 t372 true (wrap64 (x8_1 + 1)) a1_1 a1_2 xu a1_4 a1_5 a1_6 l1_7 t350 t351 t352 t353 t354 t355 t356 t357 t362 t363 t364 t365 t366 t367 t368 t369) = some r := by rw [if_neg (show ¬ (false = true) by decide)] at H; exact H
               clear H
               have H := H1
               clear H1
               have H' := Aside0.mk H
               clear H
               go_wp2
               go_meet
               case rel => exact ⟨_, (true), (by first | rfl | (simp; done) | (simp [*]; done)), H', ⟨by have := HK1.out; have := HJ9.out; have := HJ15.out; have := HJ21.out; first | omega | exact Nat.le_refl _⟩, ⟨by (with_reducible repeat (first | apply Kd.V_alloc | apply Kd.V_drewN | apply Kd.V_drew)); exact Kd.V_mono HOq.out (fun _ hk => ⟨hk.1, ⟨hk.2.2.2.2.1, ⟨hk.2.2.2.2.2.1, ⟨hk.2.2.2.2.2.2.1, ⟨hk.2.2.2.2.2.2.2.1, hk.2.2.2.2.2.2.2.2⟩⟩⟩⟩⟩)⟩, ⟨vv HO347.out⟩, ⟨by (with_reducible repeat (first | apply Kd.V_alloc | apply Kd.V_drewN | apply Kd.V_drew)); exact Kd.V_mono HO359.out (fun _ hk => ⟨hk.1, ⟨hk.2.2.2.1, ⟨hk.2.2.2.2.1, ⟨hk.2.2.2.2.2.1, ⟨hk.2.2.2.2.2.2.1, hk.2.2.2.2.2.2.2⟩⟩⟩⟩⟩)⟩, ⟨vv HO371.out⟩, ⟨vv HO383.out⟩, ⟨kv B0.out⟩, ⟨kv B1.out⟩, ⟨kv B2.out⟩, ⟨kv B3.out⟩, ⟨kv B4.out⟩, ⟨by repeat (first | (with_reducible first | exact HB.out | apply below_alloc | apply pw_below_drewN | apply below_drew1 | refine below_set ?_ GE320.out | refine below_set ?_ GE349.out | refine below_set ?_ GE361.out | refine below_set ?_ GE373.out | refine below_set ?_ GE385.out) | exact HB.out)⟩⟩
             case rest =>
              clear HC32
              try clear c1
              try clear c2
              try clear p2
              try clear c4
              try clear c5
              try clear c6
              try clear p6
              try clear c7
              try clear c8
              try clear c9
              try clear c10
              try clear c11
              try clear c12
              try clear c22
              try clear c26
              try clear c27
              try clear c46
              try clear c52
              try clear c53
              try clear c59
              try clear c60
              try clear c61
              try clear p64
              try clear c67
              try clear c68
              try clear c69
              try clear c70
              try clear c74
              try clear c76
              try clear c77
              try clear c77b0
              try clear c77b1
              try clear c77b2
              try clear c78
              try clear c79
              try clear c80
              try clear c81
              try clear c83
              try clear c84
              try clear c85
              try clear c88
              try clear c90
              try clear c91
              try clear c92
              try clear c93
              try clear c95
              try clear c96
              try clear c97
              try clear c100
              try clear c101
              try clear c103
              try clear c106
              try clear c107
              try clear c108
              try clear c109
              try clear c111
              try clear c112
              try clear c113
              try clear c116
              try clear c117
              try clear c118
              try clear c119
              try clear c121
              try clear c122
              try clear c123
              try clear hcz102_0
              try clear hcz102_1
              try clear hcz102_2
              try clear hcz102_3
              try clear hcz102_4
              try clear hcz102_5
              try clear hcz102_6
              try clear hcz102_7
              try clear hcz104_0
              try clear hcz104_1
              try clear hcz104_2
              try clear hcz104_3
              try clear hcz104_4
              try clear hcz104_5
              try clear hcz104_6
              try clear hcz104_7
              try clear hcz110_0
              try clear hcz110_1
              try clear hcz110_2
              try clear hcz110_3
              try clear hcz110_4
              try clear hcz110_5
              try clear hcz110_6
              try clear hcz110_7
              try clear hcz114_0
              try clear hcz114_1
              try clear hcz114_2
              try clear hcz114_3
              try clear hcz114_4
              try clear hcz114_5
              try clear hcz114_6
              try clear hcz114_7
              try clear hcz120_0
              try clear hcz120_1
              try clear hcz120_2
              try clear hcz120_3
              try clear hcz120_4
              try clear hcz120_5
              try clear hcz120_6
              try clear hcz120_7
              try clear hcz124_0
              try clear hcz124_1
              try clear hcz124_2
              try clear hcz124_3
              try clear hcz124_4
              try clear hcz124_5
              try clear hcz124_6
              try clear hcz124_7
              try clear hcz42_0
              try clear hcz42_1
              try clear hcz42_2
              try clear hcz42_3
              try clear hcz42_4
              try clear hcz42_5
              try clear hcz42_6
              try clear hcz42_7
              try clear hcz47_0
              try clear hcz47_1
              try clear hcz47_2
              try clear hcz47_3
              try clear hcz47_4
              try clear hcz47_5
              try clear hcz47_6
              try clear hcz47_7
              try clear hcz54_0
              try clear hcz54_1
              try clear hcz54_2
              try clear hcz54_3
              try clear hcz54_4
              try clear hcz54_5
              try clear hcz54_6
              try clear hcz54_7
              try clear hcz62_0
              try clear hcz62_1
              try clear hcz62_2
              try clear hcz62_3
              try clear hcz62_4
              try clear hcz62_5
              try clear hcz62_6
              try clear hcz62_7
              try clear hcz71_0
              try clear hcz71_1
              try clear hcz71_2
              try clear hcz71_3
              try clear hcz71_4
              try clear hcz71_5
              try clear hcz71_6
              try clear hcz71_7
              try clear hcz82_0
              try clear hcz82_1
              try clear hcz82_2
              try clear hcz82_3
              try clear hcz82_4
              try clear hcz82_5
              try clear hcz82_6
              try clear hcz82_7
              try clear hcz86_0
              try clear hcz86_1
              try clear hcz86_2
              try clear hcz86_3
              try clear hcz86_4
              try clear hcz86_5
              try clear hcz86_6
              try clear hcz86_7
              try clear hcz94_0
              try clear hcz94_1
              try clear hcz94_2
              try clear hcz94_3
              try clear hcz94_4
              try clear hcz94_5
              try clear hcz94_6
              try clear hcz94_7
              try clear hcz98_0
              try clear hcz98_1
              try clear hcz98_2
              try clear hcz98_3
              try clear hcz98_4
              try clear hcz98_5
              try clear hcz98_6
              try clear hcz98_7
              try clear hfz102_0
              try clear hfz102_1
              try clear hfz102_2
              try clear hfz102_3
              try clear hfz102_4
              try clear hfz102_5
              try clear hfz102_6
              try clear hfz102_7
              try clear hfz104_0
              try clear hfz104_1
              try clear hfz104_2
              try clear hfz104_3
              try clear hfz104_4
              try clear hfz104_5
              try clear hfz104_6
              try clear hfz104_7
              try clear hfz110_0
              try clear hfz110_1
              try clear hfz110_2
              try clear hfz110_3
              try clear hfz110_4
              try clear hfz110_5
              try clear hfz110_6
              try clear hfz110_7
              try clear hfz114_0
              try clear hfz114_1
              try clear hfz114_2
              try clear hfz114_3
              try clear hfz114_4
              try clear hfz114_5
              try clear hfz114_6
              try clear hfz114_7
              try clear hfz120_0
              try clear hfz120_1
              try clear hfz120_2
              try clear hfz120_3
              try clear hfz120_4
              try clear hfz120_5
              try clear hfz120_6
              try clear hfz120_7
              try clear hfz124_0
              try clear hfz124_1
              try clear hfz124_2
              try clear hfz124_3
              try clear hfz124_4
              try clear hfz124_5
              try clear hfz124_6
              try clear hfz124_7
              try clear hfz42_0
              try clear hfz42_1
              try clear hfz42_2
              try clear hfz42_3
              try clear hfz42_4
              try clear hfz42_5
              try clear hfz42_6
              try clear hfz42_7
              try clear hfz47_0
              try clear hfz47_1
              try clear hfz47_2
              try clear hfz47_3
              try clear hfz47_4
              try clear hfz47_5
              try clear hfz47_6
              try clear hfz47_7
              try clear hfz54_0
              try clear hfz54_1
              try clear hfz54_2
              try clear hfz54_3
              try clear hfz54_4
              try clear hfz54_5
              try clear hfz54_6
              try clear hfz54_7
              try clear hfz62_0
              try clear hfz62_1
              try clear hfz62_2
              try clear hfz62_3
              try clear hfz62_4
              try clear hfz62_5
              try clear hfz62_6
              try clear hfz62_7
              try clear hfz71_0
              try clear hfz71_1
              try clear hfz71_2
              try clear hfz71_3
              try clear hfz71_4
              try clear hfz71_5
              try clear hfz71_6
              try clear hfz71_7
              try clear hfz82_0
              try clear hfz82_1
              try clear hfz82_2
              try clear hfz82_3
              try clear hfz82_4
              try clear hfz82_5
              try clear hfz82_6
              try clear hfz82_7
              try clear hfz86_0
              try clear hfz86_1
              try clear hfz86_2
              try clear hfz86_3
              try clear hfz86_4
              try clear hfz86_5
              try clear hfz86_6
              try clear hfz86_7
              try clear hfz94_0
              try clear hfz94_1
              try clear hfz94_2
              try clear hfz94_3
              try clear hfz94_4
              try clear hfz94_5
              try clear hfz94_6
              try clear hfz94_7
              try clear hfz98_0
              try clear hfz98_1
              try clear hfz98_2
              try clear hfz98_3
              try clear hfz98_4
              try clear hfz98_5
              try clear hfz98_6
              try clear hfz98_7
              obtain ⟨kq, x109_31, rfl, HA, HJ31, HOq, HO_350007, HO_362007, HO_374007, HO_386007, B0, B1, B2, B3, B4, HB⟩ := hcut
              cases kq with
              | zero => exact absurd HA.out (by simp [kpt.j4])
              | succ kj31 =>
               have H := HA.out
               clear HA
               simp only [kpt.j4] at H
               by_cases c126 : x109_31 = true
               ·subst c126
                have H1 : (some false) = some r := by rw [if_pos rfl] at H; exact H
                clear H
                have H := H1
                clear H1
                obtain rfl := Option.some.inj H
                go_wp2
                go_ret
                exact ⟨by first | rfl | (simp [errW_none, errW_some] <;> rfl) | (simp [*, errW_none, errW_some] <;> rfl), by repeat (first | (with_reducible first | exact HB.out | apply below_alloc | apply pw_below_drewN | apply below_drew1 | refine below_set ?_ GE320.out | refine below_set ?_ GE349.out | refine below_set ?_ GE361.out | refine below_set ?_ GE373.out | refine below_set ?_ GE385.out) | exact HB.out)⟩
               ·replace c126 := Bool.eq_false_iff.mpr c126
                subst c126
                have H1 : ((deadeyelaw10_awake.f kj31).bind fun t388 => (if t388 = true then (if a2.toList = a1_4.toList then (some true) else (if (t360 == t372) = true then (if t360 = true then ((deadeyeref07_Same.f t350 t351 t352 t353 t354 t355 t356 t357 t362 t363 t364 t365 t366 t367 t368 t369).bind fun t389 => (some t389)) else (some true)) else (some false))) else (some false))) = some r := by rw [if_neg (show ¬ (false = true) by decide)] at H; exact H
                clear H
                have H := H1
                clear H1
                replace H := Option.bind_eq_some_iff.mp H
                obtain ⟨t388, A1270, H⟩ := H
                replace H : (if t388 = true then (if a2.toList = a1_4.toList then (some true) else (if (t360 == t372) = true then (if t360 = true then ((deadeyeref07_Same.f t350 t351 t352 t353 t354 t355 t356 t357 t362 t363 t364 t365 t366 t367 t368 t369).bind fun t389 => (some t389)) else (some true)) else (some false))) else (some false)) = some r := H
                have A127 := Aside0.mk A1270
                clear A1270
                by_cases c128 : t388 = true
                ·subst c128
                 have H1 : (if a2.toList = a1_4.toList then (some true) else (if (t360 == t372) = true then (if t360 = true then ((deadeyeref07_Same.f t350 t351 t352 t353 t354 t355 t356 t357 t362 t363 t364 t365 t366 t367 t368 t369).bind fun t389 => (some t389)) else (some true)) else (some false))) = some r := by rw [if_pos rfl] at H; exact H
                 clear H
                 have H := H1
                 clear H1
                 by_cases c129 : a2.toList = a1_4.toList
                 ·rw [if_pos c129] at H
                  have c129b0 : (a2.toList == a1_4.toList) = true := beq_iff_eq.mpr c129
                  have c129b1 : (a2.toList != a1_4.toList) = false := bne_eq_false_iff_eq.mpr c129
                  clear c129
                  obtain rfl := Option.some.inj H
                  go_wp2_with (first | ((with_reducible refine gate_callee (f := 24) rfl ?_); refine goesL_ (some 110) rfl rfl Try.func24 (by kernel_rfl) rfl #[] rfl (by (try simp only [List.map_toArray, List.map_cons, List.map_nil]); first | done | rfl | (simp only [List.length_drop, List.length_take]; rfl)) ?_; (with_reducible refine (deadeyelaw10_awake.calls kj31  true _ A127.out).mono ?_); rintro e w130 ⟨rfl, hb⟩; refine ⟨_, rfl, ?_⟩; have n0_ := Aside0.mk (Kd.V_below (vv HOq.out) hb); have n1_ := Aside0.mk (Kd.V_below (vv HO_350007.out) hb); have n2_ := Aside0.mk (Kd.V_below (vv HO_362007.out) hb); have n3_ := Aside0.mk (Kd.V_below (vv HO_374007.out) hb); have n4_ := Aside0.mk (Kd.V_below (vv HO_386007.out) hb); have n5_ := Aside0.mk (blk_below (kv B0.out) hb); have n6_ := Aside0.mk (blk_below (kv B1.out) hb); have n7_ := Aside0.mk (blk_below (kv B2.out) hb); have n8_ := Aside0.mk (blk_below (kv B3.out) hb); have n9_ := Aside0.mk (blk_below (kv B4.out) hb); have n10_ := Aside0.mk (below_step (by repeat (first | (with_reducible first | exact HB.out | apply below_alloc | apply pw_below_drewN | apply below_drew1 | refine below_set ?_ GE320.out | refine below_set ?_ GE349.out | refine below_set ?_ GE361.out | refine below_set ?_ GE373.out | refine below_set ?_ GE385.out) | exact HB.out)) hb); clear HOq; clear HO_350007; clear HO_362007; clear HO_374007; clear HO_386007; clear B0; clear B1; clear B2; clear B3; clear B4; clear HB; have HOq := n0_; have HO_350007 := n1_; have HO_362007 := n2_; have HO_374007 := n3_; have HO_386007 := n4_; have B0 := n5_; have B1 := n6_; have B2 := n7_; have B3 := n8_; have B4 := n9_; have HB := n10_; clear n0_ n1_ n2_ n3_ n4_ n5_ n6_ n7_ n8_ n9_ n10_; (try clear hb); have hnb131 := NB320_349.out; have hnc131 := NB349_320.out; have hnb132 := NB320_361.out; have hnc132 := NB361_320.out; have hnb133 := NB320_373.out; have hnc133 := NB373_320.out; have hnb134 := NB320_385.out; have hnc134 := NB385_320.out; have hcz135_0 : w130.cell? ⟨g0, 0, none⟩ = some (.int .i64 (wrap64 (x8_1 + 1))) := (blk_cell B0.out 0).trans rfl; have hcz135_1 : w130.cell? ⟨g0, 1, none⟩ = some (.int .i64 a1_1) := (blk_cell B0.out 1).trans rfl; have hcz135_2 : w130.cell? ⟨g0, 2, none⟩ = some (.int .i64 a1_2) := (blk_cell B0.out 2).trans rfl; have hcz135_3 : w130.cell? ⟨g0, 3, none⟩ = some (.int .i64 xu) := (blk_cell B0.out 3).trans rfl; have hcz135_4 : w130.cell? ⟨g0, 4, none⟩ = some (.string a1_4) := (blk_cell B0.out 4).trans rfl; have hcz135_5 : w130.cell? ⟨g0, 5, none⟩ = some (.int .i64 a1_5) := (blk_cell B0.out 5).trans rfl; have hcz135_6 : w130.cell? ⟨g0, 6, none⟩ = some (.int .u32 a1_6) := (blk_cell B0.out 6).trans rfl; have hcz135_7 : w130.cell? ⟨g0, 7, none⟩ = some (.slice A1_7 l1_7.length c1_7) := (blk_cell B0.out 7).trans rfl; have hfz135_0 := blk_frozen B0.out 0; have hfz135_1 := blk_frozen B0.out 1; have hfz135_2 := blk_frozen B0.out 2; have hfz135_3 := blk_frozen B0.out 3; have hfz135_4 := blk_frozen B0.out 4; have hfz135_5 := blk_frozen B0.out 5; have hfz135_6 := blk_frozen B0.out 6; have hfz135_7 := blk_frozen B0.out 7))
                  go_ret
                  exact ⟨by first | rfl | (simp [errW_none, errW_some] <;> rfl) | (simp [*, errW_none, errW_some] <;> rfl), by repeat (first | (with_reducible first | exact HB.out | apply below_alloc | apply pw_below_drewN | apply below_drew1 | refine below_set ?_ GE320.out | refine below_set ?_ GE349.out | refine below_set ?_ GE361.out | refine below_set ?_ GE373.out | refine below_set ?_ GE385.out) | exact HB.out)⟩
                 ·rw [if_neg c129] at H
                  have c129b0 : (a2.toList == a1_4.toList) = false := beq_eq_false_iff_ne.mpr c129
                  have c129b1 : (a2.toList != a1_4.toList) = true := bne_iff_ne.mpr c129
                  by_cases c136 : (t360 == t372) = true
                  ·rw [if_pos c136] at H
                   have c136b0 : (t360 == t372) = true := c136
                   (try (have c136b1 : decide (t360 = t372) = true := by simpa using c136))
                   (try (have c136b2 : (t360 == t372) = true := by simpa using c136))
                   clear c136
                   by_cases c137 : t360 = true
                   ·subst c137
                    have H1 : ((deadeyeref07_Same.f t350 t351 t352 t353 t354 t355 t356 t357 t362 t363 t364 t365 t366 t367 t368 t369).bind fun t389 => (some t389)) = some r := by rw [if_pos rfl] at H; exact H
                    clear H
                    have H := H1
                    clear H1
                    replace H := Option.bind_eq_some_iff.mp H
                    obtain ⟨t389, A1380, H⟩ := H
                    replace H : (some t389) = some r := H
                    have A138 := Aside0.mk A1380
                    clear A1380
                    obtain rfl := Option.some.inj H
                    go_wp2_with (first | ((with_reducible refine gate_callee (f := 24) rfl ?_); refine goesL_ (some 110) rfl rfl Try.func24 (by kernel_rfl) rfl #[] rfl (by (try simp only [List.map_toArray, List.map_cons, List.map_nil]); first | done | rfl | (simp only [List.length_drop, List.length_take]; rfl)) ?_; (with_reducible refine (deadeyelaw10_awake.calls kj31  true _ A127.out).mono ?_); rintro e w139 ⟨rfl, hb⟩; refine ⟨_, rfl, ?_⟩; have n0_ := Aside0.mk (Kd.V_below (vv HOq.out) hb); have n1_ := Aside0.mk (Kd.V_below (vv HO_350007.out) hb); have n2_ := Aside0.mk (Kd.V_below (vv HO_362007.out) hb); have n3_ := Aside0.mk (Kd.V_below (vv HO_374007.out) hb); have n4_ := Aside0.mk (Kd.V_below (vv HO_386007.out) hb); have n5_ := Aside0.mk (blk_below (kv B0.out) hb); have n6_ := Aside0.mk (blk_below (kv B1.out) hb); have n7_ := Aside0.mk (blk_below (kv B2.out) hb); have n8_ := Aside0.mk (blk_below (kv B3.out) hb); have n9_ := Aside0.mk (blk_below (kv B4.out) hb); have n10_ := Aside0.mk (below_step (by repeat (first | (with_reducible first | exact HB.out | apply below_alloc | apply pw_below_drewN | apply below_drew1 | refine below_set ?_ GE320.out | refine below_set ?_ GE349.out | refine below_set ?_ GE361.out | refine below_set ?_ GE373.out | refine below_set ?_ GE385.out) | exact HB.out)) hb); clear HOq; clear HO_350007; clear HO_362007; clear HO_374007; clear HO_386007; clear B0; clear B1; clear B2; clear B3; clear B4; clear HB; have HOq := n0_; have HO_350007 := n1_; have HO_362007 := n2_; have HO_374007 := n3_; have HO_386007 := n4_; have B0 := n5_; have B1 := n6_; have B2 := n7_; have B3 := n8_; have B4 := n9_; have HB := n10_; clear n0_ n1_ n2_ n3_ n4_ n5_ n6_ n7_ n8_ n9_ n10_; (try clear hb); have hnb140 := NB320_349.out; have hnc140 := NB349_320.out; have hnb141 := NB320_361.out; have hnc141 := NB361_320.out; have hnb142 := NB320_373.out; have hnc142 := NB373_320.out; have hnb143 := NB320_385.out; have hnc143 := NB385_320.out; have hcz144_0 : w139.cell? ⟨g0, 0, none⟩ = some (.int .i64 (wrap64 (x8_1 + 1))) := (blk_cell B0.out 0).trans rfl; have hcz144_1 : w139.cell? ⟨g0, 1, none⟩ = some (.int .i64 a1_1) := (blk_cell B0.out 1).trans rfl; have hcz144_2 : w139.cell? ⟨g0, 2, none⟩ = some (.int .i64 a1_2) := (blk_cell B0.out 2).trans rfl; have hcz144_3 : w139.cell? ⟨g0, 3, none⟩ = some (.int .i64 xu) := (blk_cell B0.out 3).trans rfl; have hcz144_4 : w139.cell? ⟨g0, 4, none⟩ = some (.string a1_4) := (blk_cell B0.out 4).trans rfl; have hcz144_5 : w139.cell? ⟨g0, 5, none⟩ = some (.int .i64 a1_5) := (blk_cell B0.out 5).trans rfl; have hcz144_6 : w139.cell? ⟨g0, 6, none⟩ = some (.int .u32 a1_6) := (blk_cell B0.out 6).trans rfl; have hcz144_7 : w139.cell? ⟨g0, 7, none⟩ = some (.slice A1_7 l1_7.length c1_7) := (blk_cell B0.out 7).trans rfl; have hfz144_0 := blk_frozen B0.out 0; have hfz144_1 := blk_frozen B0.out 1; have hfz144_2 := blk_frozen B0.out 2; have hfz144_3 := blk_frozen B0.out 3; have hfz144_4 := blk_frozen B0.out 4; have hfz144_5 := blk_frozen B0.out 5; have hfz144_6 := blk_frozen B0.out 6; have hfz144_7 := blk_frozen B0.out 7; have hnb145 := NB361_349.out; have hnc145 := NB349_361.out; have hnb146 := NB361_373.out; have hnc146 := NB373_361.out; have hnb147 := NB361_385.out; have hnc147 := NB385_361.out; have hcz148_0 : w139.cell? ⟨g2, 0, none⟩ = some (.int .i64 t350) := (blk_cell B2.out 0).trans rfl; have hcz148_1 : w139.cell? ⟨g2, 1, none⟩ = some (.int .i64 t351) := (blk_cell B2.out 1).trans rfl; have hcz148_2 : w139.cell? ⟨g2, 2, none⟩ = some (.int .i64 t352) := (blk_cell B2.out 2).trans rfl; have hcz148_3 : w139.cell? ⟨g2, 3, none⟩ = some (.int .i64 t353) := (blk_cell B2.out 3).trans rfl; have hcz148_4 : w139.cell? ⟨g2, 4, none⟩ = some (.string t354) := (blk_cell B2.out 4).trans rfl; have hcz148_5 : w139.cell? ⟨g2, 5, none⟩ = some (.int .i64 t355) := (blk_cell B2.out 5).trans rfl; have hcz148_6 : w139.cell? ⟨g2, 6, none⟩ = some (.int .u32 t356) := (blk_cell B2.out 6).trans rfl; have hcz148_7 : w139.cell? ⟨g2, 7, none⟩ = some (.slice Ao55 t357.length co55) := (blk_cell B2.out 7).trans rfl; have hfz148_0 := blk_frozen B2.out 0; have hfz148_1 := blk_frozen B2.out 1; have hfz148_2 := blk_frozen B2.out 2; have hfz148_3 := blk_frozen B2.out 3; have hfz148_4 := blk_frozen B2.out 4; have hfz148_5 := blk_frozen B2.out 5; have hfz148_6 := blk_frozen B2.out 6; have hfz148_7 := blk_frozen B2.out 7; have hnb149 := NB373_349.out; have hnc149 := NB349_373.out; have hnb150 := NB373_385.out; have hnc150 := NB385_373.out; have hcz151_0 : w139.cell? ⟨g3, 0, none⟩ = some (.int .i64 t362) := (blk_cell B3.out 0).trans rfl; have hcz151_1 : w139.cell? ⟨g3, 1, none⟩ = some (.int .i64 t363) := (blk_cell B3.out 1).trans rfl; have hcz151_2 : w139.cell? ⟨g3, 2, none⟩ = some (.int .i64 t364) := (blk_cell B3.out 2).trans rfl; have hcz151_3 : w139.cell? ⟨g3, 3, none⟩ = some (.int .i64 t365) := (blk_cell B3.out 3).trans rfl; have hcz151_4 : w139.cell? ⟨g3, 4, none⟩ = some (.string t366) := (blk_cell B3.out 4).trans rfl; have hcz151_5 : w139.cell? ⟨g3, 5, none⟩ = some (.int .i64 t367) := (blk_cell B3.out 5).trans rfl; have hcz151_6 : w139.cell? ⟨g3, 6, none⟩ = some (.int .u32 t368) := (blk_cell B3.out 6).trans rfl; have hcz151_7 : w139.cell? ⟨g3, 7, none⟩ = some (.slice Ao63 t369.length co63) := (blk_cell B3.out 7).trans rfl; have hfz151_0 := blk_frozen B3.out 0; have hfz151_1 := blk_frozen B3.out 1; have hfz151_2 := blk_frozen B3.out 2; have hfz151_3 := blk_frozen B3.out 3; have hfz151_4 := blk_frozen B3.out 4; have hfz151_5 := blk_frozen B3.out 5; have hfz151_6 := blk_frozen B3.out 6; have hfz151_7 := blk_frozen B3.out 7) | (go_at_call 25; (with_reducible refine (deadeyeref07_Same.calls t350 t351 t352 t353 t354 t355 t356 _ _ t357 t362 t363 t364 t365 t366 t367 t368 _ _ t369 t389 _ ?side1 ?side2 ?side3 ?side4 A138.out).mono ?_); (case side1 => repeat (first | exact (Kd.V_reads' HO_362007.out).2.2 | (with_reducible refine Kd.C_alloc ?_ _) | (with_reducible refine Kd.C_drewN ?_ _) | (with_reducible refine Kd.C_drew ?_))); (case side2 => exact (Kd.V_reads' HO_362007.out).2.1); (case side3 => repeat (first | exact (Kd.V_reads' HO_374007.out).2.2 | (with_reducible refine Kd.C_alloc ?_ _) | (with_reducible refine Kd.C_drewN ?_ _) | (with_reducible refine Kd.C_drew ?_))); (case side4 => exact (Kd.V_reads' HO_374007.out).2.1); rintro e w152 ⟨rfl, hb⟩; have n0_ := Aside0.mk (Kd.V_below (vv HOq.out) hb); have n1_ := Aside0.mk (Kd.V_below (vv HO_350007.out) hb); have n2_ := Aside0.mk (Kd.V_below (vv HO_362007.out) hb); have n3_ := Aside0.mk (Kd.V_below (vv HO_374007.out) hb); have n4_ := Aside0.mk (Kd.V_below (vv HO_386007.out) hb); have n5_ := Aside0.mk (blk_below (kv B0.out) hb); have n6_ := Aside0.mk (blk_below (kv B1.out) hb); have n7_ := Aside0.mk (blk_below (kv B2.out) hb); have n8_ := Aside0.mk (blk_below (kv B3.out) hb); have n9_ := Aside0.mk (blk_below (kv B4.out) hb); have n10_ := Aside0.mk (below_step (by repeat (first | (with_reducible first | exact HB.out | apply below_alloc | apply pw_below_drewN | apply below_drew1 | refine below_set ?_ GE320.out | refine below_set ?_ GE349.out | refine below_set ?_ GE361.out | refine below_set ?_ GE373.out | refine below_set ?_ GE385.out) | exact HB.out)) hb); clear HOq; clear HO_350007; clear HO_362007; clear HO_374007; clear HO_386007; clear B0; clear B1; clear B2; clear B3; clear B4; clear HB; have HOq := n0_; have HO_350007 := n1_; have HO_362007 := n2_; have HO_374007 := n3_; have HO_386007 := n4_; have B0 := n5_; have B1 := n6_; have B2 := n7_; have B3 := n8_; have B4 := n9_; have HB := n10_; clear n0_ n1_ n2_ n3_ n4_ n5_ n6_ n7_ n8_ n9_ n10_; (try clear hb); (try clear hi)))
                    go_ret
                    exact ⟨by first | rfl | (simp [errW_none, errW_some] <;> rfl) | (simp [*, errW_none, errW_some] <;> rfl), by repeat (first | (with_reducible first | exact HB.out | apply below_alloc | apply pw_below_drewN | apply below_drew1 | refine below_set ?_ GE320.out | refine below_set ?_ GE349.out | refine below_set ?_ GE361.out | refine below_set ?_ GE373.out | refine below_set ?_ GE385.out) | exact HB.out)⟩
                   ·replace c137 := Bool.eq_false_iff.mpr c137
                    subst c137
                    have H1 : (some true) = some r := by rw [if_neg (show ¬ (false = true) by decide)] at H; exact H
                    clear H
                    have H := H1
                    clear H1
                    obtain rfl := Option.some.inj H
                    go_wp2_with (first | ((with_reducible refine gate_callee (f := 24) rfl ?_); refine goesL_ (some 110) rfl rfl Try.func24 (by kernel_rfl) rfl #[] rfl (by (try simp only [List.map_toArray, List.map_cons, List.map_nil]); first | done | rfl | (simp only [List.length_drop, List.length_take]; rfl)) ?_; (with_reducible refine (deadeyelaw10_awake.calls kj31  true _ A127.out).mono ?_); rintro e w153 ⟨rfl, hb⟩; refine ⟨_, rfl, ?_⟩; have n0_ := Aside0.mk (Kd.V_below (vv HOq.out) hb); have n1_ := Aside0.mk (Kd.V_below (vv HO_350007.out) hb); have n2_ := Aside0.mk (Kd.V_below (vv HO_362007.out) hb); have n3_ := Aside0.mk (Kd.V_below (vv HO_374007.out) hb); have n4_ := Aside0.mk (Kd.V_below (vv HO_386007.out) hb); have n5_ := Aside0.mk (blk_below (kv B0.out) hb); have n6_ := Aside0.mk (blk_below (kv B1.out) hb); have n7_ := Aside0.mk (blk_below (kv B2.out) hb); have n8_ := Aside0.mk (blk_below (kv B3.out) hb); have n9_ := Aside0.mk (blk_below (kv B4.out) hb); have n10_ := Aside0.mk (below_step (by repeat (first | (with_reducible first | exact HB.out | apply below_alloc | apply pw_below_drewN | apply below_drew1 | refine below_set ?_ GE320.out | refine below_set ?_ GE349.out | refine below_set ?_ GE361.out | refine below_set ?_ GE373.out | refine below_set ?_ GE385.out) | exact HB.out)) hb); clear HOq; clear HO_350007; clear HO_362007; clear HO_374007; clear HO_386007; clear B0; clear B1; clear B2; clear B3; clear B4; clear HB; have HOq := n0_; have HO_350007 := n1_; have HO_362007 := n2_; have HO_374007 := n3_; have HO_386007 := n4_; have B0 := n5_; have B1 := n6_; have B2 := n7_; have B3 := n8_; have B4 := n9_; have HB := n10_; clear n0_ n1_ n2_ n3_ n4_ n5_ n6_ n7_ n8_ n9_ n10_; (try clear hb); have hnb154 := NB320_349.out; have hnc154 := NB349_320.out; have hnb155 := NB320_361.out; have hnc155 := NB361_320.out; have hnb156 := NB320_373.out; have hnc156 := NB373_320.out; have hnb157 := NB320_385.out; have hnc157 := NB385_320.out; have hcz158_0 : w153.cell? ⟨g0, 0, none⟩ = some (.int .i64 (wrap64 (x8_1 + 1))) := (blk_cell B0.out 0).trans rfl; have hcz158_1 : w153.cell? ⟨g0, 1, none⟩ = some (.int .i64 a1_1) := (blk_cell B0.out 1).trans rfl; have hcz158_2 : w153.cell? ⟨g0, 2, none⟩ = some (.int .i64 a1_2) := (blk_cell B0.out 2).trans rfl; have hcz158_3 : w153.cell? ⟨g0, 3, none⟩ = some (.int .i64 xu) := (blk_cell B0.out 3).trans rfl; have hcz158_4 : w153.cell? ⟨g0, 4, none⟩ = some (.string a1_4) := (blk_cell B0.out 4).trans rfl; have hcz158_5 : w153.cell? ⟨g0, 5, none⟩ = some (.int .i64 a1_5) := (blk_cell B0.out 5).trans rfl; have hcz158_6 : w153.cell? ⟨g0, 6, none⟩ = some (.int .u32 a1_6) := (blk_cell B0.out 6).trans rfl; have hcz158_7 : w153.cell? ⟨g0, 7, none⟩ = some (.slice A1_7 l1_7.length c1_7) := (blk_cell B0.out 7).trans rfl; have hfz158_0 := blk_frozen B0.out 0; have hfz158_1 := blk_frozen B0.out 1; have hfz158_2 := blk_frozen B0.out 2; have hfz158_3 := blk_frozen B0.out 3; have hfz158_4 := blk_frozen B0.out 4; have hfz158_5 := blk_frozen B0.out 5; have hfz158_6 := blk_frozen B0.out 6; have hfz158_7 := blk_frozen B0.out 7))
                    go_ret
                    exact ⟨by first | rfl | (simp [errW_none, errW_some] <;> rfl) | (simp [*, errW_none, errW_some] <;> rfl), by repeat (first | (with_reducible first | exact HB.out | apply below_alloc | apply pw_below_drewN | apply below_drew1 | refine below_set ?_ GE320.out | refine below_set ?_ GE349.out | refine below_set ?_ GE361.out | refine below_set ?_ GE373.out | refine below_set ?_ GE385.out) | exact HB.out)⟩
                  ·rw [if_neg c136] at H
                   have c136b0 : (t360 == t372) = false := by simpa using c136
                   (try (have c136b1 : decide (t360 = t372) = false := by simpa using c136))
                   (try (have c136b2 : (t360 == t372) = false := by simpa using c136))
                   (try (have c136b3 : ¬ (t360 = t372) := by simpa using c136))
                   clear c136
                   obtain rfl := Option.some.inj H
                   go_wp2_with (first | ((with_reducible refine gate_callee (f := 24) rfl ?_); refine goesL_ (some 110) rfl rfl Try.func24 (by kernel_rfl) rfl #[] rfl (by (try simp only [List.map_toArray, List.map_cons, List.map_nil]); first | done | rfl | (simp only [List.length_drop, List.length_take]; rfl)) ?_; (with_reducible refine (deadeyelaw10_awake.calls kj31  true _ A127.out).mono ?_); rintro e w159 ⟨rfl, hb⟩; refine ⟨_, rfl, ?_⟩; have n0_ := Aside0.mk (Kd.V_below (vv HOq.out) hb); have n1_ := Aside0.mk (Kd.V_below (vv HO_350007.out) hb); have n2_ := Aside0.mk (Kd.V_below (vv HO_362007.out) hb); have n3_ := Aside0.mk (Kd.V_below (vv HO_374007.out) hb); have n4_ := Aside0.mk (Kd.V_below (vv HO_386007.out) hb); have n5_ := Aside0.mk (blk_below (kv B0.out) hb); have n6_ := Aside0.mk (blk_below (kv B1.out) hb); have n7_ := Aside0.mk (blk_below (kv B2.out) hb); have n8_ := Aside0.mk (blk_below (kv B3.out) hb); have n9_ := Aside0.mk (blk_below (kv B4.out) hb); have n10_ := Aside0.mk (below_step (by repeat (first | (with_reducible first | exact HB.out | apply below_alloc | apply pw_below_drewN | apply below_drew1 | refine below_set ?_ GE320.out | refine below_set ?_ GE349.out | refine below_set ?_ GE361.out | refine below_set ?_ GE373.out | refine below_set ?_ GE385.out) | exact HB.out)) hb); clear HOq; clear HO_350007; clear HO_362007; clear HO_374007; clear HO_386007; clear B0; clear B1; clear B2; clear B3; clear B4; clear HB; have HOq := n0_; have HO_350007 := n1_; have HO_362007 := n2_; have HO_374007 := n3_; have HO_386007 := n4_; have B0 := n5_; have B1 := n6_; have B2 := n7_; have B3 := n8_; have B4 := n9_; have HB := n10_; clear n0_ n1_ n2_ n3_ n4_ n5_ n6_ n7_ n8_ n9_ n10_; (try clear hb); have hnb160 := NB320_349.out; have hnc160 := NB349_320.out; have hnb161 := NB320_361.out; have hnc161 := NB361_320.out; have hnb162 := NB320_373.out; have hnc162 := NB373_320.out; have hnb163 := NB320_385.out; have hnc163 := NB385_320.out; have hcz164_0 : w159.cell? ⟨g0, 0, none⟩ = some (.int .i64 (wrap64 (x8_1 + 1))) := (blk_cell B0.out 0).trans rfl; have hcz164_1 : w159.cell? ⟨g0, 1, none⟩ = some (.int .i64 a1_1) := (blk_cell B0.out 1).trans rfl; have hcz164_2 : w159.cell? ⟨g0, 2, none⟩ = some (.int .i64 a1_2) := (blk_cell B0.out 2).trans rfl; have hcz164_3 : w159.cell? ⟨g0, 3, none⟩ = some (.int .i64 xu) := (blk_cell B0.out 3).trans rfl; have hcz164_4 : w159.cell? ⟨g0, 4, none⟩ = some (.string a1_4) := (blk_cell B0.out 4).trans rfl; have hcz164_5 : w159.cell? ⟨g0, 5, none⟩ = some (.int .i64 a1_5) := (blk_cell B0.out 5).trans rfl; have hcz164_6 : w159.cell? ⟨g0, 6, none⟩ = some (.int .u32 a1_6) := (blk_cell B0.out 6).trans rfl; have hcz164_7 : w159.cell? ⟨g0, 7, none⟩ = some (.slice A1_7 l1_7.length c1_7) := (blk_cell B0.out 7).trans rfl; have hfz164_0 := blk_frozen B0.out 0; have hfz164_1 := blk_frozen B0.out 1; have hfz164_2 := blk_frozen B0.out 2; have hfz164_3 := blk_frozen B0.out 3; have hfz164_4 := blk_frozen B0.out 4; have hfz164_5 := blk_frozen B0.out 5; have hfz164_6 := blk_frozen B0.out 6; have hfz164_7 := blk_frozen B0.out 7))
                   go_ret
                   exact ⟨by first | rfl | (simp [errW_none, errW_some] <;> rfl) | (simp [*, errW_none, errW_some] <;> rfl), by repeat (first | (with_reducible first | exact HB.out | apply below_alloc | apply pw_below_drewN | apply below_drew1 | refine below_set ?_ GE320.out | refine below_set ?_ GE349.out | refine below_set ?_ GE361.out | refine below_set ?_ GE373.out | refine below_set ?_ GE385.out) | exact HB.out)⟩
                ·replace c128 := Bool.eq_false_iff.mpr c128
                 subst c128
                 have H1 : (some false) = some r := by rw [if_neg (show ¬ (false = true) by decide)] at H; exact H
                 clear H
                 have H := H1
                 clear H1
                 obtain rfl := Option.some.inj H
                 go_wp2_with (first | ((with_reducible refine gate_callee (f := 24) rfl ?_); refine goesL_ (some 110) rfl rfl Try.func24 (by kernel_rfl) rfl #[] rfl (by (try simp only [List.map_toArray, List.map_cons, List.map_nil]); first | done | rfl | (simp only [List.length_drop, List.length_take]; rfl)) ?_; (with_reducible refine (deadeyelaw10_awake.calls kj31  false _ A127.out).mono ?_); rintro e w165 ⟨rfl, hb⟩; refine ⟨_, rfl, ?_⟩; have n0_ := Aside0.mk (Kd.V_below (vv HOq.out) hb); have n1_ := Aside0.mk (Kd.V_below (vv HO_350007.out) hb); have n2_ := Aside0.mk (Kd.V_below (vv HO_362007.out) hb); have n3_ := Aside0.mk (Kd.V_below (vv HO_374007.out) hb); have n4_ := Aside0.mk (Kd.V_below (vv HO_386007.out) hb); have n5_ := Aside0.mk (blk_below (kv B0.out) hb); have n6_ := Aside0.mk (blk_below (kv B1.out) hb); have n7_ := Aside0.mk (blk_below (kv B2.out) hb); have n8_ := Aside0.mk (blk_below (kv B3.out) hb); have n9_ := Aside0.mk (blk_below (kv B4.out) hb); have n10_ := Aside0.mk (below_step (by repeat (first | (with_reducible first | exact HB.out | apply below_alloc | apply pw_below_drewN | apply below_drew1 | refine below_set ?_ GE320.out | refine below_set ?_ GE349.out | refine below_set ?_ GE361.out | refine below_set ?_ GE373.out | refine below_set ?_ GE385.out) | exact HB.out)) hb); clear HOq; clear HO_350007; clear HO_362007; clear HO_374007; clear HO_386007; clear B0; clear B1; clear B2; clear B3; clear B4; clear HB; have HOq := n0_; have HO_350007 := n1_; have HO_362007 := n2_; have HO_374007 := n3_; have HO_386007 := n4_; have B0 := n5_; have B1 := n6_; have B2 := n7_; have B3 := n8_; have B4 := n9_; have HB := n10_; clear n0_ n1_ n2_ n3_ n4_ n5_ n6_ n7_ n8_ n9_ n10_; (try clear hb); (try clear hi)))
                 go_ret
                 exact ⟨by first | rfl | (simp [errW_none, errW_some] <;> rfl) | (simp [*, errW_none, errW_some] <;> rfl), by repeat (first | (with_reducible first | exact HB.out | apply below_alloc | apply pw_below_drewN | apply below_drew1 | refine below_set ?_ GE320.out | refine below_set ?_ GE349.out | refine below_set ?_ GE361.out | refine below_set ?_ GE373.out | refine below_set ?_ GE385.out) | exact HB.out)⟩
            ·rw [if_neg c27] at H
             exact absurd H (by simp)
           ·rw [if_neg c26] at H
            exact absurd H (by simp)

end Go.Proofs.Yteeeiaggkdlolaa.Ky
