-- Lean text written by a program of this session (xp) for this seat's functions
import Derived.Test.YteeeiaggkdlolaaKf22
import Derived.Test.YteeeiaggkdlolaaKf24
import Derived.Test.YteeeiaggkdlolaaKf25
import Derived.Test.YteeeiaggkdlolaaKf26
import Derived.Test.YteeeiaggkdlolaaKf29
import Derived.Test.YteeeiaggkdlolaaKf30
import Derived.Test.YteeeiaggkdlolaaKf31
import Derived.Test.YteeeiaggkdlolaaKmv
import Derived.Test.YteeeiaggkdlolaaKy0
import Derived.Test.YteeeiaggkdlolaaKyl
import Derived.Test.YteeeiaggkdlolaaKyn
namespace Go.Proofs.Yteeeiaggkdlolaa.Ky
open Go.RowKit Go.Proofs.YteeeiaggkdlolaaW.PrintWords Go.Proofs.YteeeiaggkdlolaaW.PrintLast Go.Proofs.YteeeiaggkdlolaaW.PrintMore
attribute [local go_sem] max2_int min2_int max_two min_two max_three min_three max_four min_four   -- for this text's walks alone
set_option linter.unusedVariables false
set_option linter.unusedSimpArgs false

/-! ### deadeyelaw10_KeysAgain: function 10 -/
mutual
def deadeyelaw10_KeysAgain.l0 : Nat → Int → ByteArray → Int → List (S48) → Int → Option (Bool)
 | 0, _, _, _, _, _ => none
 | k + 1, x1, x2, x3, x9, x10 => if x10 < (x9.length : Int) then (deadeyelaw10_KeysAgain.l1 k x1 x2 x3 x9 x10 0) else ((keys_Live.f x9 x1).bind fun t275 => ((keys_Find.f k x9 x2 x1).bind fun bt278 => ((keys_Find.f k t275 x2 x1).bind fun bt290 => ((keys_Num.f k x9 (wrap64 (x3))).bind fun bt302 => ((keys_Num.f k t275 (wrap64 (x3))).bind fun bt304 => (if bt278.2.2.2.2.2.2.2.2 = true then (if (bt290.2.2.2.2.2.2.2.2 != (bt278.2.2.2.1 == 1)) = true then (deadeyelaw10_KeysAgain.j3 k x1 x9 t275 true) else (if bt290.2.2.2.2.2.2.2.2 = true then ((deadeyeref07_Same.f bt278.1 bt278.2.1 bt278.2.2.1 bt278.2.2.2.1 bt278.2.2.2.2.1 bt278.2.2.2.2.2.1 bt278.2.2.2.2.2.2.1 bt278.2.2.2.2.2.2.2.1 bt290.1 bt290.2.1 bt290.2.2.1 bt290.2.2.2.1 bt290.2.2.2.2.1 bt290.2.2.2.2.2.1 bt290.2.2.2.2.2.2.1 bt290.2.2.2.2.2.2.2.1).bind fun t306 => (if t306 = true then (deadeyelaw10_KeysAgain.j3 k x1 x9 t275 (bt302.1 != bt304.1)) else (deadeyelaw10_KeysAgain.j3 k x1 x9 t275 true))) else (deadeyelaw10_KeysAgain.j3 k x1 x9 t275 (bt302.1 != bt304.1)))) else (if (bt290.2.2.2.2.2.2.2.2 != false) = true then (deadeyelaw10_KeysAgain.j3 k x1 x9 t275 true) else (if bt290.2.2.2.2.2.2.2.2 = true then ((deadeyeref07_Same.f bt278.1 bt278.2.1 bt278.2.2.1 bt278.2.2.2.1 bt278.2.2.2.2.1 bt278.2.2.2.2.2.1 bt278.2.2.2.2.2.2.1 bt278.2.2.2.2.2.2.2.1 bt290.1 bt290.2.1 bt290.2.2.1 bt290.2.2.2.1 bt290.2.2.2.2.1 bt290.2.2.2.2.2.1 bt290.2.2.2.2.2.2.1 bt290.2.2.2.2.2.2.2.1).bind fun t307 => (if t307 = true then (deadeyelaw10_KeysAgain.j3 k x1 x9 t275 (bt302.1 != bt304.1)) else (deadeyelaw10_KeysAgain.j3 k x1 x9 t275 true))) else (deadeyelaw10_KeysAgain.j3 k x1 x9 t275 (bt302.1 != bt304.1))))))))))
def deadeyelaw10_KeysAgain.l1 : Nat → Int → ByteArray → Int → List (S48) → Int → Int → Option (Bool)
 | 0, _, _, _, _, _, _ => none
 | k + 1, x1, x2, x3, x9, x10, x11 => if x11 < x10 then (if 0 ≤ x11 then (if x11 < (x9.length : Int) then (if 0 ≤ x10 then (if x10 < (x9.length : Int) then (if ((rd_T48 x9 x11).f1) = ((rd_T48 x9 x10).f1) then (if ((rd_T48 x9 x11).f2) ≥ ((rd_T48 x9 x10).f2) then ((deadeyelaw10_awake.f k).bind fun t269 => (some t269)) else (deadeyelaw10_KeysAgain.l1 k x1 x2 x3 x9 x10 (wrap64 (x11 + 1)))) else (deadeyelaw10_KeysAgain.l1 k x1 x2 x3 x9 x10 (wrap64 (x11 + 1)))) else (none)) else (none)) else (none)) else (none)) else (if 0 ≤ x10 then (if x10 < (x9.length : Int) then (if ((rd_T48 x9 x10).f2) < 1 then (deadeyelaw10_KeysAgain.j2 k x1 x2 x3 x9 x10 true) else (if ((rd_T48 x9 x10).f0) > x1 then (deadeyelaw10_KeysAgain.j2 k x1 x2 x3 x9 x10 true) else (if ((rd_T48 x9 x10).f0) < 0 then (deadeyelaw10_KeysAgain.j2 k x1 x2 x3 x9 x10 true) else (deadeyelaw10_KeysAgain.j2 k x1 x2 x3 x9 x10 (((rd_T48 x9 x10).f3) == 0))))) else (none)) else (none))
def deadeyelaw10_KeysAgain.j2 : Nat → Int → ByteArray → Int → List (S48) → Int → Bool → Option (Bool)
 | 0, _, _, _, _, _, _ => none
 | k + 1, x1, x2, x3, x9, x10, x89 => if x89 = true then ((deadeyelaw10_awake.f k).bind fun t274 => (some t274)) else (deadeyelaw10_KeysAgain.l0 k x1 x2 x3 x9 (wrap64 (x10 + 1)))
def deadeyelaw10_KeysAgain.j3 : Nat → Int → List (S48) → List (S48) → Bool → Option (Bool)
 | 0, _, _, _, _ => none
 | k + 1, x1, x9, x12, x143 => if x143 = true then (some false) else ((deadeyelaw10_awake.f k).bind fun t308 => (if t308 = true then ((keys_Live.f x12 x1).bind fun t309 => ((deadeyeref07_SameAll.f k t309 x12).bind fun t312 => (if t312 = true then ((keys_Names.f x12 x1).bind fun t313 => ((keys_Names.f x9 x1).bind fun t316 => ((deadeyeref10_Texts.f k t313 t316).bind fun t319 => (some t319)))) else (some false)))) else (some false)))
end
def deadeyelaw10_KeysAgain.f (k : Nat) (l0 : List (S48)) (a1 : Int) (a2 : ByteArray) (a3 : Int) : Option (Bool) := (deadeyelaw10_rising.f k l0).bind fun t262 => (deadeyelaw10_KeysAgain.l0 k a1 a2 a3 t262 0)
theorem deadeyelaw10_KeysAgain.mono_l : ∀ k, (∀ y0 y1 y2 y3 y4, LeO (deadeyelaw10_KeysAgain.l0 k y0 y1 y2 y3 y4) (deadeyelaw10_KeysAgain.l0 (k + 1) y0 y1 y2 y3 y4)) ∧ (∀ y0 y1 y2 y3 y4 y5, LeO (deadeyelaw10_KeysAgain.l1 k y0 y1 y2 y3 y4 y5) (deadeyelaw10_KeysAgain.l1 (k + 1) y0 y1 y2 y3 y4 y5)) ∧ (∀ y0 y1 y2 y3 y4 y5, LeO (deadeyelaw10_KeysAgain.j2 k y0 y1 y2 y3 y4 y5) (deadeyelaw10_KeysAgain.j2 (k + 1) y0 y1 y2 y3 y4 y5)) ∧ (∀ y0 y1 y2 y3, LeO (deadeyelaw10_KeysAgain.j3 k y0 y1 y2 y3) (deadeyelaw10_KeysAgain.j3 (k + 1) y0 y1 y2 y3))
 | 0 => ⟨fun _ _ _ _ _ r h => by simp [deadeyelaw10_KeysAgain.l0] at h, fun _ _ _ _ _ _ r h => by simp [deadeyelaw10_KeysAgain.l1] at h, fun _ _ _ _ _ _ r h => by simp [deadeyelaw10_KeysAgain.j2] at h, fun _ _ _ _ r h => by simp [deadeyelaw10_KeysAgain.j3] at h⟩
 | k + 1 => by
  obtain ⟨ih0, ih1, ih2, ih3⟩ := deadeyelaw10_KeysAgain.mono_l k
  refine ⟨?_, ?_, ?_, ?_⟩
  ·intro y0 y1 y2 y3 y4
   unfold deadeyelaw10_KeysAgain.l0
   repeat' first
   | (with_reducible exact ih0 _ _ _ _ _)
   | (with_reducible exact ih1 _ _ _ _ _ _)
   | (with_reducible exact ih2 _ _ _ _ _ _)
   | (with_reducible exact ih3 _ _ _ _)
   | (with_reducible exact deadeyelaw10_awake.mono _)
   | (with_reducible exact deadeyelaw10_rising.mono _ _)
   | (with_reducible exact deadeyeref07_SameAll.mono _ _ _)
   | (with_reducible exact deadeyeref10_Texts.mono _ _ _)
   | (with_reducible exact keys_Find.mono _ _ _ _)
   | (with_reducible exact keys_Num.mono _ _ _)
   | (with_reducible exact LeO.refl _)
   | (with_reducible exact LeO.none _)
   | (with_reducible refine LeO.ite ?_ ?_)
   | (with_reducible refine LeO.bind ?_ (fun _ => ?_))
   | exact ih0 _ _ _ _ _
   | exact ih1 _ _ _ _ _ _
   | exact ih2 _ _ _ _ _ _
   | exact ih3 _ _ _ _
   | exact deadeyelaw10_awake.mono _
   | exact deadeyelaw10_rising.mono _ _
   | exact deadeyeref07_SameAll.mono _ _ _
   | exact deadeyeref10_Texts.mono _ _ _
   | exact keys_Find.mono _ _ _ _
   | exact keys_Num.mono _ _ _
   | exact LeO.none _
   | refine LeO.ite ?_ ?_
   | refine LeO.bind ?_ (fun _ => ?_)
  ·intro y0 y1 y2 y3 y4 y5
   unfold deadeyelaw10_KeysAgain.l1
   repeat' first
   | (with_reducible exact ih0 _ _ _ _ _)
   | (with_reducible exact ih1 _ _ _ _ _ _)
   | (with_reducible exact ih2 _ _ _ _ _ _)
   | (with_reducible exact ih3 _ _ _ _)
   | (with_reducible exact deadeyelaw10_awake.mono _)
   | (with_reducible exact deadeyelaw10_rising.mono _ _)
   | (with_reducible exact deadeyeref07_SameAll.mono _ _ _)
   | (with_reducible exact deadeyeref10_Texts.mono _ _ _)
   | (with_reducible exact keys_Find.mono _ _ _ _)
   | (with_reducible exact keys_Num.mono _ _ _)
   | (with_reducible exact LeO.refl _)
   | (with_reducible exact LeO.none _)
   | (with_reducible refine LeO.ite ?_ ?_)
   | (with_reducible refine LeO.bind ?_ (fun _ => ?_))
   | exact ih0 _ _ _ _ _
   | exact ih1 _ _ _ _ _ _
   | exact ih2 _ _ _ _ _ _
   | exact ih3 _ _ _ _
   | exact deadeyelaw10_awake.mono _
   | exact deadeyelaw10_rising.mono _ _
   | exact deadeyeref07_SameAll.mono _ _ _
   | exact deadeyeref10_Texts.mono _ _ _
   | exact keys_Find.mono _ _ _ _
   | exact keys_Num.mono _ _ _
   | exact LeO.none _
   | refine LeO.ite ?_ ?_
   | refine LeO.bind ?_ (fun _ => ?_)
  ·intro y0 y1 y2 y3 y4 y5
   unfold deadeyelaw10_KeysAgain.j2
   repeat' first
   | (with_reducible exact ih0 _ _ _ _ _)
   | (with_reducible exact ih1 _ _ _ _ _ _)
   | (with_reducible exact ih2 _ _ _ _ _ _)
   | (with_reducible exact ih3 _ _ _ _)
   | (with_reducible exact deadeyelaw10_awake.mono _)
   | (with_reducible exact deadeyelaw10_rising.mono _ _)
   | (with_reducible exact deadeyeref07_SameAll.mono _ _ _)
   | (with_reducible exact deadeyeref10_Texts.mono _ _ _)
   | (with_reducible exact keys_Find.mono _ _ _ _)
   | (with_reducible exact keys_Num.mono _ _ _)
   | (with_reducible exact LeO.refl _)
   | (with_reducible exact LeO.none _)
   | (with_reducible refine LeO.ite ?_ ?_)
   | (with_reducible refine LeO.bind ?_ (fun _ => ?_))
   | exact ih0 _ _ _ _ _
   | exact ih1 _ _ _ _ _ _
   | exact ih2 _ _ _ _ _ _
   | exact ih3 _ _ _ _
   | exact deadeyelaw10_awake.mono _
   | exact deadeyelaw10_rising.mono _ _
   | exact deadeyeref07_SameAll.mono _ _ _
   | exact deadeyeref10_Texts.mono _ _ _
   | exact keys_Find.mono _ _ _ _
   | exact keys_Num.mono _ _ _
   | exact LeO.none _
   | refine LeO.ite ?_ ?_
   | refine LeO.bind ?_ (fun _ => ?_)
  ·intro y0 y1 y2 y3
   unfold deadeyelaw10_KeysAgain.j3
   repeat' first
   | (with_reducible exact ih0 _ _ _ _ _)
   | (with_reducible exact ih1 _ _ _ _ _ _)
   | (with_reducible exact ih2 _ _ _ _ _ _)
   | (with_reducible exact ih3 _ _ _ _)
   | (with_reducible exact deadeyelaw10_awake.mono _)
   | (with_reducible exact deadeyelaw10_rising.mono _ _)
   | (with_reducible exact deadeyeref07_SameAll.mono _ _ _)
   | (with_reducible exact deadeyeref10_Texts.mono _ _ _)
   | (with_reducible exact keys_Find.mono _ _ _ _)
   | (with_reducible exact keys_Num.mono _ _ _)
   | (with_reducible exact LeO.refl _)
   | (with_reducible exact LeO.none _)
   | (with_reducible refine LeO.ite ?_ ?_)
   | (with_reducible refine LeO.bind ?_ (fun _ => ?_))
   | exact ih0 _ _ _ _ _
   | exact ih1 _ _ _ _ _ _
   | exact ih2 _ _ _ _ _ _
   | exact ih3 _ _ _ _
   | exact deadeyelaw10_awake.mono _
   | exact deadeyelaw10_rising.mono _ _
   | exact deadeyeref07_SameAll.mono _ _ _
   | exact deadeyeref10_Texts.mono _ _ _
   | exact keys_Find.mono _ _ _ _
   | exact keys_Num.mono _ _ _
   | exact LeO.none _
   | refine LeO.ite ?_ ?_
   | refine LeO.bind ?_ (fun _ => ?_)
theorem deadeyelaw10_KeysAgain.mono : ∀ a0 a1 a2 a3 k, LeO (deadeyelaw10_KeysAgain.f k a0 a1 a2 a3) (deadeyelaw10_KeysAgain.f (k + 1) a0 a1 a2 a3) := by
 intro a0 a1 a2 a3 k
 obtain ⟨ih0, ih1, ih2, ih3⟩ := deadeyelaw10_KeysAgain.mono_l k
 unfold deadeyelaw10_KeysAgain.f
 repeat' first
   | (with_reducible exact ih0 _ _ _ _ _)
   | (with_reducible exact ih1 _ _ _ _ _ _)
   | (with_reducible exact ih2 _ _ _ _ _ _)
   | (with_reducible exact ih3 _ _ _ _)
   | (with_reducible exact deadeyelaw10_awake.mono _)
   | (with_reducible exact deadeyelaw10_rising.mono _ _)
   | (with_reducible exact deadeyeref07_SameAll.mono _ _ _)
   | (with_reducible exact deadeyeref10_Texts.mono _ _ _)
   | (with_reducible exact keys_Find.mono _ _ _ _)
   | (with_reducible exact keys_Num.mono _ _ _)
   | (with_reducible exact LeO.refl _)
   | (with_reducible exact LeO.none _)
   | (with_reducible refine LeO.ite ?_ ?_)
   | (with_reducible refine LeO.bind ?_ (fun _ => ?_))
   | exact ih0 _ _ _ _ _
   | exact ih1 _ _ _ _ _ _
   | exact ih2 _ _ _ _ _ _
   | exact ih3 _ _ _ _
   | exact deadeyelaw10_awake.mono _
   | exact deadeyelaw10_rising.mono _ _
   | exact deadeyeref07_SameAll.mono _ _ _
   | exact deadeyeref10_Texts.mono _ _ _
   | exact keys_Find.mono _ _ _ _
   | exact keys_Num.mono _ _ _
   | exact LeO.none _
   | refine LeO.ite ?_ ?_
   | refine LeO.bind ?_ (fun _ => ?_)
set_option maxHeartbeats 8000000 in
set_option maxRecDepth 100000 in
theorem deadeyelaw10_KeysAgain.calls (k : Nat) (A0 : Option Addr) (c0 : Nat) (l0 : List (S48)) (a1 : Int) (a2 : ByteArray) (a3 : Int) (r : Bool) (w : World) (hr0 : Kd.C k48 w A0 l0.length l0) (hc0 : l0.length ≤ c0) (h : deadeyelaw10_KeysAgain.f k l0 a1 a2 a3 = some r) :
  Calls Try.prog 10 #[.slice A0 l0.length c0, .int .i64 a1, .string a2, .int .u8 a3] w fun e w' => e = .returned (.bool r) ∧ Below w.heap.size w w' := by
 have hu48 := Try.underlying48
 have HR0 := Aside0.mk hr0
 have HC0 := Aside0.mk hc0
 clear hr0 hc0
 have HB := Aside0.mk (Below.refl w.heap.size w)
 have H : ((deadeyelaw10_rising.f k l0).bind fun t262 => (deadeyelaw10_KeysAgain.l0 k a1 a2 a3 t262 0)) = some r := h
 clear h
 replace H := Option.bind_eq_some_iff.mp H
 obtain ⟨t262, A50, H⟩ := H
 replace H : (deadeyelaw10_KeysAgain.l0 k a1 a2 a3 t262 0) = some r := H
 have A5 := Aside0.mk A50
 clear A50
 have H' := Aside0.mk H
 clear H
 go_enter Try.func10, Try.ntmps10
 go_wp2_with (first | (go_at_call 30; (with_reducible refine (deadeyelaw10_rising.calls k (fun k_ => k_ < w.heap.size) _ _ l0 t262 _ ?side1 A5.out).mono ?_); (case side1 => exact Kd.V_mk HC0.out (Kd.F_below (Kd.C_F k48_heap HR0.out) (bv HB.out))); rintro e w6 ⟨v263, rfl, ho0, hb⟩; have n0_ := Aside0.mk (Kd.N_lower (Kd.N_mono (ok' := fun k_ => True) ho0 (fun k_ hk_ => trivial)) (below_size (bv HB.out))); have n1_ := Aside0.mk (below_step (bv HB.out) hb); clear HB; have HO264 := n0_; have HB := n1_; clear n0_ n1_; (try clear hb); (try clear hb2); (try clear hk); (try clear hi); (try clear ho0)))
 repeat (go_quiet (first | (go_at_call 30; (with_reducible refine (deadeyelaw10_rising.calls k (fun k_ => k_ < w.heap.size) _ _ l0 t262 _ ?side1 A5.out).mono ?_); (case side1 => exact Kd.V_mk HC0.out (Kd.F_below (Kd.C_F k48_heap HR0.out) (bv HB.out))); rintro e w6 ⟨v263, rfl, ho0, hb⟩; have n0_ := Aside0.mk (Kd.N_lower (Kd.N_mono (ok' := fun k_ => True) ho0 (fun k_ hk_ => trivial)) (below_size (bv HB.out))); have n1_ := Aside0.mk (below_step (bv HB.out) hb); clear HB; have HO264 := n0_; have HB := n1_; clear n0_ n1_; (try clear hb); (try clear hb2); (try clear hk); (try clear hi); (try clear ho0))); try go_wp2_with (first | (go_at_call 30; (with_reducible refine (deadeyelaw10_rising.calls k (fun k_ => k_ < w.heap.size) _ _ l0 t262 _ ?side1 A5.out).mono ?_); (case side1 => exact Kd.V_mk HC0.out (Kd.F_below (Kd.C_F k48_heap HR0.out) (bv HB.out))); rintro e w6 ⟨v263, rfl, ho0, hb⟩; have n0_ := Aside0.mk (Kd.N_lower (Kd.N_mono (ok' := fun k_ => True) ho0 (fun k_ hk_ => trivial)) (below_size (bv HB.out))); have n1_ := Aside0.mk (below_step (bv HB.out) hb); clear HB; have HO264 := n0_; have HB := n1_; clear n0_ n1_; (try clear hb); (try clear hb2); (try clear hk); (try clear hi); (try clear ho0))))
 go_loopg [10] k (fun kq v10 w' => ∃ (x10_1 : Int), v10 = .int .i64 x10_1 ∧ Aside0 (deadeyelaw10_KeysAgain.l0 kq a1 a2 a3 t262 x10_1 = some r) ∧ Aside0 (kq ≤ k) ∧ Aside0 (Kd.N k48 48 w' w.heap.size (fun _ => True) v263 t262) ∧ Aside0 (Below w.heap.size w w'))
 case atStart => exact ⟨(0), (by first | rfl | (simp; done) | (simp [*]; done)), H', ⟨Nat.le_refl _⟩, ⟨nv HO264.out⟩, ⟨bv HB.out⟩⟩
 case round =>
  clear H'
  try clear c1
  try clear p2
  obtain ⟨x10_1, rfl, HA, HK1, HO_9, HB⟩ := hrel
  cases gk with
  | zero => exact absurd HA.out (by simp [deadeyelaw10_KeysAgain.l0])
  | succ k1 =>
   have H := HA.out
   clear HA
   simp only [deadeyelaw10_KeysAgain.l0] at H
   by_cases c7 : x10_1 < (t262.length : Int)
   ·rw [if_pos c7] at H
    have c7b0 : decide (x10_1 < (t262.length : Int)) = true := decide_eq_true c7
    clear c7
    have H' := Aside0.mk H
    clear H
    obtain ⟨Ao8, co8, eo8⟩ := Kd.N_slice HO_9.out
    subst eo8
    go_wp2
    repeat (go_quiet (fail); try go_wp2)
    go_loopg [11] k1 (fun kq v11 w' => ∃ (x11_2 : Int), v11 = .int .i64 x11_2 ∧ Aside0 (deadeyelaw10_KeysAgain.l1 kq a1 a2 a3 t262 x10_1 x11_2 = some r) ∧ Aside0 (kq ≤ k1) ∧ Aside0 (Kd.N k48 48 w' w.heap.size (fun _ => True) (.slice Ao8 t262.length co8) t262) ∧ Aside0 (Below w.heap.size w w'))
    case atStart => exact ⟨(0), (by first | rfl | (simp; done) | (simp [*]; done)), H', ⟨Nat.le_refl _⟩, ⟨nv HO_9.out⟩, ⟨bv HB.out⟩⟩
    case round =>
     clear H'
     try clear c1
     try clear p2
     try clear c7
     try clear c7b0
     try clear p2
     obtain ⟨x11_2, rfl, HA, HK2, HO_9, HB⟩ := hrel
     cases gk with
     | zero => exact absurd HA.out (by simp [deadeyelaw10_KeysAgain.l1])
     | succ k2 =>
      have H := HA.out
      clear HA
      simp only [deadeyelaw10_KeysAgain.l1] at H
      by_cases c9 : x11_2 < x10_1
      ·rw [if_pos c9] at H
       have c9b0 : decide (x11_2 < x10_1) = true := decide_eq_true c9
       clear c9
       by_cases c10 : 0 ≤ x11_2
       ·rw [if_pos c10] at H
        have c10b0 : decide (0 ≤ x11_2) = true := decide_eq_true c10
        clear c10
        by_cases c11 : x11_2 < (t262.length : Int)
        ·rw [if_pos c11] at H
         have c11b0 : decide (x11_2 < (t262.length : Int)) = true := decide_eq_true c11
         clear c11
         by_cases c12 : 0 ≤ x10_1
         ·rw [if_pos c12] at H
          have c12b0 : decide (0 ≤ x10_1) = true := decide_eq_true c12
          clear c12
          by_cases c13 : x10_1 < (t262.length : Int)
          ·rw [if_pos c13] at H
           have c13b0 : decide (x10_1 < (t262.length : Int)) = true := decide_eq_true c13
           clear c13
           by_cases c14 : ((rd_T48 t262 x11_2).f1) = ((rd_T48 t262 x10_1).f1)
           ·rw [if_pos c14] at H
            have c14b0 : (((rd_T48 t262 x11_2).f1) == ((rd_T48 t262 x10_1).f1)) = true := beq_iff_eq.mpr c14
            have c14b1 : (((rd_T48 t262 x11_2).f1) != ((rd_T48 t262 x10_1).f1)) = false := bne_eq_false_iff_eq.mpr c14
            clear c14
            by_cases c15 : ((rd_T48 t262 x11_2).f2) ≥ ((rd_T48 t262 x10_1).f2)
            ·rw [if_pos c15] at H
             have c15b0 : decide (((rd_T48 t262 x10_1).f2) ≤ ((rd_T48 t262 x11_2).f2)) = true := decide_eq_true c15
             clear c15
             replace H := Option.bind_eq_some_iff.mp H
             obtain ⟨t269, A160, H⟩ := H
             replace H : (some t269) = some r := H
             have A16 := Aside0.mk A160
             clear A160
             obtain rfl := Option.some.inj H
             have p265 : 0 ≤ (x11_2 : Int) := of_decide_eq_true (by first | (with_reducible assumption) | assumption)
             have q265 : x11_2 < (t262.length : Int) := of_decide_eq_true (by first | (with_reducible assumption) | assumption)
             obtain ⟨ad265, A265_7, c265_7, e265, hx265_0, hx265_1, hx265_2, hx265_3, hx265_4, hx265_5, hx265_6, hx265_7, hl265_7, hi265_7⟩ := at_T48 (Kd.N_reads' HO_9.out).2.2 x11_2 p265 q265
             cases e265
             obtain ⟨ce265, hce265, hMe265, hcc265⟩ := Kd.N_get HO_9.out z48 x11_2 p265 (by first | exact q265 | exact of_decide_eq_true (by first | (with_reducible assumption) | assumption) | (have e_ := (Kd.N_reads' HO_9.out).1; omega))
             obtain ⟨ua265_7, uc265_7, rfl, ul265_7, ge265_7⟩ := k48_openF hMe265
             have hv265_7 := hcc265 7 _ rfl
             rw [add_field _ _ 7 (by omega)] at hv265_7
             replace hv265_7 := Option.some.inj (hv265_7.symm.trans hx265_7)
             injection hv265_7 with hva_ hvn_ hvc_
             rw [hva_] at ge265_7
             rw [hvc_] at ul265_7
             have HL265_7 := Aside0.mk (show Kd.V (Kd.int .u8) 5 _ w.heap.size _ _ ((rd_T48 t262 x11_2).f7) from Kd.V_mk ul265_7 ge265_7)
             clear hva_ hvn_ hvc_ ge265_7 ul265_7
             clear hcc265 hce265
             have HR265_7 := Aside0.mk hi265_7
             have HC265_7 := Aside0.mk hl265_7
             clear hi265_7 hl265_7
             replace p265 := eq_true p265
             replace q265 := eq_true q265
             have p266 : 0 ≤ (x10_1 : Int) := of_decide_eq_true (by first | (with_reducible assumption) | assumption)
             have q266 : x10_1 < (t262.length : Int) := of_decide_eq_true (by first | (with_reducible assumption) | assumption)
             obtain ⟨ad266, A266_7, c266_7, e266, hx266_0, hx266_1, hx266_2, hx266_3, hx266_4, hx266_5, hx266_6, hx266_7, hl266_7, hi266_7⟩ := at_T48 (Kd.N_reads' HO_9.out).2.2 x10_1 p266 q266
             obtain rfl : ad265 = ad266 := (by injection e266)
             obtain ⟨ce266, hce266, hMe266, hcc266⟩ := Kd.N_get HO_9.out z48 x10_1 p266 (by first | exact q266 | exact of_decide_eq_true (by first | (with_reducible assumption) | assumption) | (have e_ := (Kd.N_reads' HO_9.out).1; omega))
             obtain ⟨ua266_7, uc266_7, rfl, ul266_7, ge266_7⟩ := k48_openF hMe266
             have hv266_7 := hcc266 7 _ rfl
             rw [add_field _ _ 7 (by omega)] at hv266_7
             replace hv266_7 := Option.some.inj (hv266_7.symm.trans hx266_7)
             injection hv266_7 with hva_ hvn_ hvc_
             rw [hva_] at ge266_7
             rw [hvc_] at ul266_7
             have HL266_7 := Aside0.mk (show Kd.V (Kd.int .u8) 5 _ w.heap.size _ _ ((rd_T48 t262 x10_1).f7) from Kd.V_mk ul266_7 ge266_7)
             clear hva_ hvn_ hvc_ ge266_7 ul266_7
             clear hcc266 hce266
             have HR266_7 := Aside0.mk hi266_7
             have HC266_7 := Aside0.mk hl266_7
             clear hi266_7 hl266_7
             replace p266 := eq_true p266
             replace q266 := eq_true q266
             have p267 : 0 ≤ (x11_2 : Int) := of_decide_eq_true (by first | (with_reducible assumption) | assumption)
             have q267 : x11_2 < (t262.length : Int) := of_decide_eq_true (by first | (with_reducible assumption) | assumption)
             obtain ⟨ad267, A267_7, c267_7, e267, hx267_0, hx267_1, hx267_2, hx267_3, hx267_4, hx267_5, hx267_6, hx267_7, hl267_7, hi267_7⟩ := at_T48 (Kd.N_reads' HO_9.out).2.2 x11_2 p267 q267
             obtain rfl : ad265 = ad267 := (by injection e267)
             obtain ⟨ce267, hce267, hMe267, hcc267⟩ := Kd.N_get HO_9.out z48 x11_2 p267 (by first | exact q267 | exact of_decide_eq_true (by first | (with_reducible assumption) | assumption) | (have e_ := (Kd.N_reads' HO_9.out).1; omega))
             obtain ⟨ua267_7, uc267_7, rfl, ul267_7, ge267_7⟩ := k48_openF hMe267
             have hv267_7 := hcc267 7 _ rfl
             rw [add_field _ _ 7 (by omega)] at hv267_7
             replace hv267_7 := Option.some.inj (hv267_7.symm.trans hx267_7)
             injection hv267_7 with hva_ hvn_ hvc_
             rw [hva_] at ge267_7
             rw [hvc_] at ul267_7
             have HL267_7 := Aside0.mk (show Kd.V (Kd.int .u8) 5 _ w.heap.size _ _ ((rd_T48 t262 x11_2).f7) from Kd.V_mk ul267_7 ge267_7)
             clear hva_ hvn_ hvc_ ge267_7 ul267_7
             clear hcc267 hce267
             have HR267_7 := Aside0.mk hi267_7
             have HC267_7 := Aside0.mk hl267_7
             clear hi267_7 hl267_7
             replace p267 := eq_true p267
             replace q267 := eq_true q267
             have ea_ := Option.some.inj (hx265_7.symm.trans hx267_7)
             injection ea_ with ea_ en_ ec_
             subst ea_
             subst ec_
             clear en_
             have p268 : 0 ≤ (x10_1 : Int) := of_decide_eq_true (by first | (with_reducible assumption) | assumption)
             have q268 : x10_1 < (t262.length : Int) := of_decide_eq_true (by first | (with_reducible assumption) | assumption)
             obtain ⟨ad268, A268_7, c268_7, e268, hx268_0, hx268_1, hx268_2, hx268_3, hx268_4, hx268_5, hx268_6, hx268_7, hl268_7, hi268_7⟩ := at_T48 (Kd.N_reads' HO_9.out).2.2 x10_1 p268 q268
             obtain rfl : ad265 = ad268 := (by injection e268)
             obtain ⟨ce268, hce268, hMe268, hcc268⟩ := Kd.N_get HO_9.out z48 x10_1 p268 (by first | exact q268 | exact of_decide_eq_true (by first | (with_reducible assumption) | assumption) | (have e_ := (Kd.N_reads' HO_9.out).1; omega))
             obtain ⟨ua268_7, uc268_7, rfl, ul268_7, ge268_7⟩ := k48_openF hMe268
             have hv268_7 := hcc268 7 _ rfl
             rw [add_field _ _ 7 (by omega)] at hv268_7
             replace hv268_7 := Option.some.inj (hv268_7.symm.trans hx268_7)
             injection hv268_7 with hva_ hvn_ hvc_
             rw [hva_] at ge268_7
             rw [hvc_] at ul268_7
             have HL268_7 := Aside0.mk (show Kd.V (Kd.int .u8) 5 _ w.heap.size _ _ ((rd_T48 t262 x10_1).f7) from Kd.V_mk ul268_7 ge268_7)
             clear hva_ hvn_ hvc_ ge268_7 ul268_7
             clear hcc268 hce268
             have HR268_7 := Aside0.mk hi268_7
             have HC268_7 := Aside0.mk hl268_7
             clear hi268_7 hl268_7
             replace p268 := eq_true p268
             replace q268 := eq_true q268
             have ea_ := Option.some.inj (hx266_7.symm.trans hx268_7)
             injection ea_ with ea_ en_ ec_
             subst ea_
             subst ec_
             clear en_
             go_wp2_with (first | (go_at_call 24; (with_reducible refine (deadeyelaw10_awake.calls k2  t269 _ A16.out).mono ?_); rintro e w17 ⟨rfl, hb⟩; have n0_ := Aside0.mk (Kd.N_below (nv HO_9.out) hb); have n1_ := Aside0.mk (Kd.V_below (vv HL265_7.out) hb); have n2_ := Aside0.mk (Kd.V_below (vv HL266_7.out) hb); have n3_ := Aside0.mk (Kd.V_below (vv HL267_7.out) hb); have n4_ := Aside0.mk (Kd.V_below (vv HL268_7.out) hb); have n5_ := Aside0.mk (Kd.C_below (by repeat (first | (with_reducible exact HR265_7.out) | (with_reducible refine Kd.C_alloc ?_ _) | (with_reducible refine Kd.C_drewN ?_ _) | (with_reducible refine Kd.C_drew ?_) | exact HR265_7.out)) hb); have n6_ := Aside0.mk (Kd.C_below (by repeat (first | (with_reducible exact HR266_7.out) | (with_reducible refine Kd.C_alloc ?_ _) | (with_reducible refine Kd.C_drewN ?_ _) | (with_reducible refine Kd.C_drew ?_) | exact HR266_7.out)) hb); have n7_ := Aside0.mk (Kd.C_below (by repeat (first | (with_reducible exact HR267_7.out) | (with_reducible refine Kd.C_alloc ?_ _) | (with_reducible refine Kd.C_drewN ?_ _) | (with_reducible refine Kd.C_drew ?_) | exact HR267_7.out)) hb); have n8_ := Aside0.mk (Kd.C_below (by repeat (first | (with_reducible exact HR268_7.out) | (with_reducible refine Kd.C_alloc ?_ _) | (with_reducible refine Kd.C_drewN ?_ _) | (with_reducible refine Kd.C_drew ?_) | exact HR268_7.out)) hb); have n9_ := Aside0.mk (below_step (bv HB.out) hb); clear HO_9; clear HL265_7; clear HL266_7; clear HL267_7; clear HL268_7; clear HR265_7; clear HR266_7; clear HR267_7; clear HR268_7; clear HB; have HO_9 := n0_; have HL265_7 := n1_; have HL266_7 := n2_; have HL267_7 := n3_; have HL268_7 := n4_; have HR265_7 := n5_; have HR266_7 := n6_; have HR267_7 := n7_; have HR268_7 := n8_; have HB := n9_; clear n0_ n1_ n2_ n3_ n4_ n5_ n6_ n7_ n8_ n9_; (try clear hb); (try clear hb2); (try clear hk); (try clear hi)))
             repeat (go_quiet (first | (go_at_call 24; (with_reducible refine (deadeyelaw10_awake.calls k2  t269 _ A16.out).mono ?_); rintro e w17 ⟨rfl, hb⟩; have n0_ := Aside0.mk (Kd.N_below (nv HO_9.out) hb); have n1_ := Aside0.mk (Kd.V_below (vv HL265_7.out) hb); have n2_ := Aside0.mk (Kd.V_below (vv HL266_7.out) hb); have n3_ := Aside0.mk (Kd.V_below (vv HL267_7.out) hb); have n4_ := Aside0.mk (Kd.V_below (vv HL268_7.out) hb); have n5_ := Aside0.mk (Kd.C_below (by repeat (first | (with_reducible exact HR265_7.out) | (with_reducible refine Kd.C_alloc ?_ _) | (with_reducible refine Kd.C_drewN ?_ _) | (with_reducible refine Kd.C_drew ?_) | exact HR265_7.out)) hb); have n6_ := Aside0.mk (Kd.C_below (by repeat (first | (with_reducible exact HR266_7.out) | (with_reducible refine Kd.C_alloc ?_ _) | (with_reducible refine Kd.C_drewN ?_ _) | (with_reducible refine Kd.C_drew ?_) | exact HR266_7.out)) hb); have n7_ := Aside0.mk (Kd.C_below (by repeat (first | (with_reducible exact HR267_7.out) | (with_reducible refine Kd.C_alloc ?_ _) | (with_reducible refine Kd.C_drewN ?_ _) | (with_reducible refine Kd.C_drew ?_) | exact HR267_7.out)) hb); have n8_ := Aside0.mk (Kd.C_below (by repeat (first | (with_reducible exact HR268_7.out) | (with_reducible refine Kd.C_alloc ?_ _) | (with_reducible refine Kd.C_drewN ?_ _) | (with_reducible refine Kd.C_drew ?_) | exact HR268_7.out)) hb); have n9_ := Aside0.mk (below_step (bv HB.out) hb); clear HO_9; clear HL265_7; clear HL266_7; clear HL267_7; clear HL268_7; clear HR265_7; clear HR266_7; clear HR267_7; clear HR268_7; clear HB; have HO_9 := n0_; have HL265_7 := n1_; have HL266_7 := n2_; have HL267_7 := n3_; have HL268_7 := n4_; have HR265_7 := n5_; have HR266_7 := n6_; have HR267_7 := n7_; have HR268_7 := n8_; have HB := n9_; clear n0_ n1_ n2_ n3_ n4_ n5_ n6_ n7_ n8_ n9_; (try clear hb); (try clear hb2); (try clear hk); (try clear hi))); try go_wp2_with (first | (go_at_call 24; (with_reducible refine (deadeyelaw10_awake.calls k2  t269 _ A16.out).mono ?_); rintro e w17 ⟨rfl, hb⟩; have n0_ := Aside0.mk (Kd.N_below (nv HO_9.out) hb); have n1_ := Aside0.mk (Kd.V_below (vv HL265_7.out) hb); have n2_ := Aside0.mk (Kd.V_below (vv HL266_7.out) hb); have n3_ := Aside0.mk (Kd.V_below (vv HL267_7.out) hb); have n4_ := Aside0.mk (Kd.V_below (vv HL268_7.out) hb); have n5_ := Aside0.mk (Kd.C_below (by repeat (first | (with_reducible exact HR265_7.out) | (with_reducible refine Kd.C_alloc ?_ _) | (with_reducible refine Kd.C_drewN ?_ _) | (with_reducible refine Kd.C_drew ?_) | exact HR265_7.out)) hb); have n6_ := Aside0.mk (Kd.C_below (by repeat (first | (with_reducible exact HR266_7.out) | (with_reducible refine Kd.C_alloc ?_ _) | (with_reducible refine Kd.C_drewN ?_ _) | (with_reducible refine Kd.C_drew ?_) | exact HR266_7.out)) hb); have n7_ := Aside0.mk (Kd.C_below (by repeat (first | (with_reducible exact HR267_7.out) | (with_reducible refine Kd.C_alloc ?_ _) | (with_reducible refine Kd.C_drewN ?_ _) | (with_reducible refine Kd.C_drew ?_) | exact HR267_7.out)) hb); have n8_ := Aside0.mk (Kd.C_below (by repeat (first | (with_reducible exact HR268_7.out) | (with_reducible refine Kd.C_alloc ?_ _) | (with_reducible refine Kd.C_drewN ?_ _) | (with_reducible refine Kd.C_drew ?_) | exact HR268_7.out)) hb); have n9_ := Aside0.mk (below_step (bv HB.out) hb); clear HO_9; clear HL265_7; clear HL266_7; clear HL267_7; clear HL268_7; clear HR265_7; clear HR266_7; clear HR267_7; clear HR268_7; clear HB; have HO_9 := n0_; have HL265_7 := n1_; have HL266_7 := n2_; have HL267_7 := n3_; have HL268_7 := n4_; have HR265_7 := n5_; have HR266_7 := n6_; have HR267_7 := n7_; have HR268_7 := n8_; have HB := n9_; clear n0_ n1_ n2_ n3_ n4_ n5_ n6_ n7_ n8_ n9_; (try clear hb); (try clear hb2); (try clear hk); (try clear hi))))
             go_ret
             exact ⟨by first | rfl | (simp [errW_none, errW_some] <;> rfl) | (simp [*, errW_none, errW_some] <;> rfl), bv HB.out⟩
            ·rw [if_neg c15] at H
             have c15b0 : decide (((rd_T48 t262 x10_1).f2) ≤ ((rd_T48 t262 x11_2).f2)) = false := decide_eq_false c15
             clear c15
             have H' := Aside0.mk H
             clear H
             have p265 : 0 ≤ (x11_2 : Int) := of_decide_eq_true (by first | (with_reducible assumption) | assumption)
             have q265 : x11_2 < (t262.length : Int) := of_decide_eq_true (by first | (with_reducible assumption) | assumption)
             obtain ⟨ad265, A265_7, c265_7, e265, hx265_0, hx265_1, hx265_2, hx265_3, hx265_4, hx265_5, hx265_6, hx265_7, hl265_7, hi265_7⟩ := at_T48 (Kd.N_reads' HO_9.out).2.2 x11_2 p265 q265
             cases e265
             obtain ⟨ce265, hce265, hMe265, hcc265⟩ := Kd.N_get HO_9.out z48 x11_2 p265 (by first | exact q265 | exact of_decide_eq_true (by first | (with_reducible assumption) | assumption) | (have e_ := (Kd.N_reads' HO_9.out).1; omega))
             obtain ⟨ua265_7, uc265_7, rfl, ul265_7, ge265_7⟩ := k48_openF hMe265
             have hv265_7 := hcc265 7 _ rfl
             rw [add_field _ _ 7 (by omega)] at hv265_7
             replace hv265_7 := Option.some.inj (hv265_7.symm.trans hx265_7)
             injection hv265_7 with hva_ hvn_ hvc_
             rw [hva_] at ge265_7
             rw [hvc_] at ul265_7
             have HL265_7 := Aside0.mk (show Kd.V (Kd.int .u8) 5 _ w.heap.size _ _ ((rd_T48 t262 x11_2).f7) from Kd.V_mk ul265_7 ge265_7)
             clear hva_ hvn_ hvc_ ge265_7 ul265_7
             clear hcc265 hce265
             have HR265_7 := Aside0.mk hi265_7
             have HC265_7 := Aside0.mk hl265_7
             clear hi265_7 hl265_7
             replace p265 := eq_true p265
             replace q265 := eq_true q265
             have p266 : 0 ≤ (x10_1 : Int) := of_decide_eq_true (by first | (with_reducible assumption) | assumption)
             have q266 : x10_1 < (t262.length : Int) := of_decide_eq_true (by first | (with_reducible assumption) | assumption)
             obtain ⟨ad266, A266_7, c266_7, e266, hx266_0, hx266_1, hx266_2, hx266_3, hx266_4, hx266_5, hx266_6, hx266_7, hl266_7, hi266_7⟩ := at_T48 (Kd.N_reads' HO_9.out).2.2 x10_1 p266 q266
             obtain rfl : ad265 = ad266 := (by injection e266)
             obtain ⟨ce266, hce266, hMe266, hcc266⟩ := Kd.N_get HO_9.out z48 x10_1 p266 (by first | exact q266 | exact of_decide_eq_true (by first | (with_reducible assumption) | assumption) | (have e_ := (Kd.N_reads' HO_9.out).1; omega))
             obtain ⟨ua266_7, uc266_7, rfl, ul266_7, ge266_7⟩ := k48_openF hMe266
             have hv266_7 := hcc266 7 _ rfl
             rw [add_field _ _ 7 (by omega)] at hv266_7
             replace hv266_7 := Option.some.inj (hv266_7.symm.trans hx266_7)
             injection hv266_7 with hva_ hvn_ hvc_
             rw [hva_] at ge266_7
             rw [hvc_] at ul266_7
             have HL266_7 := Aside0.mk (show Kd.V (Kd.int .u8) 5 _ w.heap.size _ _ ((rd_T48 t262 x10_1).f7) from Kd.V_mk ul266_7 ge266_7)
             clear hva_ hvn_ hvc_ ge266_7 ul266_7
             clear hcc266 hce266
             have HR266_7 := Aside0.mk hi266_7
             have HC266_7 := Aside0.mk hl266_7
             clear hi266_7 hl266_7
             replace p266 := eq_true p266
             replace q266 := eq_true q266
             have p267 : 0 ≤ (x11_2 : Int) := of_decide_eq_true (by first | (with_reducible assumption) | assumption)
             have q267 : x11_2 < (t262.length : Int) := of_decide_eq_true (by first | (with_reducible assumption) | assumption)
             obtain ⟨ad267, A267_7, c267_7, e267, hx267_0, hx267_1, hx267_2, hx267_3, hx267_4, hx267_5, hx267_6, hx267_7, hl267_7, hi267_7⟩ := at_T48 (Kd.N_reads' HO_9.out).2.2 x11_2 p267 q267
             obtain rfl : ad265 = ad267 := (by injection e267)
             obtain ⟨ce267, hce267, hMe267, hcc267⟩ := Kd.N_get HO_9.out z48 x11_2 p267 (by first | exact q267 | exact of_decide_eq_true (by first | (with_reducible assumption) | assumption) | (have e_ := (Kd.N_reads' HO_9.out).1; omega))
             obtain ⟨ua267_7, uc267_7, rfl, ul267_7, ge267_7⟩ := k48_openF hMe267
             have hv267_7 := hcc267 7 _ rfl
             rw [add_field _ _ 7 (by omega)] at hv267_7
             replace hv267_7 := Option.some.inj (hv267_7.symm.trans hx267_7)
             injection hv267_7 with hva_ hvn_ hvc_
             rw [hva_] at ge267_7
             rw [hvc_] at ul267_7
             have HL267_7 := Aside0.mk (show Kd.V (Kd.int .u8) 5 _ w.heap.size _ _ ((rd_T48 t262 x11_2).f7) from Kd.V_mk ul267_7 ge267_7)
             clear hva_ hvn_ hvc_ ge267_7 ul267_7
             clear hcc267 hce267
             have HR267_7 := Aside0.mk hi267_7
             have HC267_7 := Aside0.mk hl267_7
             clear hi267_7 hl267_7
             replace p267 := eq_true p267
             replace q267 := eq_true q267
             have ea_ := Option.some.inj (hx265_7.symm.trans hx267_7)
             injection ea_ with ea_ en_ ec_
             subst ea_
             subst ec_
             clear en_
             have p268 : 0 ≤ (x10_1 : Int) := of_decide_eq_true (by first | (with_reducible assumption) | assumption)
             have q268 : x10_1 < (t262.length : Int) := of_decide_eq_true (by first | (with_reducible assumption) | assumption)
             obtain ⟨ad268, A268_7, c268_7, e268, hx268_0, hx268_1, hx268_2, hx268_3, hx268_4, hx268_5, hx268_6, hx268_7, hl268_7, hi268_7⟩ := at_T48 (Kd.N_reads' HO_9.out).2.2 x10_1 p268 q268
             obtain rfl : ad265 = ad268 := (by injection e268)
             obtain ⟨ce268, hce268, hMe268, hcc268⟩ := Kd.N_get HO_9.out z48 x10_1 p268 (by first | exact q268 | exact of_decide_eq_true (by first | (with_reducible assumption) | assumption) | (have e_ := (Kd.N_reads' HO_9.out).1; omega))
             obtain ⟨ua268_7, uc268_7, rfl, ul268_7, ge268_7⟩ := k48_openF hMe268
             have hv268_7 := hcc268 7 _ rfl
             rw [add_field _ _ 7 (by omega)] at hv268_7
             replace hv268_7 := Option.some.inj (hv268_7.symm.trans hx268_7)
             injection hv268_7 with hva_ hvn_ hvc_
             rw [hva_] at ge268_7
             rw [hvc_] at ul268_7
             have HL268_7 := Aside0.mk (show Kd.V (Kd.int .u8) 5 _ w.heap.size _ _ ((rd_T48 t262 x10_1).f7) from Kd.V_mk ul268_7 ge268_7)
             clear hva_ hvn_ hvc_ ge268_7 ul268_7
             clear hcc268 hce268
             have HR268_7 := Aside0.mk hi268_7
             have HC268_7 := Aside0.mk hl268_7
             clear hi268_7 hl268_7
             replace p268 := eq_true p268
             replace q268 := eq_true q268
             have ea_ := Option.some.inj (hx266_7.symm.trans hx268_7)
             injection ea_ with ea_ en_ ec_
             subst ea_
             subst ec_
             clear en_
             go_wp2
             repeat (go_quiet (fail); try go_wp2)
             go_roundg k2
             case measure => have := HK1.out; have := HK2.out; omega
             case rel => exact ⟨(wrap64 (x11_2 + 1)), (by first | rfl | (simp; done) | (simp [*]; done)), H', ⟨by have := HK1.out; have := HK2.out; omega⟩, ⟨nv HO_9.out⟩, ⟨bv HB.out⟩⟩
           ·rw [if_neg c14] at H
            have c14b0 : (((rd_T48 t262 x11_2).f1) == ((rd_T48 t262 x10_1).f1)) = false := beq_eq_false_iff_ne.mpr c14
            have c14b1 : (((rd_T48 t262 x11_2).f1) != ((rd_T48 t262 x10_1).f1)) = true := bne_iff_ne.mpr c14
            have H' := Aside0.mk H
            clear H
            have p265 : 0 ≤ (x11_2 : Int) := of_decide_eq_true (by first | (with_reducible assumption) | assumption)
            have q265 : x11_2 < (t262.length : Int) := of_decide_eq_true (by first | (with_reducible assumption) | assumption)
            obtain ⟨ad265, A265_7, c265_7, e265, hx265_0, hx265_1, hx265_2, hx265_3, hx265_4, hx265_5, hx265_6, hx265_7, hl265_7, hi265_7⟩ := at_T48 (Kd.N_reads' HO_9.out).2.2 x11_2 p265 q265
            cases e265
            obtain ⟨ce265, hce265, hMe265, hcc265⟩ := Kd.N_get HO_9.out z48 x11_2 p265 (by first | exact q265 | exact of_decide_eq_true (by first | (with_reducible assumption) | assumption) | (have e_ := (Kd.N_reads' HO_9.out).1; omega))
            obtain ⟨ua265_7, uc265_7, rfl, ul265_7, ge265_7⟩ := k48_openF hMe265
            have hv265_7 := hcc265 7 _ rfl
            rw [add_field _ _ 7 (by omega)] at hv265_7
            replace hv265_7 := Option.some.inj (hv265_7.symm.trans hx265_7)
            injection hv265_7 with hva_ hvn_ hvc_
            rw [hva_] at ge265_7
            rw [hvc_] at ul265_7
            have HL265_7 := Aside0.mk (show Kd.V (Kd.int .u8) 5 _ w.heap.size _ _ ((rd_T48 t262 x11_2).f7) from Kd.V_mk ul265_7 ge265_7)
            clear hva_ hvn_ hvc_ ge265_7 ul265_7
            clear hcc265 hce265
            have HR265_7 := Aside0.mk hi265_7
            have HC265_7 := Aside0.mk hl265_7
            clear hi265_7 hl265_7
            replace p265 := eq_true p265
            replace q265 := eq_true q265
            have p266 : 0 ≤ (x10_1 : Int) := of_decide_eq_true (by first | (with_reducible assumption) | assumption)
            have q266 : x10_1 < (t262.length : Int) := of_decide_eq_true (by first | (with_reducible assumption) | assumption)
            obtain ⟨ad266, A266_7, c266_7, e266, hx266_0, hx266_1, hx266_2, hx266_3, hx266_4, hx266_5, hx266_6, hx266_7, hl266_7, hi266_7⟩ := at_T48 (Kd.N_reads' HO_9.out).2.2 x10_1 p266 q266
            obtain rfl : ad265 = ad266 := (by injection e266)
            obtain ⟨ce266, hce266, hMe266, hcc266⟩ := Kd.N_get HO_9.out z48 x10_1 p266 (by first | exact q266 | exact of_decide_eq_true (by first | (with_reducible assumption) | assumption) | (have e_ := (Kd.N_reads' HO_9.out).1; omega))
            obtain ⟨ua266_7, uc266_7, rfl, ul266_7, ge266_7⟩ := k48_openF hMe266
            have hv266_7 := hcc266 7 _ rfl
            rw [add_field _ _ 7 (by omega)] at hv266_7
            replace hv266_7 := Option.some.inj (hv266_7.symm.trans hx266_7)
            injection hv266_7 with hva_ hvn_ hvc_
            rw [hva_] at ge266_7
            rw [hvc_] at ul266_7
            have HL266_7 := Aside0.mk (show Kd.V (Kd.int .u8) 5 _ w.heap.size _ _ ((rd_T48 t262 x10_1).f7) from Kd.V_mk ul266_7 ge266_7)
            clear hva_ hvn_ hvc_ ge266_7 ul266_7
            clear hcc266 hce266
            have HR266_7 := Aside0.mk hi266_7
            have HC266_7 := Aside0.mk hl266_7
            clear hi266_7 hl266_7
            replace p266 := eq_true p266
            replace q266 := eq_true q266
            go_wp2
            repeat (go_quiet (fail); try go_wp2)
            go_roundg k2
            case measure => have := HK1.out; have := HK2.out; omega
            case rel => exact ⟨(wrap64 (x11_2 + 1)), (by first | rfl | (simp; done) | (simp [*]; done)), H', ⟨by have := HK1.out; have := HK2.out; omega⟩, ⟨nv HO_9.out⟩, ⟨bv HB.out⟩⟩
          ·rw [if_neg c13] at H
           exact absurd H (by simp)
         ·rw [if_neg c12] at H
          exact absurd H (by simp)
        ·rw [if_neg c11] at H
         exact absurd H (by simp)
       ·rw [if_neg c10] at H
        exact absurd H (by simp)
      ·rw [if_neg c9] at H
       have c9b0 : decide (x11_2 < x10_1) = false := decide_eq_false c9
       clear c9
       have HC18 := Aside0.mk H
       clear H
       go_upto_region 10 with (fail)
       repeat (go_quiet (fail); go_upto_region 10 with (fail))
       go_cut [89] (fun v89 wc => ∃ (kq : Nat) (x89_17 : Bool), v89 = .bool x89_17 ∧ Aside0 (deadeyelaw10_KeysAgain.j2 kq a1 a2 a3 t262 x10_1 x89_17 = some r) ∧ Aside0 (kq ≤ k2) ∧ Aside0 (Kd.N k48 48 wc w.heap.size (fun _ => True) (.slice Ao8 t262.length co8) t262) ∧ Aside0 (Below w.heap.size w wc))
       case first =>
        have H := HC18.out
        clear HC18
        by_cases c19 : 0 ≤ x10_1
        ·rw [if_pos c19] at H
         have c19b0 : decide (0 ≤ x10_1) = true := decide_eq_true c19
         clear c19
         (first | rw [c19b0] | (simp only [i64_w, i32_w]; rw [c19b0]) | skip)
         by_cases c20 : x10_1 < (t262.length : Int)
         ·rw [if_pos c20] at H
          have c20b0 : decide (x10_1 < (t262.length : Int)) = true := decide_eq_true c20
          clear c20
          by_cases c21 : ((rd_T48 t262 x10_1).f2) < 1
          ·rw [if_pos c21] at H
           have c21b0 : decide (((rd_T48 t262 x10_1).f2) < 1) = true := decide_eq_true c21
           clear c21
           have H' := Aside0.mk H
           clear H
           have p270 : 0 ≤ (x10_1 : Int) := of_decide_eq_true (by first | (with_reducible assumption) | assumption)
           have q270 : x10_1 < (t262.length : Int) := of_decide_eq_true (by first | (with_reducible assumption) | assumption)
           obtain ⟨ad270, A270_7, c270_7, e270, hx270_0, hx270_1, hx270_2, hx270_3, hx270_4, hx270_5, hx270_6, hx270_7, hl270_7, hi270_7⟩ := at_T48 (Kd.N_reads' HO_9.out).2.2 x10_1 p270 q270
           cases e270
           obtain ⟨ce270, hce270, hMe270, hcc270⟩ := Kd.N_get HO_9.out z48 x10_1 p270 (by first | exact q270 | exact of_decide_eq_true (by first | (with_reducible assumption) | assumption) | (have e_ := (Kd.N_reads' HO_9.out).1; omega))
           obtain ⟨ua270_7, uc270_7, rfl, ul270_7, ge270_7⟩ := k48_openF hMe270
           have hv270_7 := hcc270 7 _ rfl
           rw [add_field _ _ 7 (by omega)] at hv270_7
           replace hv270_7 := Option.some.inj (hv270_7.symm.trans hx270_7)
           injection hv270_7 with hva_ hvn_ hvc_
           rw [hva_] at ge270_7
           rw [hvc_] at ul270_7
           have HL270_7 := Aside0.mk (show Kd.V (Kd.int .u8) 5 _ w.heap.size _ _ ((rd_T48 t262 x10_1).f7) from Kd.V_mk ul270_7 ge270_7)
           clear hva_ hvn_ hvc_ ge270_7 ul270_7
           clear hcc270 hce270
           have HR270_7 := Aside0.mk hi270_7
           have HC270_7 := Aside0.mk hl270_7
           clear hi270_7 hl270_7
           replace p270 := eq_true p270
           replace q270 := eq_true q270
           go_wp2
           repeat (go_quiet (fail); try go_wp2)
           go_meet
           case rel => exact ⟨_, (true), (by first | rfl | (simp; done) | (simp [*]; done)), H', ⟨by have := HK1.out; have := HK2.out; first | omega | exact Nat.le_refl _⟩, ⟨nv HO_9.out⟩, ⟨bv HB.out⟩⟩
          ·rw [if_neg c21] at H
           have c21b0 : decide (((rd_T48 t262 x10_1).f2) < 1) = false := decide_eq_false c21
           clear c21
           by_cases c22 : ((rd_T48 t262 x10_1).f0) > a1
           ·rw [if_pos c22] at H
            have c22b0 : decide (a1 < ((rd_T48 t262 x10_1).f0)) = true := decide_eq_true c22
            clear c22
            have H' := Aside0.mk H
            clear H
            have p270 : 0 ≤ (x10_1 : Int) := of_decide_eq_true (by first | (with_reducible assumption) | assumption)
            have q270 : x10_1 < (t262.length : Int) := of_decide_eq_true (by first | (with_reducible assumption) | assumption)
            obtain ⟨ad270, A270_7, c270_7, e270, hx270_0, hx270_1, hx270_2, hx270_3, hx270_4, hx270_5, hx270_6, hx270_7, hl270_7, hi270_7⟩ := at_T48 (Kd.N_reads' HO_9.out).2.2 x10_1 p270 q270
            cases e270
            obtain ⟨ce270, hce270, hMe270, hcc270⟩ := Kd.N_get HO_9.out z48 x10_1 p270 (by first | exact q270 | exact of_decide_eq_true (by first | (with_reducible assumption) | assumption) | (have e_ := (Kd.N_reads' HO_9.out).1; omega))
            obtain ⟨ua270_7, uc270_7, rfl, ul270_7, ge270_7⟩ := k48_openF hMe270
            have hv270_7 := hcc270 7 _ rfl
            rw [add_field _ _ 7 (by omega)] at hv270_7
            replace hv270_7 := Option.some.inj (hv270_7.symm.trans hx270_7)
            injection hv270_7 with hva_ hvn_ hvc_
            rw [hva_] at ge270_7
            rw [hvc_] at ul270_7
            have HL270_7 := Aside0.mk (show Kd.V (Kd.int .u8) 5 _ w.heap.size _ _ ((rd_T48 t262 x10_1).f7) from Kd.V_mk ul270_7 ge270_7)
            clear hva_ hvn_ hvc_ ge270_7 ul270_7
            clear hcc270 hce270
            have HR270_7 := Aside0.mk hi270_7
            have HC270_7 := Aside0.mk hl270_7
            clear hi270_7 hl270_7
            replace p270 := eq_true p270
            replace q270 := eq_true q270
            have p271 : 0 ≤ (x10_1 : Int) := of_decide_eq_true (by first | (with_reducible assumption) | assumption)
            have q271 : x10_1 < (t262.length : Int) := of_decide_eq_true (by first | (with_reducible assumption) | assumption)
            obtain ⟨ad271, A271_7, c271_7, e271, hx271_0, hx271_1, hx271_2, hx271_3, hx271_4, hx271_5, hx271_6, hx271_7, hl271_7, hi271_7⟩ := at_T48 (Kd.N_reads' HO_9.out).2.2 x10_1 p271 q271
            obtain rfl : ad270 = ad271 := (by injection e271)
            obtain ⟨ce271, hce271, hMe271, hcc271⟩ := Kd.N_get HO_9.out z48 x10_1 p271 (by first | exact q271 | exact of_decide_eq_true (by first | (with_reducible assumption) | assumption) | (have e_ := (Kd.N_reads' HO_9.out).1; omega))
            obtain ⟨ua271_7, uc271_7, rfl, ul271_7, ge271_7⟩ := k48_openF hMe271
            have hv271_7 := hcc271 7 _ rfl
            rw [add_field _ _ 7 (by omega)] at hv271_7
            replace hv271_7 := Option.some.inj (hv271_7.symm.trans hx271_7)
            injection hv271_7 with hva_ hvn_ hvc_
            rw [hva_] at ge271_7
            rw [hvc_] at ul271_7
            have HL271_7 := Aside0.mk (show Kd.V (Kd.int .u8) 5 _ w.heap.size _ _ ((rd_T48 t262 x10_1).f7) from Kd.V_mk ul271_7 ge271_7)
            clear hva_ hvn_ hvc_ ge271_7 ul271_7
            clear hcc271 hce271
            have HR271_7 := Aside0.mk hi271_7
            have HC271_7 := Aside0.mk hl271_7
            clear hi271_7 hl271_7
            replace p271 := eq_true p271
            replace q271 := eq_true q271
            have ea_ := Option.some.inj (hx270_7.symm.trans hx271_7)
            injection ea_ with ea_ en_ ec_
            subst ea_
            subst ec_
            clear en_
            go_wp2
            repeat (go_quiet (fail); try go_wp2)
            go_meet
            case rel => exact ⟨_, (true), (by first | rfl | (simp; done) | (simp [*]; done)), H', ⟨by have := HK1.out; have := HK2.out; first | omega | exact Nat.le_refl _⟩, ⟨nv HO_9.out⟩, ⟨bv HB.out⟩⟩
           ·rw [if_neg c22] at H
            have c22b0 : decide (a1 < ((rd_T48 t262 x10_1).f0)) = false := decide_eq_false c22
            clear c22
            by_cases c23 : ((rd_T48 t262 x10_1).f0) < 0
            ·rw [if_pos c23] at H
             have c23b0 : decide (((rd_T48 t262 x10_1).f0) < 0) = true := decide_eq_true c23
             clear c23
             have H' := Aside0.mk H
             clear H
             have p270 : 0 ≤ (x10_1 : Int) := of_decide_eq_true (by first | (with_reducible assumption) | assumption)
             have q270 : x10_1 < (t262.length : Int) := of_decide_eq_true (by first | (with_reducible assumption) | assumption)
             obtain ⟨ad270, A270_7, c270_7, e270, hx270_0, hx270_1, hx270_2, hx270_3, hx270_4, hx270_5, hx270_6, hx270_7, hl270_7, hi270_7⟩ := at_T48 (Kd.N_reads' HO_9.out).2.2 x10_1 p270 q270
             cases e270
             obtain ⟨ce270, hce270, hMe270, hcc270⟩ := Kd.N_get HO_9.out z48 x10_1 p270 (by first | exact q270 | exact of_decide_eq_true (by first | (with_reducible assumption) | assumption) | (have e_ := (Kd.N_reads' HO_9.out).1; omega))
             obtain ⟨ua270_7, uc270_7, rfl, ul270_7, ge270_7⟩ := k48_openF hMe270
             have hv270_7 := hcc270 7 _ rfl
             rw [add_field _ _ 7 (by omega)] at hv270_7
             replace hv270_7 := Option.some.inj (hv270_7.symm.trans hx270_7)
             injection hv270_7 with hva_ hvn_ hvc_
             rw [hva_] at ge270_7
             rw [hvc_] at ul270_7
             have HL270_7 := Aside0.mk (show Kd.V (Kd.int .u8) 5 _ w.heap.size _ _ ((rd_T48 t262 x10_1).f7) from Kd.V_mk ul270_7 ge270_7)
             clear hva_ hvn_ hvc_ ge270_7 ul270_7
             clear hcc270 hce270
             have HR270_7 := Aside0.mk hi270_7
             have HC270_7 := Aside0.mk hl270_7
             clear hi270_7 hl270_7
             replace p270 := eq_true p270
             replace q270 := eq_true q270
             have p271 : 0 ≤ (x10_1 : Int) := of_decide_eq_true (by first | (with_reducible assumption) | assumption)
             have q271 : x10_1 < (t262.length : Int) := of_decide_eq_true (by first | (with_reducible assumption) | assumption)
             obtain ⟨ad271, A271_7, c271_7, e271, hx271_0, hx271_1, hx271_2, hx271_3, hx271_4, hx271_5, hx271_6, hx271_7, hl271_7, hi271_7⟩ := at_T48 (Kd.N_reads' HO_9.out).2.2 x10_1 p271 q271
             obtain rfl : ad270 = ad271 := (by injection e271)
             obtain ⟨ce271, hce271, hMe271, hcc271⟩ := Kd.N_get HO_9.out z48 x10_1 p271 (by first | exact q271 | exact of_decide_eq_true (by first | (with_reducible assumption) | assumption) | (have e_ := (Kd.N_reads' HO_9.out).1; omega))
             obtain ⟨ua271_7, uc271_7, rfl, ul271_7, ge271_7⟩ := k48_openF hMe271
             have hv271_7 := hcc271 7 _ rfl
             rw [add_field _ _ 7 (by omega)] at hv271_7
             replace hv271_7 := Option.some.inj (hv271_7.symm.trans hx271_7)
             injection hv271_7 with hva_ hvn_ hvc_
             rw [hva_] at ge271_7
             rw [hvc_] at ul271_7
             have HL271_7 := Aside0.mk (show Kd.V (Kd.int .u8) 5 _ w.heap.size _ _ ((rd_T48 t262 x10_1).f7) from Kd.V_mk ul271_7 ge271_7)
             clear hva_ hvn_ hvc_ ge271_7 ul271_7
             clear hcc271 hce271
             have HR271_7 := Aside0.mk hi271_7
             have HC271_7 := Aside0.mk hl271_7
             clear hi271_7 hl271_7
             replace p271 := eq_true p271
             replace q271 := eq_true q271
             have ea_ := Option.some.inj (hx270_7.symm.trans hx271_7)
             injection ea_ with ea_ en_ ec_
             subst ea_
             subst ec_
             clear en_
             have p272 : 0 ≤ (x10_1 : Int) := of_decide_eq_true (by first | (with_reducible assumption) | assumption)
             have q272 : x10_1 < (t262.length : Int) := of_decide_eq_true (by first | (with_reducible assumption) | assumption)
             obtain ⟨ad272, A272_7, c272_7, e272, hx272_0, hx272_1, hx272_2, hx272_3, hx272_4, hx272_5, hx272_6, hx272_7, hl272_7, hi272_7⟩ := at_T48 (Kd.N_reads' HO_9.out).2.2 x10_1 p272 q272
             obtain rfl : ad270 = ad272 := (by injection e272)
             obtain ⟨ce272, hce272, hMe272, hcc272⟩ := Kd.N_get HO_9.out z48 x10_1 p272 (by first | exact q272 | exact of_decide_eq_true (by first | (with_reducible assumption) | assumption) | (have e_ := (Kd.N_reads' HO_9.out).1; omega))
             obtain ⟨ua272_7, uc272_7, rfl, ul272_7, ge272_7⟩ := k48_openF hMe272
             have hv272_7 := hcc272 7 _ rfl
             rw [add_field _ _ 7 (by omega)] at hv272_7
             replace hv272_7 := Option.some.inj (hv272_7.symm.trans hx272_7)
             injection hv272_7 with hva_ hvn_ hvc_
             rw [hva_] at ge272_7
             rw [hvc_] at ul272_7
             have HL272_7 := Aside0.mk (show Kd.V (Kd.int .u8) 5 _ w.heap.size _ _ ((rd_T48 t262 x10_1).f7) from Kd.V_mk ul272_7 ge272_7)
             clear hva_ hvn_ hvc_ ge272_7 ul272_7
             clear hcc272 hce272
             have HR272_7 := Aside0.mk hi272_7
             have HC272_7 := Aside0.mk hl272_7
             clear hi272_7 hl272_7
             replace p272 := eq_true p272
             replace q272 := eq_true q272
             have ea_ := Option.some.inj (hx270_7.symm.trans hx272_7)
             injection ea_ with ea_ en_ ec_
             subst ea_
             subst ec_
             clear en_
             go_wp2
             repeat (go_quiet (fail); try go_wp2)
             go_meet
             case rel => exact ⟨_, (true), (by first | rfl | (simp; done) | (simp [*]; done)), H', ⟨by have := HK1.out; have := HK2.out; first | omega | exact Nat.le_refl _⟩, ⟨nv HO_9.out⟩, ⟨bv HB.out⟩⟩
            ·rw [if_neg c23] at H
             have c23b0 : decide (((rd_T48 t262 x10_1).f0) < 0) = false := decide_eq_false c23
             clear c23
             have H' := Aside0.mk H
             clear H
             have p270 : 0 ≤ (x10_1 : Int) := of_decide_eq_true (by first | (with_reducible assumption) | assumption)
             have q270 : x10_1 < (t262.length : Int) := of_decide_eq_true (by first | (with_reducible assumption) | assumption)
             obtain ⟨ad270, A270_7, c270_7, e270, hx270_0, hx270_1, hx270_2, hx270_3, hx270_4, hx270_5, hx270_6, hx270_7, hl270_7, hi270_7⟩ := at_T48 (Kd.N_reads' HO_9.out).2.2 x10_1 p270 q270
             cases e270
             obtain ⟨ce270, hce270, hMe270, hcc270⟩ := Kd.N_get HO_9.out z48 x10_1 p270 (by first | exact q270 | exact of_decide_eq_true (by first | (with_reducible assumption) | assumption) | (have e_ := (Kd.N_reads' HO_9.out).1; omega))
             obtain ⟨ua270_7, uc270_7, rfl, ul270_7, ge270_7⟩ := k48_openF hMe270
             have hv270_7 := hcc270 7 _ rfl
             rw [add_field _ _ 7 (by omega)] at hv270_7
             replace hv270_7 := Option.some.inj (hv270_7.symm.trans hx270_7)
             injection hv270_7 with hva_ hvn_ hvc_
             rw [hva_] at ge270_7
             rw [hvc_] at ul270_7
             have HL270_7 := Aside0.mk (show Kd.V (Kd.int .u8) 5 _ w.heap.size _ _ ((rd_T48 t262 x10_1).f7) from Kd.V_mk ul270_7 ge270_7)
             clear hva_ hvn_ hvc_ ge270_7 ul270_7
             clear hcc270 hce270
             have HR270_7 := Aside0.mk hi270_7
             have HC270_7 := Aside0.mk hl270_7
             clear hi270_7 hl270_7
             replace p270 := eq_true p270
             replace q270 := eq_true q270
             have p271 : 0 ≤ (x10_1 : Int) := of_decide_eq_true (by first | (with_reducible assumption) | assumption)
             have q271 : x10_1 < (t262.length : Int) := of_decide_eq_true (by first | (with_reducible assumption) | assumption)
             obtain ⟨ad271, A271_7, c271_7, e271, hx271_0, hx271_1, hx271_2, hx271_3, hx271_4, hx271_5, hx271_6, hx271_7, hl271_7, hi271_7⟩ := at_T48 (Kd.N_reads' HO_9.out).2.2 x10_1 p271 q271
             obtain rfl : ad270 = ad271 := (by injection e271)
             obtain ⟨ce271, hce271, hMe271, hcc271⟩ := Kd.N_get HO_9.out z48 x10_1 p271 (by first | exact q271 | exact of_decide_eq_true (by first | (with_reducible assumption) | assumption) | (have e_ := (Kd.N_reads' HO_9.out).1; omega))
             obtain ⟨ua271_7, uc271_7, rfl, ul271_7, ge271_7⟩ := k48_openF hMe271
             have hv271_7 := hcc271 7 _ rfl
             rw [add_field _ _ 7 (by omega)] at hv271_7
             replace hv271_7 := Option.some.inj (hv271_7.symm.trans hx271_7)
             injection hv271_7 with hva_ hvn_ hvc_
             rw [hva_] at ge271_7
             rw [hvc_] at ul271_7
             have HL271_7 := Aside0.mk (show Kd.V (Kd.int .u8) 5 _ w.heap.size _ _ ((rd_T48 t262 x10_1).f7) from Kd.V_mk ul271_7 ge271_7)
             clear hva_ hvn_ hvc_ ge271_7 ul271_7
             clear hcc271 hce271
             have HR271_7 := Aside0.mk hi271_7
             have HC271_7 := Aside0.mk hl271_7
             clear hi271_7 hl271_7
             replace p271 := eq_true p271
             replace q271 := eq_true q271
             have ea_ := Option.some.inj (hx270_7.symm.trans hx271_7)
             injection ea_ with ea_ en_ ec_
             subst ea_
             subst ec_
             clear en_
             have p272 : 0 ≤ (x10_1 : Int) := of_decide_eq_true (by first | (with_reducible assumption) | assumption)
             have q272 : x10_1 < (t262.length : Int) := of_decide_eq_true (by first | (with_reducible assumption) | assumption)
             obtain ⟨ad272, A272_7, c272_7, e272, hx272_0, hx272_1, hx272_2, hx272_3, hx272_4, hx272_5, hx272_6, hx272_7, hl272_7, hi272_7⟩ := at_T48 (Kd.N_reads' HO_9.out).2.2 x10_1 p272 q272
             obtain rfl : ad270 = ad272 := (by injection e272)
             obtain ⟨ce272, hce272, hMe272, hcc272⟩ := Kd.N_get HO_9.out z48 x10_1 p272 (by first | exact q272 | exact of_decide_eq_true (by first | (with_reducible assumption) | assumption) | (have e_ := (Kd.N_reads' HO_9.out).1; omega))
             obtain ⟨ua272_7, uc272_7, rfl, ul272_7, ge272_7⟩ := k48_openF hMe272
             have hv272_7 := hcc272 7 _ rfl
             rw [add_field _ _ 7 (by omega)] at hv272_7
             replace hv272_7 := Option.some.inj (hv272_7.symm.trans hx272_7)
             injection hv272_7 with hva_ hvn_ hvc_
             rw [hva_] at ge272_7
             rw [hvc_] at ul272_7
             have HL272_7 := Aside0.mk (show Kd.V (Kd.int .u8) 5 _ w.heap.size _ _ ((rd_T48 t262 x10_1).f7) from Kd.V_mk ul272_7 ge272_7)
             clear hva_ hvn_ hvc_ ge272_7 ul272_7
             clear hcc272 hce272
             have HR272_7 := Aside0.mk hi272_7
             have HC272_7 := Aside0.mk hl272_7
             clear hi272_7 hl272_7
             replace p272 := eq_true p272
             replace q272 := eq_true q272
             have ea_ := Option.some.inj (hx270_7.symm.trans hx272_7)
             injection ea_ with ea_ en_ ec_
             subst ea_
             subst ec_
             clear en_
             have p273 : 0 ≤ (x10_1 : Int) := of_decide_eq_true (by first | (with_reducible assumption) | assumption)
             have q273 : x10_1 < (t262.length : Int) := of_decide_eq_true (by first | (with_reducible assumption) | assumption)
             obtain ⟨ad273, A273_7, c273_7, e273, hx273_0, hx273_1, hx273_2, hx273_3, hx273_4, hx273_5, hx273_6, hx273_7, hl273_7, hi273_7⟩ := at_T48 (Kd.N_reads' HO_9.out).2.2 x10_1 p273 q273
             obtain rfl : ad270 = ad273 := (by injection e273)
             obtain ⟨ce273, hce273, hMe273, hcc273⟩ := Kd.N_get HO_9.out z48 x10_1 p273 (by first | exact q273 | exact of_decide_eq_true (by first | (with_reducible assumption) | assumption) | (have e_ := (Kd.N_reads' HO_9.out).1; omega))
             obtain ⟨ua273_7, uc273_7, rfl, ul273_7, ge273_7⟩ := k48_openF hMe273
             have hv273_7 := hcc273 7 _ rfl
             rw [add_field _ _ 7 (by omega)] at hv273_7
             replace hv273_7 := Option.some.inj (hv273_7.symm.trans hx273_7)
             injection hv273_7 with hva_ hvn_ hvc_
             rw [hva_] at ge273_7
             rw [hvc_] at ul273_7
             have HL273_7 := Aside0.mk (show Kd.V (Kd.int .u8) 5 _ w.heap.size _ _ ((rd_T48 t262 x10_1).f7) from Kd.V_mk ul273_7 ge273_7)
             clear hva_ hvn_ hvc_ ge273_7 ul273_7
             clear hcc273 hce273
             have HR273_7 := Aside0.mk hi273_7
             have HC273_7 := Aside0.mk hl273_7
             clear hi273_7 hl273_7
             replace p273 := eq_true p273
             replace q273 := eq_true q273
             have ea_ := Option.some.inj (hx270_7.symm.trans hx273_7)
             injection ea_ with ea_ en_ ec_
             subst ea_
             subst ec_
             clear en_
             go_wp2
             repeat (go_quiet (fail); try go_wp2)
             go_meet
             case rel => exact ⟨_, ((((rd_T48 t262 x10_1).f3) == 0)), (by first | rfl | (simp; done) | (simp [*]; done)), H', ⟨by have := HK1.out; have := HK2.out; first | omega | exact Nat.le_refl _⟩, ⟨nv HO_9.out⟩, ⟨bv HB.out⟩⟩
         ·rw [if_neg c20] at H
          exact absurd H (by simp)
        ·rw [if_neg c19] at H
         exact absurd H (by simp)
       case rest =>
        clear HC18
        try clear c1
        try clear c2
        try clear p2
        try clear q2
        try clear hx2
        try clear p6
        try clear c7
        try clear c7b0
        try clear c9
        try clear c9b0
        try clear c10
        try clear c10b0
        try clear c11
        try clear c11b0
        try clear c12
        try clear c12b0
        try clear c13
        try clear c13b0
        try clear c14
        try clear c14b0
        try clear c14b1
        try clear c15
        try clear c15b0
        try clear c19
        try clear c19b0
        try clear c20
        try clear c20b0
        try clear c21
        try clear c21b0
        try clear c22
        try clear c22b0
        try clear c23
        try clear c23b0
        try clear hx265_0
        try clear hx265_1
        try clear hx265_2
        try clear hx265_3
        try clear hx265_4
        try clear hx265_5
        try clear hx265_6
        try clear hx265_7
        try clear hx266_0
        try clear hx266_1
        try clear hx266_2
        try clear hx266_3
        try clear hx266_4
        try clear hx266_5
        try clear hx266_6
        try clear hx266_7
        try clear hx267_0
        try clear hx267_1
        try clear hx267_2
        try clear hx267_3
        try clear hx267_4
        try clear hx267_5
        try clear hx267_6
        try clear hx267_7
        try clear hx268_0
        try clear hx268_1
        try clear hx268_2
        try clear hx268_3
        try clear hx268_4
        try clear hx268_5
        try clear hx268_6
        try clear hx268_7
        try clear hx270_0
        try clear hx270_1
        try clear hx270_2
        try clear hx270_3
        try clear hx270_4
        try clear hx270_5
        try clear hx270_6
        try clear hx270_7
        try clear hx271_0
        try clear hx271_1
        try clear hx271_2
        try clear hx271_3
        try clear hx271_4
        try clear hx271_5
        try clear hx271_6
        try clear hx271_7
        try clear hx272_0
        try clear hx272_1
        try clear hx272_2
        try clear hx272_3
        try clear hx272_4
        try clear hx272_5
        try clear hx272_6
        try clear hx272_7
        try clear hx273_0
        try clear hx273_1
        try clear hx273_2
        try clear hx273_3
        try clear hx273_4
        try clear hx273_5
        try clear hx273_6
        try clear hx273_7
        try clear p2
        try clear p265
        try clear p266
        try clear p267
        try clear p268
        try clear p270
        try clear p271
        try clear p272
        try clear p273
        try clear q265
        try clear q266
        try clear q267
        try clear q268
        try clear q270
        try clear q271
        try clear q272
        try clear q273
        obtain ⟨kq, x89_17, rfl, HA, HJ17, HO_9, HB⟩ := hcut
        cases kq with
        | zero => exact absurd HA.out (by simp [deadeyelaw10_KeysAgain.j2])
        | succ kj17 =>
         have H := HA.out
         clear HA
         simp only [deadeyelaw10_KeysAgain.j2] at H
         by_cases c24 : x89_17 = true
         ·subst c24
          have H1 : ((deadeyelaw10_awake.f kj17).bind fun t274 => (some t274)) = some r := by rw [if_pos rfl] at H; exact H
          clear H
          have H := H1
          clear H1
          replace H := Option.bind_eq_some_iff.mp H
          obtain ⟨t274, A250, H⟩ := H
          replace H : (some t274) = some r := H
          have A25 := Aside0.mk A250
          clear A250
          obtain rfl := Option.some.inj H
          go_wp2_with (first | (go_at_call 24; (with_reducible refine (deadeyelaw10_awake.calls kj17  t274 _ A25.out).mono ?_); rintro e w26 ⟨rfl, hb⟩; have n0_ := Aside0.mk (Kd.N_below (nv HO_9.out) hb); have n1_ := Aside0.mk (below_step (bv HB.out) hb); clear HO_9; clear HB; have HO_9 := n0_; have HB := n1_; clear n0_ n1_; (try clear hb); (try clear hb2); (try clear hk); (try clear hi)))
          repeat (go_quiet (first | (go_at_call 24; (with_reducible refine (deadeyelaw10_awake.calls kj17  t274 _ A25.out).mono ?_); rintro e w26 ⟨rfl, hb⟩; have n0_ := Aside0.mk (Kd.N_below (nv HO_9.out) hb); have n1_ := Aside0.mk (below_step (bv HB.out) hb); clear HO_9; clear HB; have HO_9 := n0_; have HB := n1_; clear n0_ n1_; (try clear hb); (try clear hb2); (try clear hk); (try clear hi))); try go_wp2_with (first | (go_at_call 24; (with_reducible refine (deadeyelaw10_awake.calls kj17  t274 _ A25.out).mono ?_); rintro e w26 ⟨rfl, hb⟩; have n0_ := Aside0.mk (Kd.N_below (nv HO_9.out) hb); have n1_ := Aside0.mk (below_step (bv HB.out) hb); clear HO_9; clear HB; have HO_9 := n0_; have HB := n1_; clear n0_ n1_; (try clear hb); (try clear hb2); (try clear hk); (try clear hi))))
          go_ret
          exact ⟨by first | rfl | (simp [errW_none, errW_some] <;> rfl) | (simp [*, errW_none, errW_some] <;> rfl), bv HB.out⟩
         ·replace c24 := Bool.eq_false_iff.mpr c24
          subst c24
          have H1 : (deadeyelaw10_KeysAgain.l0 kj17 a1 a2 a3 t262 (wrap64 (x10_1 + 1))) = some r := by rw [if_neg (show ¬ (false = true) by decide)] at H; exact H
          clear H
          have H := H1
          clear H1
          have H' := Aside0.mk H
          clear H
          go_wp2
          repeat (go_quiet (fail); try go_wp2)
          go_roundg kj17
          case measure => have := HK1.out; have := HK2.out; have := HJ17.out; omega
          case rel => exact ⟨(wrap64 (x10_1 + 1)), (by first | rfl | (simp; done) | (simp [*]; done)), H', ⟨by have := HK1.out; have := HK2.out; have := HJ17.out; omega⟩, ⟨nv HO_9.out⟩, ⟨bv HB.out⟩⟩
   ·rw [if_neg c7] at H
    have c7b0 : decide (x10_1 < (t262.length : Int)) = false := decide_eq_false c7
    clear c7
    replace H := Option.bind_eq_some_iff.mp H
    obtain ⟨t275, A270, H⟩ := H
    replace H : ((keys_Find.f k1 t262 a2 a1).bind fun bt278 => ((keys_Find.f k1 t275 a2 a1).bind fun bt290 => ((keys_Num.f k1 t262 (wrap64 (a3))).bind fun bt302 => ((keys_Num.f k1 t275 (wrap64 (a3))).bind fun bt304 => (if bt278.2.2.2.2.2.2.2.2 = true then (if (bt290.2.2.2.2.2.2.2.2 != (bt278.2.2.2.1 == 1)) = true then (deadeyelaw10_KeysAgain.j3 k1 a1 t262 t275 true) else (if bt290.2.2.2.2.2.2.2.2 = true then ((deadeyeref07_Same.f bt278.1 bt278.2.1 bt278.2.2.1 bt278.2.2.2.1 bt278.2.2.2.2.1 bt278.2.2.2.2.2.1 bt278.2.2.2.2.2.2.1 bt278.2.2.2.2.2.2.2.1 bt290.1 bt290.2.1 bt290.2.2.1 bt290.2.2.2.1 bt290.2.2.2.2.1 bt290.2.2.2.2.2.1 bt290.2.2.2.2.2.2.1 bt290.2.2.2.2.2.2.2.1).bind fun t306 => (if t306 = true then (deadeyelaw10_KeysAgain.j3 k1 a1 t262 t275 (bt302.1 != bt304.1)) else (deadeyelaw10_KeysAgain.j3 k1 a1 t262 t275 true))) else (deadeyelaw10_KeysAgain.j3 k1 a1 t262 t275 (bt302.1 != bt304.1)))) else (if (bt290.2.2.2.2.2.2.2.2 != false) = true then (deadeyelaw10_KeysAgain.j3 k1 a1 t262 t275 true) else (if bt290.2.2.2.2.2.2.2.2 = true then ((deadeyeref07_Same.f bt278.1 bt278.2.1 bt278.2.2.1 bt278.2.2.2.1 bt278.2.2.2.2.1 bt278.2.2.2.2.2.1 bt278.2.2.2.2.2.2.1 bt278.2.2.2.2.2.2.2.1 bt290.1 bt290.2.1 bt290.2.2.1 bt290.2.2.2.1 bt290.2.2.2.2.1 bt290.2.2.2.2.2.1 bt290.2.2.2.2.2.2.1 bt290.2.2.2.2.2.2.2.1).bind fun t307 => (if t307 = true then (deadeyelaw10_KeysAgain.j3 k1 a1 t262 t275 (bt302.1 != bt304.1)) else (deadeyelaw10_KeysAgain.j3 k1 a1 t262 t275 true))) else (deadeyelaw10_KeysAgain.j3 k1 a1 t262 t275 (bt302.1 != bt304.1))))))))) = some r := H
    have A27 := Aside0.mk A270
    clear A270
    replace H := Option.bind_eq_some_iff.mp H
    obtain ⟨⟨t278, t279, t280, t281, t282, t283, t284, t285, t288⟩, A280, H⟩ := H
    replace H : ((keys_Find.f k1 t275 a2 a1).bind fun bt290 => ((keys_Num.f k1 t262 (wrap64 (a3))).bind fun bt302 => ((keys_Num.f k1 t275 (wrap64 (a3))).bind fun bt304 => (if t288 = true then (if (bt290.2.2.2.2.2.2.2.2 != (t281 == 1)) = true then (deadeyelaw10_KeysAgain.j3 k1 a1 t262 t275 true) else (if bt290.2.2.2.2.2.2.2.2 = true then ((deadeyeref07_Same.f t278 t279 t280 t281 t282 t283 t284 t285 bt290.1 bt290.2.1 bt290.2.2.1 bt290.2.2.2.1 bt290.2.2.2.2.1 bt290.2.2.2.2.2.1 bt290.2.2.2.2.2.2.1 bt290.2.2.2.2.2.2.2.1).bind fun t306 => (if t306 = true then (deadeyelaw10_KeysAgain.j3 k1 a1 t262 t275 (bt302.1 != bt304.1)) else (deadeyelaw10_KeysAgain.j3 k1 a1 t262 t275 true))) else (deadeyelaw10_KeysAgain.j3 k1 a1 t262 t275 (bt302.1 != bt304.1)))) else (if (bt290.2.2.2.2.2.2.2.2 != false) = true then (deadeyelaw10_KeysAgain.j3 k1 a1 t262 t275 true) else (if bt290.2.2.2.2.2.2.2.2 = true then ((deadeyeref07_Same.f t278 t279 t280 t281 t282 t283 t284 t285 bt290.1 bt290.2.1 bt290.2.2.1 bt290.2.2.2.1 bt290.2.2.2.2.1 bt290.2.2.2.2.2.1 bt290.2.2.2.2.2.2.1 bt290.2.2.2.2.2.2.2.1).bind fun t307 => (if t307 = true then (deadeyelaw10_KeysAgain.j3 k1 a1 t262 t275 (bt302.1 != bt304.1)) else (deadeyelaw10_KeysAgain.j3 k1 a1 t262 t275 true))) else (deadeyelaw10_KeysAgain.j3 k1 a1 t262 t275 (bt302.1 != bt304.1)))))))) = some r := H
    have A28 := Aside0.mk A280
    clear A280
    replace H := Option.bind_eq_some_iff.mp H
    obtain ⟨⟨t290, t291, t292, t293, t294, t295, t296, t297, t300⟩, A290, H⟩ := H
    replace H : ((keys_Num.f k1 t262 (wrap64 (a3))).bind fun bt302 => ((keys_Num.f k1 t275 (wrap64 (a3))).bind fun bt304 => (if t288 = true then (if (t300 != (t281 == 1)) = true then (deadeyelaw10_KeysAgain.j3 k1 a1 t262 t275 true) else (if t300 = true then ((deadeyeref07_Same.f t278 t279 t280 t281 t282 t283 t284 t285 t290 t291 t292 t293 t294 t295 t296 t297).bind fun t306 => (if t306 = true then (deadeyelaw10_KeysAgain.j3 k1 a1 t262 t275 (bt302.1 != bt304.1)) else (deadeyelaw10_KeysAgain.j3 k1 a1 t262 t275 true))) else (deadeyelaw10_KeysAgain.j3 k1 a1 t262 t275 (bt302.1 != bt304.1)))) else (if (t300 != false) = true then (deadeyelaw10_KeysAgain.j3 k1 a1 t262 t275 true) else (if t300 = true then ((deadeyeref07_Same.f t278 t279 t280 t281 t282 t283 t284 t285 t290 t291 t292 t293 t294 t295 t296 t297).bind fun t307 => (if t307 = true then (deadeyelaw10_KeysAgain.j3 k1 a1 t262 t275 (bt302.1 != bt304.1)) else (deadeyelaw10_KeysAgain.j3 k1 a1 t262 t275 true))) else (deadeyelaw10_KeysAgain.j3 k1 a1 t262 t275 (bt302.1 != bt304.1))))))) = some r := H
    have A29 := Aside0.mk A290
    clear A290
    replace H := Option.bind_eq_some_iff.mp H
    obtain ⟨⟨t302, t303⟩, A300, H⟩ := H
    replace H : ((keys_Num.f k1 t275 (wrap64 (a3))).bind fun bt304 => (if t288 = true then (if (t300 != (t281 == 1)) = true then (deadeyelaw10_KeysAgain.j3 k1 a1 t262 t275 true) else (if t300 = true then ((deadeyeref07_Same.f t278 t279 t280 t281 t282 t283 t284 t285 t290 t291 t292 t293 t294 t295 t296 t297).bind fun t306 => (if t306 = true then (deadeyelaw10_KeysAgain.j3 k1 a1 t262 t275 (t302 != bt304.1)) else (deadeyelaw10_KeysAgain.j3 k1 a1 t262 t275 true))) else (deadeyelaw10_KeysAgain.j3 k1 a1 t262 t275 (t302 != bt304.1)))) else (if (t300 != false) = true then (deadeyelaw10_KeysAgain.j3 k1 a1 t262 t275 true) else (if t300 = true then ((deadeyeref07_Same.f t278 t279 t280 t281 t282 t283 t284 t285 t290 t291 t292 t293 t294 t295 t296 t297).bind fun t307 => (if t307 = true then (deadeyelaw10_KeysAgain.j3 k1 a1 t262 t275 (t302 != bt304.1)) else (deadeyelaw10_KeysAgain.j3 k1 a1 t262 t275 true))) else (deadeyelaw10_KeysAgain.j3 k1 a1 t262 t275 (t302 != bt304.1)))))) = some r := H
    have A30 := Aside0.mk A300
    clear A300
    replace H := Option.bind_eq_some_iff.mp H
    obtain ⟨⟨t304, t305⟩, A310, H⟩ := H
    replace H : (if t288 = true then (if (t300 != (t281 == 1)) = true then (deadeyelaw10_KeysAgain.j3 k1 a1 t262 t275 true) else (if t300 = true then ((deadeyeref07_Same.f t278 t279 t280 t281 t282 t283 t284 t285 t290 t291 t292 t293 t294 t295 t296 t297).bind fun t306 => (if t306 = true then (deadeyelaw10_KeysAgain.j3 k1 a1 t262 t275 (t302 != t304)) else (deadeyelaw10_KeysAgain.j3 k1 a1 t262 t275 true))) else (deadeyelaw10_KeysAgain.j3 k1 a1 t262 t275 (t302 != t304)))) else (if (t300 != false) = true then (deadeyelaw10_KeysAgain.j3 k1 a1 t262 t275 true) else (if t300 = true then ((deadeyeref07_Same.f t278 t279 t280 t281 t282 t283 t284 t285 t290 t291 t292 t293 t294 t295 t296 t297).bind fun t307 => (if t307 = true then (deadeyelaw10_KeysAgain.j3 k1 a1 t262 t275 (t302 != t304)) else (deadeyelaw10_KeysAgain.j3 k1 a1 t262 t275 true))) else (deadeyelaw10_KeysAgain.j3 k1 a1 t262 t275 (t302 != t304))))) = some r := H
    have A31 := Aside0.mk A310
    clear A310
    have HC32 := Aside0.mk H
    clear H
    obtain ⟨Ao33, co33, eo33⟩ := Kd.N_slice HO_9.out
    subst eo33
    go_upto_region 17 with (first | (go_at_call 32; (with_reducible refine (keys_Live.calls (fun k_ => True) _ _ t262 a1 t275 _ ?side1 A27.out).mono ?_); (case side1 => exact Kd.N_V (HO_9.out)); rintro e w34 ⟨v276, rfl, ho0, hb⟩; have n0_ := Aside0.mk (Kd.N_elder' (nv HO_9.out) (Kd.N_base ho0) hb); have n1_ := Aside0.mk (Kd.N_lower (Kd.N_mono (ok' := fun k_ => True) ho0 (fun k_ hk_ => trivial)) (below_size (bv HB.out))); have n2_ := Aside0.mk (below_step (bv HB.out) hb); clear HO_9; clear HB; have HO_9 := n0_; have HO277 := n1_; have HB := n2_; clear n0_ n1_ n2_; (try clear hb); (try clear hb2); (try clear hk); (try clear hi); (try clear ho0)) | (go_at_call 22; (with_reducible refine (keys_Find.calls k1 (fun k_ => (True ∧ some k_ ≠ (v276 : Value).ownBlock)) _ _ t262 a2 a1 t278 t279 t280 t281 t282 t283 t284 t285 t288 _ ?side1 A28.out).mono ?_); (case side1 => exact Kd.N_V (HO_9.out)); rintro e w35 ⟨v286, rfl, ho0, hb⟩; have n0_ := Aside0.mk (Kd.N_below (nv HO_9.out) hb); have n1_ := Aside0.mk (Kd.N_below (nv HO277.out) hb); have n2_ := Aside0.mk (Kd.V_lower (Kd.V_mono (ok' := fun k_ => some k_ ≠ (v276 : Value).ownBlock) ho0 (fun k_ hk_ => Or.elim hk_ (fun hs_ => hs_.2) (fun hn_ => (Kd.fresh' (Kd.N_lt (nv HO277.out)) k_ hn_)))) (below_size (bv HB.out))); have n3_ := Aside0.mk (below_step (bv HB.out) hb); clear HO_9; clear HO277; clear HB; have HO_9 := n0_; have HO277 := n1_; have HO287 := n2_; have HB := n3_; clear n0_ n1_ n2_ n3_; (try clear hb); (try clear hb2); (try clear hk); (try clear hi); (try clear ho0)) | ((with_reducible refine gate_dst (N := 13) rfl ?_); refine box_event ?hg (N := 13) ?hd (cs := #[.int .i64 0, .int .i64 0, .int .i64 0, .int .i64 0, .string (⟨#[]⟩ : ByteArray), .int .i64 0, .int .u32 0, .slice none 0 0]) (t := 48) ?hr ?_; (case hd => rfl); (case hg => rfl); (case hr => first | (go_simp; done) | (go_simp; rfl)); intro gb289 hg w36 hbox hb; have n0_ := Aside0.mk (Kd.N_below (Kd.N_elderB (nv HO_9.out) gb289 (Nat.le_of_eq hg.symm)) hb); have n1_ := Aside0.mk (Kd.N_below (Kd.N_elderB (nv HO277.out) gb289 (Nat.le_of_eq hg.symm)) hb); have n2_ := Aside0.mk (Kd.V_below (Kd.V_elderB (vv HO287.out) gb289 (Nat.le_of_eq hg.symm)) hb); have n3_ := Aside0.mk (below_step (bv HB.out) hb); have n4_ := Aside0.mk (hbox); have n5_ := Aside0.mk ((by rw [hg]; exact (below_size (bv HB.out)) : w.heap.size ≤ gb289)); have n6_ := Aside0.mk ((by rw [hg]; exact (below_size (bv HB.out)) : w.heap.size ≤ gb289)); clear HO_9; clear HO277; clear HO287; clear HB; have HO_9 := n0_; have HO277 := n1_; have HO287 := n2_; have HB := n3_; have BK289 := n4_; have GW289 := n5_; have GE289 := n6_; clear n0_ n1_ n2_ n3_ n4_ n5_ n6_; clear hb hbox hg; have hcz37_0 : w36.cell? ⟨gb289, 0, none⟩ = some (.int .i64 0) := (blk_cell BK289.out 0).trans rfl; have hcz37_1 : w36.cell? ⟨gb289, 1, none⟩ = some (.int .i64 0) := (blk_cell BK289.out 1).trans rfl; have hcz37_2 : w36.cell? ⟨gb289, 2, none⟩ = some (.int .i64 0) := (blk_cell BK289.out 2).trans rfl; have hcz37_3 : w36.cell? ⟨gb289, 3, none⟩ = some (.int .i64 0) := (blk_cell BK289.out 3).trans rfl; have hcz37_4 : w36.cell? ⟨gb289, 4, none⟩ = some (.string (⟨#[]⟩ : ByteArray)) := (blk_cell BK289.out 4).trans rfl; have hcz37_5 : w36.cell? ⟨gb289, 5, none⟩ = some (.int .i64 0) := (blk_cell BK289.out 5).trans rfl; have hcz37_6 : w36.cell? ⟨gb289, 6, none⟩ = some (.int .u32 0) := (blk_cell BK289.out 6).trans rfl; have hcz37_7 : w36.cell? ⟨gb289, 7, none⟩ = some (.slice none 0 0) := (blk_cell BK289.out 7).trans rfl; have hfz37_0 := blk_frozen BK289.out 0; have hfz37_1 := blk_frozen BK289.out 1; have hfz37_2 := blk_frozen BK289.out 2; have hfz37_3 := blk_frozen BK289.out 3; have hfz37_4 := blk_frozen BK289.out 4; have hfz37_5 := blk_frozen BK289.out 5; have hfz37_6 := blk_frozen BK289.out 6; have hfz37_7 := blk_frozen BK289.out 7; obtain ⟨Ao38, co38, eo38⟩ := Kd.V_slice HO287.out; subst eo38) | ((with_reducible refine gate_store (t := 48) (p := 13) rfl ?_); (try (rw [drewN_self w36]; generalize hq_ : World.drewN w36 _ = w36; have n0_ := Aside0.mk (Kd.N_at hq_ HO_9.out); have n1_ := Aside0.mk (Kd.N_at hq_ HO277.out); have n2_ := Aside0.mk (Kd.V_at hq_ HO287.out); have n3_ := Aside0.mk (blk_at hq_ BK289.out); have n4_ := Aside0.mk (below_at hq_ HB.out); clear hq_ HO_9 HO277 HO287 BK289 HB; have HO_9 := n0_; have HO277 := n1_; have HO287 := n2_; have BK289 := n3_; have HB := n4_; clear n0_ n1_ n2_ n3_ n4_)); refine store_event (t := 48) (p := 13) (v := ?vo_w39) (w1 := ((((((((w36.setCell ⟨gb289, 0, none⟩ (.int .i64 t278)).setCell ⟨gb289, 1, none⟩ (.int .i64 t279)).setCell ⟨gb289, 2, none⟩ (.int .i64 t280)).setCell ⟨gb289, 3, none⟩ (.int .i64 t281)).setCell ⟨gb289, 4, none⟩ (.string t282)).setCell ⟨gb289, 5, none⟩ (.int .i64 t283)).setCell ⟨gb289, 6, none⟩ (.int .u32 t284)).setCell ⟨gb289, 7, none⟩ (.slice Ao38 t285.length co38))) ?hg ?ho ?hn ?hr ?_; (case ho => rfl); (case hg => rfl); (case hn => rfl); (case hr => first | (go_simp; done) | (go_simp; rfl)); intro w39 hw; have n0_ : Aside0 (Kd.N k48 48 w39 w.heap.size (fun k_ => some k_ ≠ (v276 : Value).ownBlock ∧ k_ ≠ gb289) (.slice Ao33 t262.length co33) t262) := ⟨(by rw [hw]; exact (by (with_reducible repeat (first | apply Kd.N_alloc | apply Kd.N_drewN | apply Kd.N_drew)); exact Kd.N_mono (Kd.N_far (p := ⟨gb289, 7, none⟩) (Kd.N_far (p := ⟨gb289, 6, none⟩) (Kd.N_far (p := ⟨gb289, 5, none⟩) (Kd.N_far (p := ⟨gb289, 4, none⟩) (Kd.N_far (p := ⟨gb289, 3, none⟩) (Kd.N_far (p := ⟨gb289, 2, none⟩) (Kd.N_far (p := ⟨gb289, 1, none⟩) (Kd.N_far (p := ⟨gb289, 0, none⟩) (Kd.N_mono HO_9.out (fun k_ hk => (⟨hk, hk.2⟩ : _ ∧ k_ ≠ gb289))) (fun _ hk => hk.2) (.int .i64 t278)) (fun _ hk => hk.2) (.int .i64 t279)) (fun _ hk => hk.2) (.int .i64 t280)) (fun _ hk => hk.2) (.int .i64 t281)) (fun _ hk => hk.2) (.string t282)) (fun _ hk => hk.2) (.int .i64 t283)) (fun _ hk => hk.2) (.int .u32 t284)) (fun _ hk => hk.2) (.slice Ao38 t285.length co38)) (fun _ hk => ⟨hk.1.1.2, hk.1.2⟩)))⟩; have n1_ : Aside0 (Kd.N k48 48 w39 w.heap.size (fun k_ => k_ ≠ gb289) v276 t275) := ⟨(by rw [hw]; exact (by (with_reducible repeat (first | apply Kd.N_alloc | apply Kd.N_drewN | apply Kd.N_drew)); exact Kd.N_mono (Kd.N_far (p := ⟨gb289, 7, none⟩) (Kd.N_far (p := ⟨gb289, 6, none⟩) (Kd.N_far (p := ⟨gb289, 5, none⟩) (Kd.N_far (p := ⟨gb289, 4, none⟩) (Kd.N_far (p := ⟨gb289, 3, none⟩) (Kd.N_far (p := ⟨gb289, 2, none⟩) (Kd.N_far (p := ⟨gb289, 1, none⟩) (Kd.N_far (p := ⟨gb289, 0, none⟩) (Kd.N_mono HO277.out (fun k_ hk => (⟨hk, hk.2⟩ : _ ∧ k_ ≠ gb289))) (fun _ hk => hk.2) (.int .i64 t278)) (fun _ hk => hk.2) (.int .i64 t279)) (fun _ hk => hk.2) (.int .i64 t280)) (fun _ hk => hk.2) (.int .i64 t281)) (fun _ hk => hk.2) (.string t282)) (fun _ hk => hk.2) (.int .i64 t283)) (fun _ hk => hk.2) (.int .u32 t284)) (fun _ hk => hk.2) (.slice Ao38 t285.length co38)) (fun _ hk => hk.1.2)))⟩; have n2_ : Aside0 (Kd.V (Kd.int .u8) 5 w39 w.heap.size (fun k_ => some k_ ≠ (v276 : Value).ownBlock ∧ k_ ≠ gb289) (.slice Ao38 t285.length co38) t285) := ⟨(by rw [hw]; exact (by (with_reducible repeat (first | apply Kd.V_alloc | apply Kd.V_drewN | apply Kd.V_drew)); exact Kd.V_mono (Kd.V_far (p := ⟨gb289, 7, none⟩) (Kd.V_far (p := ⟨gb289, 6, none⟩) (Kd.V_far (p := ⟨gb289, 5, none⟩) (Kd.V_far (p := ⟨gb289, 4, none⟩) (Kd.V_far (p := ⟨gb289, 3, none⟩) (Kd.V_far (p := ⟨gb289, 2, none⟩) (Kd.V_far (p := ⟨gb289, 1, none⟩) (Kd.V_far (p := ⟨gb289, 0, none⟩) (Kd.V_mono HO287.out (fun k_ hk => (⟨hk, hk.2⟩ : _ ∧ k_ ≠ gb289))) (fun _ hk => hk.2) (.int .i64 t278)) (fun _ hk => hk.2) (.int .i64 t279)) (fun _ hk => hk.2) (.int .i64 t280)) (fun _ hk => hk.2) (.int .i64 t281)) (fun _ hk => hk.2) (.string t282)) (fun _ hk => hk.2) (.int .i64 t283)) (fun _ hk => hk.2) (.int .u32 t284)) (fun _ hk => hk.2) (.slice Ao38 t285.length co38)) (fun _ hk => ⟨hk.1.1, hk.1.2⟩)))⟩; have n3_ : Aside0 (w39.heap[gb289]? = some (.cells #[.int .i64 t278, .int .i64 t279, .int .i64 t280, .int .i64 t281, .string t282, .int .i64 t283, .int .u32 t284, .slice Ao38 t285.length co38] 48 (0, 0))) := ⟨(by rw [hw]; exact (by (with_reducible repeat (first | refine blk_drewN ?_ _ | refine blk_drew ?_ | refine blk_alloc ?_ _)); refine blk_put (cs := #[.int .i64 t278, .int .i64 t279, .int .i64 t280, .int .i64 t281, .string t282, .int .i64 t283, .int .u32 t284, .slice none 0 0]) ?_ 7 _ rfl; (with_reducible repeat (first | refine blk_drewN ?_ _ | refine blk_drew ?_ | refine blk_alloc ?_ _)); refine blk_put (cs := #[.int .i64 t278, .int .i64 t279, .int .i64 t280, .int .i64 t281, .string t282, .int .i64 t283, .int .u32 0, .slice none 0 0]) ?_ 6 _ rfl; (with_reducible repeat (first | refine blk_drewN ?_ _ | refine blk_drew ?_ | refine blk_alloc ?_ _)); refine blk_put (cs := #[.int .i64 t278, .int .i64 t279, .int .i64 t280, .int .i64 t281, .string t282, .int .i64 0, .int .u32 0, .slice none 0 0]) ?_ 5 _ rfl; (with_reducible repeat (first | refine blk_drewN ?_ _ | refine blk_drew ?_ | refine blk_alloc ?_ _)); refine blk_put (cs := #[.int .i64 t278, .int .i64 t279, .int .i64 t280, .int .i64 t281, .string (⟨#[]⟩ : ByteArray), .int .i64 0, .int .u32 0, .slice none 0 0]) ?_ 4 _ rfl; (with_reducible repeat (first | refine blk_drewN ?_ _ | refine blk_drew ?_ | refine blk_alloc ?_ _)); refine blk_put (cs := #[.int .i64 t278, .int .i64 t279, .int .i64 t280, .int .i64 0, .string (⟨#[]⟩ : ByteArray), .int .i64 0, .int .u32 0, .slice none 0 0]) ?_ 3 _ rfl; (with_reducible repeat (first | refine blk_drewN ?_ _ | refine blk_drew ?_ | refine blk_alloc ?_ _)); refine blk_put (cs := #[.int .i64 t278, .int .i64 t279, .int .i64 0, .int .i64 0, .string (⟨#[]⟩ : ByteArray), .int .i64 0, .int .u32 0, .slice none 0 0]) ?_ 2 _ rfl; (with_reducible repeat (first | refine blk_drewN ?_ _ | refine blk_drew ?_ | refine blk_alloc ?_ _)); refine blk_put (cs := #[.int .i64 t278, .int .i64 0, .int .i64 0, .int .i64 0, .string (⟨#[]⟩ : ByteArray), .int .i64 0, .int .u32 0, .slice none 0 0]) ?_ 1 _ rfl; (with_reducible repeat (first | refine blk_drewN ?_ _ | refine blk_drew ?_ | refine blk_alloc ?_ _)); refine blk_put (cs := #[.int .i64 0, .int .i64 0, .int .i64 0, .int .i64 0, .string (⟨#[]⟩ : ByteArray), .int .i64 0, .int .u32 0, .slice none 0 0]) ?_ 0 _ rfl; (with_reducible repeat (first | refine blk_drewN ?_ _ | refine blk_drew ?_ | refine blk_alloc ?_ _)); exact BK289.out))⟩; have n4_ : Aside0 (Below w.heap.size w w39) := ⟨(by rw [hw]; exact (by repeat (first | (with_reducible first | exact HB.out | apply below_alloc | apply pw_below_drewN | apply below_drew1 | refine below_set ?_ GE289.out) | exact HB.out)))⟩; clear hw; clear HO_9; clear HO277; clear HO287; clear BK289; clear HB; have HO_9 := n0_; have HO277 := n1_; have HO287 := n2_; have BK289 := n3_; have HB := n4_; clear n0_ n1_ n2_ n3_ n4_; obtain ⟨Ao40, co40, eo40⟩ := Kd.N_slice HO277.out; subst eo40) | (go_at_call 22; (with_reducible refine (keys_Find.calls k1 (fun k_ => k_ ≠ gb289) _ _ t275 a2 a1 t290 t291 t292 t293 t294 t295 t296 t297 t300 _ ?side1 A29.out).mono ?_); (case side1 => exact Kd.N_V (HO277.out)); rintro e w41 ⟨v298, rfl, ho0, hb⟩; have n0_ := Aside0.mk (Kd.N_below (nv HO_9.out) hb); have n1_ := Aside0.mk (Kd.N_below (nv HO277.out) hb); have n2_ := Aside0.mk (Kd.V_below (vv HO287.out) hb); have n3_ := Aside0.mk (Kd.V_lower (Kd.V_mono (ok' := fun k_ => k_ ≠ gb289) ho0 (fun k_ hk_ => Or.elim hk_ (fun hs_ => hs_) (fun hn_ => (Kd.freshB (g := gb289) (o := .cells #[.int .i64 t278, .int .i64 t279, .int .i64 t280, .int .i64 t281, .string t282, .int .i64 t283, .int .u32 t284, .slice Ao38 t285.length co38] 48 (0, 0)) (kv BK289.out) k_ hn_)))) (below_size (by repeat (first | (with_reducible first | exact HB.out | apply below_alloc | apply pw_below_drewN | apply below_drew1 | refine below_set ?_ GE289.out) | exact HB.out)))); have n4_ := Aside0.mk (blk_below (kv BK289.out) hb); have n5_ := Aside0.mk (below_step (by repeat (first | (with_reducible first | exact HB.out | apply below_alloc | apply pw_below_drewN | apply below_drew1 | refine below_set ?_ GE289.out) | exact HB.out)) hb); clear HO_9; clear HO277; clear HO287; clear BK289; clear HB; have HO_9 := n0_; have HO277 := n1_; have HO287 := n2_; have HO299 := n3_; have BK289 := n4_; have HB := n5_; clear n0_ n1_ n2_ n3_ n4_ n5_; (try clear hb); (try clear hb2); (try clear hk); (try clear hi); (try clear ho0)) | ((with_reducible refine gate_dst (N := 15) rfl ?_); refine box_event ?hg (N := 15) ?hd (cs := #[.int .i64 0, .int .i64 0, .int .i64 0, .int .i64 0, .string (⟨#[]⟩ : ByteArray), .int .i64 0, .int .u32 0, .slice none 0 0]) (t := 48) ?hr ?_; (case hd => rfl); (case hg => rfl); (case hr => first | (go_simp; done) | (go_simp; rfl)); intro gb301 hg w42 hbox hb; have n0_ := Aside0.mk (Kd.N_below (Kd.N_elderB (nv HO_9.out) gb301 (Nat.le_of_eq hg.symm)) hb); have n1_ := Aside0.mk (Kd.N_below (Kd.N_elderB (nv HO277.out) gb301 (Nat.le_of_eq hg.symm)) hb); have n2_ := Aside0.mk (Kd.V_below (Kd.V_elderB (vv HO287.out) gb301 (Nat.le_of_eq hg.symm)) hb); have n3_ := Aside0.mk (Kd.V_below (Kd.V_elderB (vv HO299.out) gb301 (Nat.le_of_eq hg.symm)) hb); have n4_ := Aside0.mk (blk_below (kv BK289.out) hb); have n5_ := Aside0.mk (below_step (by repeat (first | (with_reducible first | exact HB.out | apply below_alloc | apply pw_below_drewN | apply below_drew1 | refine below_set ?_ GE289.out) | exact HB.out)) hb); have n6_ := Aside0.mk (hbox); have n7_ := Aside0.mk ((by rw [hg]; exact (below_size (by repeat (first | (with_reducible first | exact HB.out | apply below_alloc | apply pw_below_drewN | apply below_drew1 | refine below_set ?_ GE289.out) | exact HB.out))) : w.heap.size ≤ gb301)); have n8_ := Aside0.mk ((by rw [hg]; exact (below_size (by repeat (first | (with_reducible first | exact HB.out | apply below_alloc | apply pw_below_drewN | apply below_drew1 | refine below_set ?_ GE289.out) | exact HB.out))) : w.heap.size ≤ gb301)); have n9_ := Aside0.mk ((by rw [hg]; exact Nat.ne_of_lt (blk_lt (g := gb289) (o := .cells #[.int .i64 t278, .int .i64 t279, .int .i64 t280, .int .i64 t281, .string t282, .int .i64 t283, .int .u32 t284, .slice Ao38 t285.length co38] 48 (0, 0)) (kv BK289.out)) : gb289 ≠ gb301)); have n10_ := Aside0.mk ((by rw [hg]; exact Nat.ne_of_gt (blk_lt (g := gb289) (o := .cells #[.int .i64 t278, .int .i64 t279, .int .i64 t280, .int .i64 t281, .string t282, .int .i64 t283, .int .u32 t284, .slice Ao38 t285.length co38] 48 (0, 0)) (kv BK289.out)) : gb301 ≠ gb289)); clear HO_9; clear HO277; clear HO287; clear HO299; clear BK289; clear HB; have HO_9 := n0_; have HO277 := n1_; have HO287 := n2_; have HO299 := n3_; have BK289 := n4_; have HB := n5_; have BK301 := n6_; have GW301 := n7_; have GE301 := n8_; have NB289_301 := n9_; have NB301_289 := n10_; clear n0_ n1_ n2_ n3_ n4_ n5_ n6_ n7_ n8_ n9_ n10_; clear hb hbox hg; have hnb43 := NB301_289.out; have hnc43 := NB289_301.out; have hcz44_0 : w42.cell? ⟨gb301, 0, none⟩ = some (.int .i64 0) := (blk_cell BK301.out 0).trans rfl; have hcz44_1 : w42.cell? ⟨gb301, 1, none⟩ = some (.int .i64 0) := (blk_cell BK301.out 1).trans rfl; have hcz44_2 : w42.cell? ⟨gb301, 2, none⟩ = some (.int .i64 0) := (blk_cell BK301.out 2).trans rfl; have hcz44_3 : w42.cell? ⟨gb301, 3, none⟩ = some (.int .i64 0) := (blk_cell BK301.out 3).trans rfl; have hcz44_4 : w42.cell? ⟨gb301, 4, none⟩ = some (.string (⟨#[]⟩ : ByteArray)) := (blk_cell BK301.out 4).trans rfl; have hcz44_5 : w42.cell? ⟨gb301, 5, none⟩ = some (.int .i64 0) := (blk_cell BK301.out 5).trans rfl; have hcz44_6 : w42.cell? ⟨gb301, 6, none⟩ = some (.int .u32 0) := (blk_cell BK301.out 6).trans rfl; have hcz44_7 : w42.cell? ⟨gb301, 7, none⟩ = some (.slice none 0 0) := (blk_cell BK301.out 7).trans rfl; have hfz44_0 := blk_frozen BK301.out 0; have hfz44_1 := blk_frozen BK301.out 1; have hfz44_2 := blk_frozen BK301.out 2; have hfz44_3 := blk_frozen BK301.out 3; have hfz44_4 := blk_frozen BK301.out 4; have hfz44_5 := blk_frozen BK301.out 5; have hfz44_6 := blk_frozen BK301.out 6; have hfz44_7 := blk_frozen BK301.out 7; obtain ⟨Ao45, co45, eo45⟩ := Kd.V_slice HO299.out; subst eo45) | ((with_reducible refine gate_store (t := 48) (p := 15) rfl ?_); (try (rw [drewN_self w42]; generalize hq_ : World.drewN w42 _ = w42; have n0_ := Aside0.mk (Kd.N_at hq_ HO_9.out); have n1_ := Aside0.mk (Kd.N_at hq_ HO277.out); have n2_ := Aside0.mk (Kd.V_at hq_ HO287.out); have n3_ := Aside0.mk (Kd.V_at hq_ HO299.out); have n4_ := Aside0.mk (blk_at hq_ BK289.out); have n5_ := Aside0.mk (blk_at hq_ BK301.out); have n6_ := Aside0.mk (below_at hq_ HB.out); clear hq_ HO_9 HO277 HO287 HO299 BK289 BK301 HB; have HO_9 := n0_; have HO277 := n1_; have HO287 := n2_; have HO299 := n3_; have BK289 := n4_; have BK301 := n5_; have HB := n6_; clear n0_ n1_ n2_ n3_ n4_ n5_ n6_)); refine store_event (t := 48) (p := 15) (v := ?vo_w46) (w1 := ((((((((w42.setCell ⟨gb301, 0, none⟩ (.int .i64 t290)).setCell ⟨gb301, 1, none⟩ (.int .i64 t291)).setCell ⟨gb301, 2, none⟩ (.int .i64 t292)).setCell ⟨gb301, 3, none⟩ (.int .i64 t293)).setCell ⟨gb301, 4, none⟩ (.string t294)).setCell ⟨gb301, 5, none⟩ (.int .i64 t295)).setCell ⟨gb301, 6, none⟩ (.int .u32 t296)).setCell ⟨gb301, 7, none⟩ (.slice Ao45 t297.length co45))) ?hg ?ho ?hn ?hr ?_; (case ho => rfl); (case hg => rfl); (case hn => rfl); (case hr => first | (go_simp; done) | (go_simp; rfl)); intro w46 hw; have n0_ : Aside0 (Kd.N k48 48 w46 w.heap.size (fun k_ => some k_ ≠ (.slice Ao40 t275.length co40 : Value).ownBlock ∧ k_ ≠ gb289 ∧ k_ ≠ gb301) (.slice Ao33 t262.length co33) t262) := ⟨(by rw [hw]; exact (by (with_reducible repeat (first | apply Kd.N_alloc | apply Kd.N_drewN | apply Kd.N_drew)); exact Kd.N_mono (Kd.N_far (p := ⟨gb301, 7, none⟩) (Kd.N_far (p := ⟨gb301, 6, none⟩) (Kd.N_far (p := ⟨gb301, 5, none⟩) (Kd.N_far (p := ⟨gb301, 4, none⟩) (Kd.N_far (p := ⟨gb301, 3, none⟩) (Kd.N_far (p := ⟨gb301, 2, none⟩) (Kd.N_far (p := ⟨gb301, 1, none⟩) (Kd.N_far (p := ⟨gb301, 0, none⟩) (Kd.N_mono HO_9.out (fun k_ hk => (⟨hk, hk.2⟩ : _ ∧ k_ ≠ gb301))) (fun _ hk => hk.2) (.int .i64 t290)) (fun _ hk => hk.2) (.int .i64 t291)) (fun _ hk => hk.2) (.int .i64 t292)) (fun _ hk => hk.2) (.int .i64 t293)) (fun _ hk => hk.2) (.string t294)) (fun _ hk => hk.2) (.int .i64 t295)) (fun _ hk => hk.2) (.int .u32 t296)) (fun _ hk => hk.2) (.slice Ao45 t297.length co45)) (fun _ hk => ⟨hk.1.1.1, ⟨hk.1.1.2, hk.1.2⟩⟩)))⟩; have n1_ : Aside0 (Kd.N k48 48 w46 w.heap.size (fun k_ => k_ ≠ gb289 ∧ k_ ≠ gb301) (.slice Ao40 t275.length co40) t275) := ⟨(by rw [hw]; exact (by (with_reducible repeat (first | apply Kd.N_alloc | apply Kd.N_drewN | apply Kd.N_drew)); exact Kd.N_mono (Kd.N_far (p := ⟨gb301, 7, none⟩) (Kd.N_far (p := ⟨gb301, 6, none⟩) (Kd.N_far (p := ⟨gb301, 5, none⟩) (Kd.N_far (p := ⟨gb301, 4, none⟩) (Kd.N_far (p := ⟨gb301, 3, none⟩) (Kd.N_far (p := ⟨gb301, 2, none⟩) (Kd.N_far (p := ⟨gb301, 1, none⟩) (Kd.N_far (p := ⟨gb301, 0, none⟩) (Kd.N_mono HO277.out (fun k_ hk => (⟨hk, hk.2⟩ : _ ∧ k_ ≠ gb301))) (fun _ hk => hk.2) (.int .i64 t290)) (fun _ hk => hk.2) (.int .i64 t291)) (fun _ hk => hk.2) (.int .i64 t292)) (fun _ hk => hk.2) (.int .i64 t293)) (fun _ hk => hk.2) (.string t294)) (fun _ hk => hk.2) (.int .i64 t295)) (fun _ hk => hk.2) (.int .u32 t296)) (fun _ hk => hk.2) (.slice Ao45 t297.length co45)) (fun _ hk => ⟨hk.1.1, hk.1.2⟩)))⟩; have n2_ : Aside0 (Kd.V (Kd.int .u8) 5 w46 w.heap.size (fun k_ => some k_ ≠ (.slice Ao40 t275.length co40 : Value).ownBlock ∧ k_ ≠ gb289 ∧ k_ ≠ gb301) (.slice Ao38 t285.length co38) t285) := ⟨(by rw [hw]; exact (by (with_reducible repeat (first | apply Kd.V_alloc | apply Kd.V_drewN | apply Kd.V_drew)); exact Kd.V_mono (Kd.V_far (p := ⟨gb301, 7, none⟩) (Kd.V_far (p := ⟨gb301, 6, none⟩) (Kd.V_far (p := ⟨gb301, 5, none⟩) (Kd.V_far (p := ⟨gb301, 4, none⟩) (Kd.V_far (p := ⟨gb301, 3, none⟩) (Kd.V_far (p := ⟨gb301, 2, none⟩) (Kd.V_far (p := ⟨gb301, 1, none⟩) (Kd.V_far (p := ⟨gb301, 0, none⟩) (Kd.V_mono HO287.out (fun k_ hk => (⟨hk, hk.2⟩ : _ ∧ k_ ≠ gb301))) (fun _ hk => hk.2) (.int .i64 t290)) (fun _ hk => hk.2) (.int .i64 t291)) (fun _ hk => hk.2) (.int .i64 t292)) (fun _ hk => hk.2) (.int .i64 t293)) (fun _ hk => hk.2) (.string t294)) (fun _ hk => hk.2) (.int .i64 t295)) (fun _ hk => hk.2) (.int .u32 t296)) (fun _ hk => hk.2) (.slice Ao45 t297.length co45)) (fun _ hk => ⟨hk.1.1.1, ⟨hk.1.1.2, hk.1.2⟩⟩)))⟩; have n3_ : Aside0 (Kd.V (Kd.int .u8) 5 w46 w.heap.size (fun k_ => k_ ≠ gb289 ∧ k_ ≠ gb301) (.slice Ao45 t297.length co45) t297) := ⟨(by rw [hw]; exact (by (with_reducible repeat (first | apply Kd.V_alloc | apply Kd.V_drewN | apply Kd.V_drew)); exact Kd.V_mono (Kd.V_far (p := ⟨gb301, 7, none⟩) (Kd.V_far (p := ⟨gb301, 6, none⟩) (Kd.V_far (p := ⟨gb301, 5, none⟩) (Kd.V_far (p := ⟨gb301, 4, none⟩) (Kd.V_far (p := ⟨gb301, 3, none⟩) (Kd.V_far (p := ⟨gb301, 2, none⟩) (Kd.V_far (p := ⟨gb301, 1, none⟩) (Kd.V_far (p := ⟨gb301, 0, none⟩) (Kd.V_mono HO299.out (fun k_ hk => (⟨hk, hk.2⟩ : _ ∧ k_ ≠ gb301))) (fun _ hk => hk.2) (.int .i64 t290)) (fun _ hk => hk.2) (.int .i64 t291)) (fun _ hk => hk.2) (.int .i64 t292)) (fun _ hk => hk.2) (.int .i64 t293)) (fun _ hk => hk.2) (.string t294)) (fun _ hk => hk.2) (.int .i64 t295)) (fun _ hk => hk.2) (.int .u32 t296)) (fun _ hk => hk.2) (.slice Ao45 t297.length co45)) (fun _ hk => ⟨hk.1.1, hk.1.2⟩)))⟩; have n4_ : Aside0 (w46.heap[gb289]? = some (.cells #[.int .i64 t278, .int .i64 t279, .int .i64 t280, .int .i64 t281, .string t282, .int .i64 t283, .int .u32 t284, .slice Ao38 t285.length co38] 48 (0, 0))) := ⟨(by rw [hw]; exact (by (with_reducible repeat (first | refine blk_drewN ?_ _ | refine blk_drew ?_ | refine blk_alloc ?_ _)); refine blk_far ?_ NB289_301.out _; (with_reducible repeat (first | refine blk_drewN ?_ _ | refine blk_drew ?_ | refine blk_alloc ?_ _)); refine blk_far ?_ NB289_301.out _; (with_reducible repeat (first | refine blk_drewN ?_ _ | refine blk_drew ?_ | refine blk_alloc ?_ _)); refine blk_far ?_ NB289_301.out _; (with_reducible repeat (first | refine blk_drewN ?_ _ | refine blk_drew ?_ | refine blk_alloc ?_ _)); refine blk_far ?_ NB289_301.out _; (with_reducible repeat (first | refine blk_drewN ?_ _ | refine blk_drew ?_ | refine blk_alloc ?_ _)); refine blk_far ?_ NB289_301.out _; (with_reducible repeat (first | refine blk_drewN ?_ _ | refine blk_drew ?_ | refine blk_alloc ?_ _)); refine blk_far ?_ NB289_301.out _; (with_reducible repeat (first | refine blk_drewN ?_ _ | refine blk_drew ?_ | refine blk_alloc ?_ _)); refine blk_far ?_ NB289_301.out _; (with_reducible repeat (first | refine blk_drewN ?_ _ | refine blk_drew ?_ | refine blk_alloc ?_ _)); refine blk_far ?_ NB289_301.out _; (with_reducible repeat (first | refine blk_drewN ?_ _ | refine blk_drew ?_ | refine blk_alloc ?_ _)); exact BK289.out))⟩; have n5_ : Aside0 (w46.heap[gb301]? = some (.cells #[.int .i64 t290, .int .i64 t291, .int .i64 t292, .int .i64 t293, .string t294, .int .i64 t295, .int .u32 t296, .slice Ao45 t297.length co45] 48 (0, 0))) := ⟨(by rw [hw]; exact (by (with_reducible repeat (first | refine blk_drewN ?_ _ | refine blk_drew ?_ | refine blk_alloc ?_ _)); refine blk_put (cs := #[.int .i64 t290, .int .i64 t291, .int .i64 t292, .int .i64 t293, .string t294, .int .i64 t295, .int .u32 t296, .slice none 0 0]) ?_ 7 _ rfl; (with_reducible repeat (first | refine blk_drewN ?_ _ | refine blk_drew ?_ | refine blk_alloc ?_ _)); refine blk_put (cs := #[.int .i64 t290, .int .i64 t291, .int .i64 t292, .int .i64 t293, .string t294, .int .i64 t295, .int .u32 0, .slice none 0 0]) ?_ 6 _ rfl; (with_reducible repeat (first | refine blk_drewN ?_ _ | refine blk_drew ?_ | refine blk_alloc ?_ _)); refine blk_put (cs := #[.int .i64 t290, .int .i64 t291, .int .i64 t292, .int .i64 t293, .string t294, .int .i64 0, .int .u32 0, .slice none 0 0]) ?_ 5 _ rfl; (with_reducible repeat (first | refine blk_drewN ?_ _ | refine blk_drew ?_ | refine blk_alloc ?_ _)); refine blk_put (cs := #[.int .i64 t290, .int .i64 t291, .int .i64 t292, .int .i64 t293, .string (⟨#[]⟩ : ByteArray), .int .i64 0, .int .u32 0, .slice none 0 0]) ?_ 4 _ rfl; (with_reducible repeat (first | refine blk_drewN ?_ _ | refine blk_drew ?_ | refine blk_alloc ?_ _)); refine blk_put (cs := #[.int .i64 t290, .int .i64 t291, .int .i64 t292, .int .i64 0, .string (⟨#[]⟩ : ByteArray), .int .i64 0, .int .u32 0, .slice none 0 0]) ?_ 3 _ rfl; (with_reducible repeat (first | refine blk_drewN ?_ _ | refine blk_drew ?_ | refine blk_alloc ?_ _)); refine blk_put (cs := #[.int .i64 t290, .int .i64 t291, .int .i64 0, .int .i64 0, .string (⟨#[]⟩ : ByteArray), .int .i64 0, .int .u32 0, .slice none 0 0]) ?_ 2 _ rfl; (with_reducible repeat (first | refine blk_drewN ?_ _ | refine blk_drew ?_ | refine blk_alloc ?_ _)); refine blk_put (cs := #[.int .i64 t290, .int .i64 0, .int .i64 0, .int .i64 0, .string (⟨#[]⟩ : ByteArray), .int .i64 0, .int .u32 0, .slice none 0 0]) ?_ 1 _ rfl; (with_reducible repeat (first | refine blk_drewN ?_ _ | refine blk_drew ?_ | refine blk_alloc ?_ _)); refine blk_put (cs := #[.int .i64 0, .int .i64 0, .int .i64 0, .int .i64 0, .string (⟨#[]⟩ : ByteArray), .int .i64 0, .int .u32 0, .slice none 0 0]) ?_ 0 _ rfl; (with_reducible repeat (first | refine blk_drewN ?_ _ | refine blk_drew ?_ | refine blk_alloc ?_ _)); exact BK301.out))⟩; have n6_ : Aside0 (Below w.heap.size w w46) := ⟨(by rw [hw]; exact (by repeat (first | (with_reducible first | exact HB.out | apply below_alloc | apply pw_below_drewN | apply below_drew1 | refine below_set ?_ GE289.out | refine below_set ?_ GE301.out) | exact HB.out)))⟩; clear hw; clear HO_9; clear HO277; clear HO287; clear HO299; clear BK289; clear BK301; clear HB; have HO_9 := n0_; have HO277 := n1_; have HO287 := n2_; have HO299 := n3_; have BK289 := n4_; have BK301 := n5_; have HB := n6_; clear n0_ n1_ n2_ n3_ n4_ n5_ n6_) | (go_at_call 29; (with_reducible refine (keys_Num.calls k1 _ _ t262 (wrap64 (a3)) t302 t303 _ ?side1 ?side2 A30.out).mono ?_); (case side1 => repeat (first | exact (Kd.N_reads' HO_9.out).2.2 | (with_reducible refine Kd.C_alloc ?_ _) | (with_reducible refine Kd.C_drewN ?_ _) | (with_reducible refine Kd.C_drew ?_))); (case side2 => exact (Kd.N_reads' HO_9.out).2.1); rintro e w47 ⟨rfl, hb⟩; have n0_ := Aside0.mk (Kd.N_below (nv HO_9.out) hb); have n1_ := Aside0.mk (Kd.N_below (nv HO277.out) hb); have n2_ := Aside0.mk (Kd.V_below (vv HO287.out) hb); have n3_ := Aside0.mk (Kd.V_below (vv HO299.out) hb); have n4_ := Aside0.mk (blk_below (kv BK289.out) hb); have n5_ := Aside0.mk (blk_below (kv BK301.out) hb); have n6_ := Aside0.mk (below_step (by repeat (first | (with_reducible first | exact HB.out | apply below_alloc | apply pw_below_drewN | apply below_drew1 | refine below_set ?_ GE289.out | refine below_set ?_ GE301.out) | exact HB.out)) hb); clear HO_9; clear HO277; clear HO287; clear HO299; clear BK289; clear BK301; clear HB; have HO_9 := n0_; have HO277 := n1_; have HO287 := n2_; have HO299 := n3_; have BK289 := n4_; have BK301 := n5_; have HB := n6_; clear n0_ n1_ n2_ n3_ n4_ n5_ n6_; (try clear hb); (try clear hb2); (try clear hk); (try clear hi)) | (go_at_call 29; (with_reducible refine (keys_Num.calls k1 _ _ t275 (wrap64 (a3)) t304 t305 _ ?side1 ?side2 A31.out).mono ?_); (case side1 => repeat (first | exact (Kd.N_reads' HO277.out).2.2 | (with_reducible refine Kd.C_alloc ?_ _) | (with_reducible refine Kd.C_drewN ?_ _) | (with_reducible refine Kd.C_drew ?_))); (case side2 => exact (Kd.N_reads' HO277.out).2.1); rintro e w48 ⟨rfl, hb⟩; have n0_ := Aside0.mk (Kd.N_below (nv HO_9.out) hb); have n1_ := Aside0.mk (Kd.N_below (nv HO277.out) hb); have n2_ := Aside0.mk (Kd.V_below (vv HO287.out) hb); have n3_ := Aside0.mk (Kd.V_below (vv HO299.out) hb); have n4_ := Aside0.mk (blk_below (kv BK289.out) hb); have n5_ := Aside0.mk (blk_below (kv BK301.out) hb); have n6_ := Aside0.mk (below_step (by repeat (first | (with_reducible first | exact HB.out | apply below_alloc | apply pw_below_drewN | apply below_drew1 | refine below_set ?_ GE289.out | refine below_set ?_ GE301.out) | exact HB.out)) hb); clear HO_9; clear HO277; clear HO287; clear HO299; clear BK289; clear BK301; clear HB; have HO_9 := n0_; have HO277 := n1_; have HO287 := n2_; have HO299 := n3_; have BK289 := n4_; have BK301 := n5_; have HB := n6_; clear n0_ n1_ n2_ n3_ n4_ n5_ n6_; (try clear hb); (try clear hb2); (try clear hk); (try clear hi)))
    repeat (go_quiet (first | (go_at_call 32; (with_reducible refine (keys_Live.calls (fun k_ => True) _ _ t262 a1 t275 _ ?side1 A27.out).mono ?_); (case side1 => exact Kd.N_V (HO_9.out)); rintro e w34 ⟨v276, rfl, ho0, hb⟩; have n0_ := Aside0.mk (Kd.N_elder' (nv HO_9.out) (Kd.N_base ho0) hb); have n1_ := Aside0.mk (Kd.N_lower (Kd.N_mono (ok' := fun k_ => True) ho0 (fun k_ hk_ => trivial)) (below_size (bv HB.out))); have n2_ := Aside0.mk (below_step (bv HB.out) hb); clear HO_9; clear HB; have HO_9 := n0_; have HO277 := n1_; have HB := n2_; clear n0_ n1_ n2_; (try clear hb); (try clear hb2); (try clear hk); (try clear hi); (try clear ho0)) | (go_at_call 22; (with_reducible refine (keys_Find.calls k1 (fun k_ => (True ∧ some k_ ≠ (v276 : Value).ownBlock)) _ _ t262 a2 a1 t278 t279 t280 t281 t282 t283 t284 t285 t288 _ ?side1 A28.out).mono ?_); (case side1 => exact Kd.N_V (HO_9.out)); rintro e w35 ⟨v286, rfl, ho0, hb⟩; have n0_ := Aside0.mk (Kd.N_below (nv HO_9.out) hb); have n1_ := Aside0.mk (Kd.N_below (nv HO277.out) hb); have n2_ := Aside0.mk (Kd.V_lower (Kd.V_mono (ok' := fun k_ => some k_ ≠ (v276 : Value).ownBlock) ho0 (fun k_ hk_ => Or.elim hk_ (fun hs_ => hs_.2) (fun hn_ => (Kd.fresh' (Kd.N_lt (nv HO277.out)) k_ hn_)))) (below_size (bv HB.out))); have n3_ := Aside0.mk (below_step (bv HB.out) hb); clear HO_9; clear HO277; clear HB; have HO_9 := n0_; have HO277 := n1_; have HO287 := n2_; have HB := n3_; clear n0_ n1_ n2_ n3_; (try clear hb); (try clear hb2); (try clear hk); (try clear hi); (try clear ho0)) | ((with_reducible refine gate_dst (N := 13) rfl ?_); refine box_event ?hg (N := 13) ?hd (cs := #[.int .i64 0, .int .i64 0, .int .i64 0, .int .i64 0, .string (⟨#[]⟩ : ByteArray), .int .i64 0, .int .u32 0, .slice none 0 0]) (t := 48) ?hr ?_; (case hd => rfl); (case hg => rfl); (case hr => first | (go_simp; done) | (go_simp; rfl)); intro gb289 hg w36 hbox hb; have n0_ := Aside0.mk (Kd.N_below (Kd.N_elderB (nv HO_9.out) gb289 (Nat.le_of_eq hg.symm)) hb); have n1_ := Aside0.mk (Kd.N_below (Kd.N_elderB (nv HO277.out) gb289 (Nat.le_of_eq hg.symm)) hb); have n2_ := Aside0.mk (Kd.V_below (Kd.V_elderB (vv HO287.out) gb289 (Nat.le_of_eq hg.symm)) hb); have n3_ := Aside0.mk (below_step (bv HB.out) hb); have n4_ := Aside0.mk (hbox); have n5_ := Aside0.mk ((by rw [hg]; exact (below_size (bv HB.out)) : w.heap.size ≤ gb289)); have n6_ := Aside0.mk ((by rw [hg]; exact (below_size (bv HB.out)) : w.heap.size ≤ gb289)); clear HO_9; clear HO277; clear HO287; clear HB; have HO_9 := n0_; have HO277 := n1_; have HO287 := n2_; have HB := n3_; have BK289 := n4_; have GW289 := n5_; have GE289 := n6_; clear n0_ n1_ n2_ n3_ n4_ n5_ n6_; clear hb hbox hg; have hcz37_0 : w36.cell? ⟨gb289, 0, none⟩ = some (.int .i64 0) := (blk_cell BK289.out 0).trans rfl; have hcz37_1 : w36.cell? ⟨gb289, 1, none⟩ = some (.int .i64 0) := (blk_cell BK289.out 1).trans rfl; have hcz37_2 : w36.cell? ⟨gb289, 2, none⟩ = some (.int .i64 0) := (blk_cell BK289.out 2).trans rfl; have hcz37_3 : w36.cell? ⟨gb289, 3, none⟩ = some (.int .i64 0) := (blk_cell BK289.out 3).trans rfl; have hcz37_4 : w36.cell? ⟨gb289, 4, none⟩ = some (.string (⟨#[]⟩ : ByteArray)) := (blk_cell BK289.out 4).trans rfl; have hcz37_5 : w36.cell? ⟨gb289, 5, none⟩ = some (.int .i64 0) := (blk_cell BK289.out 5).trans rfl; have hcz37_6 : w36.cell? ⟨gb289, 6, none⟩ = some (.int .u32 0) := (blk_cell BK289.out 6).trans rfl; have hcz37_7 : w36.cell? ⟨gb289, 7, none⟩ = some (.slice none 0 0) := (blk_cell BK289.out 7).trans rfl; have hfz37_0 := blk_frozen BK289.out 0; have hfz37_1 := blk_frozen BK289.out 1; have hfz37_2 := blk_frozen BK289.out 2; have hfz37_3 := blk_frozen BK289.out 3; have hfz37_4 := blk_frozen BK289.out 4; have hfz37_5 := blk_frozen BK289.out 5; have hfz37_6 := blk_frozen BK289.out 6; have hfz37_7 := blk_frozen BK289.out 7; obtain ⟨Ao38, co38, eo38⟩ := Kd.V_slice HO287.out; subst eo38) | ((with_reducible refine gate_store (t := 48) (p := 13) rfl ?_); (try (rw [drewN_self w36]; generalize hq_ : World.drewN w36 _ = w36; have n0_ := Aside0.mk (Kd.N_at hq_ HO_9.out); have n1_ := Aside0.mk (Kd.N_at hq_ HO277.out); have n2_ := Aside0.mk (Kd.V_at hq_ HO287.out); have n3_ := Aside0.mk (blk_at hq_ BK289.out); have n4_ := Aside0.mk (below_at hq_ HB.out); clear hq_ HO_9 HO277 HO287 BK289 HB; have HO_9 := n0_; have HO277 := n1_; have HO287 := n2_; have BK289 := n3_; have HB := n4_; clear n0_ n1_ n2_ n3_ n4_)); refine store_event (t := 48) (p := 13) (v := ?vo_w39) (w1 := ((((((((w36.setCell ⟨gb289, 0, none⟩ (.int .i64 t278)).setCell ⟨gb289, 1, none⟩ (.int .i64 t279)).setCell ⟨gb289, 2, none⟩ (.int .i64 t280)).setCell ⟨gb289, 3, none⟩ (.int .i64 t281)).setCell ⟨gb289, 4, none⟩ (.string t282)).setCell ⟨gb289, 5, none⟩ (.int .i64 t283)).setCell ⟨gb289, 6, none⟩ (.int .u32 t284)).setCell ⟨gb289, 7, none⟩ (.slice Ao38 t285.length co38))) ?hg ?ho ?hn ?hr ?_; (case ho => rfl); (case hg => rfl); (case hn => rfl); (case hr => first | (go_simp; done) | (go_simp; rfl)); intro w39 hw; have n0_ : Aside0 (Kd.N k48 48 w39 w.heap.size (fun k_ => some k_ ≠ (v276 : Value).ownBlock ∧ k_ ≠ gb289) (.slice Ao33 t262.length co33) t262) := ⟨(by rw [hw]; exact (by (with_reducible repeat (first | apply Kd.N_alloc | apply Kd.N_drewN | apply Kd.N_drew)); exact Kd.N_mono (Kd.N_far (p := ⟨gb289, 7, none⟩) (Kd.N_far (p := ⟨gb289, 6, none⟩) (Kd.N_far (p := ⟨gb289, 5, none⟩) (Kd.N_far (p := ⟨gb289, 4, none⟩) (Kd.N_far (p := ⟨gb289, 3, none⟩) (Kd.N_far (p := ⟨gb289, 2, none⟩) (Kd.N_far (p := ⟨gb289, 1, none⟩) (Kd.N_far (p := ⟨gb289, 0, none⟩) (Kd.N_mono HO_9.out (fun k_ hk => (⟨hk, hk.2⟩ : _ ∧ k_ ≠ gb289))) (fun _ hk => hk.2) (.int .i64 t278)) (fun _ hk => hk.2) (.int .i64 t279)) (fun _ hk => hk.2) (.int .i64 t280)) (fun _ hk => hk.2) (.int .i64 t281)) (fun _ hk => hk.2) (.string t282)) (fun _ hk => hk.2) (.int .i64 t283)) (fun _ hk => hk.2) (.int .u32 t284)) (fun _ hk => hk.2) (.slice Ao38 t285.length co38)) (fun _ hk => ⟨hk.1.1.2, hk.1.2⟩)))⟩; have n1_ : Aside0 (Kd.N k48 48 w39 w.heap.size (fun k_ => k_ ≠ gb289) v276 t275) := ⟨(by rw [hw]; exact (by (with_reducible repeat (first | apply Kd.N_alloc | apply Kd.N_drewN | apply Kd.N_drew)); exact Kd.N_mono (Kd.N_far (p := ⟨gb289, 7, none⟩) (Kd.N_far (p := ⟨gb289, 6, none⟩) (Kd.N_far (p := ⟨gb289, 5, none⟩) (Kd.N_far (p := ⟨gb289, 4, none⟩) (Kd.N_far (p := ⟨gb289, 3, none⟩) (Kd.N_far (p := ⟨gb289, 2, none⟩) (Kd.N_far (p := ⟨gb289, 1, none⟩) (Kd.N_far (p := ⟨gb289, 0, none⟩) (Kd.N_mono HO277.out (fun k_ hk => (⟨hk, hk.2⟩ : _ ∧ k_ ≠ gb289))) (fun _ hk => hk.2) (.int .i64 t278)) (fun _ hk => hk.2) (.int .i64 t279)) (fun _ hk => hk.2) (.int .i64 t280)) (fun _ hk => hk.2) (.int .i64 t281)) (fun _ hk => hk.2) (.string t282)) (fun _ hk => hk.2) (.int .i64 t283)) (fun _ hk => hk.2) (.int .u32 t284)) (fun _ hk => hk.2) (.slice Ao38 t285.length co38)) (fun _ hk => hk.1.2)))⟩; have n2_ : Aside0 (Kd.V (Kd.int .u8) 5 w39 w.heap.size (fun k_ => some k_ ≠ (v276 : Value).ownBlock ∧ k_ ≠ gb289) (.slice Ao38 t285.length co38) t285) := ⟨(by rw [hw]; exact (by (with_reducible repeat (first | apply Kd.V_alloc | apply Kd.V_drewN | apply Kd.V_drew)); exact Kd.V_mono (Kd.V_far (p := ⟨gb289, 7, none⟩) (Kd.V_far (p := ⟨gb289, 6, none⟩) (Kd.V_far (p := ⟨gb289, 5, none⟩) (Kd.V_far (p := ⟨gb289, 4, none⟩) (Kd.V_far (p := ⟨gb289, 3, none⟩) (Kd.V_far (p := ⟨gb289, 2, none⟩) (Kd.V_far (p := ⟨gb289, 1, none⟩) (Kd.V_far (p := ⟨gb289, 0, none⟩) (Kd.V_mono HO287.out (fun k_ hk => (⟨hk, hk.2⟩ : _ ∧ k_ ≠ gb289))) (fun _ hk => hk.2) (.int .i64 t278)) (fun _ hk => hk.2) (.int .i64 t279)) (fun _ hk => hk.2) (.int .i64 t280)) (fun _ hk => hk.2) (.int .i64 t281)) (fun _ hk => hk.2) (.string t282)) (fun _ hk => hk.2) (.int .i64 t283)) (fun _ hk => hk.2) (.int .u32 t284)) (fun _ hk => hk.2) (.slice Ao38 t285.length co38)) (fun _ hk => ⟨hk.1.1, hk.1.2⟩)))⟩; have n3_ : Aside0 (w39.heap[gb289]? = some (.cells #[.int .i64 t278, .int .i64 t279, .int .i64 t280, .int .i64 t281, .string t282, .int .i64 t283, .int .u32 t284, .slice Ao38 t285.length co38] 48 (0, 0))) := ⟨(by rw [hw]; exact (by (with_reducible repeat (first | refine blk_drewN ?_ _ | refine blk_drew ?_ | refine blk_alloc ?_ _)); refine blk_put (cs := #[.int .i64 t278, .int .i64 t279, .int .i64 t280, .int .i64 t281, .string t282, .int .i64 t283, .int .u32 t284, .slice none 0 0]) ?_ 7 _ rfl; (with_reducible repeat (first | refine blk_drewN ?_ _ | refine blk_drew ?_ | refine blk_alloc ?_ _)); refine blk_put (cs := #[.int .i64 t278, .int .i64 t279, .int .i64 t280, .int .i64 t281, .string t282, .int .i64 t283, .int .u32 0, .slice none 0 0]) ?_ 6 _ rfl; (with_reducible repeat (first | refine blk_drewN ?_ _ | refine blk_drew ?_ | refine blk_alloc ?_ _)); refine blk_put (cs := #[.int .i64 t278, .int .i64 t279, .int .i64 t280, .int .i64 t281, .string t282, .int .i64 0, .int .u32 0, .slice none 0 0]) ?_ 5 _ rfl; (with_reducible repeat (first | refine blk_drewN ?_ _ | refine blk_drew ?_ | refine blk_alloc ?_ _)); refine blk_put (cs := #[.int .i64 t278, .int .i64 t279, .int .i64 t280, .int .i64 t281, .string (⟨#[]⟩ : ByteArray), .int .i64 0, .int .u32 0, .slice none 0 0]) ?_ 4 _ rfl; (with_reducible repeat (first | refine blk_drewN ?_ _ | refine blk_drew ?_ | refine blk_alloc ?_ _)); refine blk_put (cs := #[.int .i64 t278, .int .i64 t279, .int .i64 t280, .int .i64 0, .string (⟨#[]⟩ : ByteArray), .int .i64 0, .int .u32 0, .slice none 0 0]) ?_ 3 _ rfl; (with_reducible repeat (first | refine blk_drewN ?_ _ | refine blk_drew ?_ | refine blk_alloc ?_ _)); refine blk_put (cs := #[.int .i64 t278, .int .i64 t279, .int .i64 0, .int .i64 0, .string (⟨#[]⟩ : ByteArray), .int .i64 0, .int .u32 0, .slice none 0 0]) ?_ 2 _ rfl; (with_reducible repeat (first | refine blk_drewN ?_ _ | refine blk_drew ?_ | refine blk_alloc ?_ _)); refine blk_put (cs := #[.int .i64 t278, .int .i64 0, .int .i64 0, .int .i64 0, .string (⟨#[]⟩ : ByteArray), .int .i64 0, .int .u32 0, .slice none 0 0]) ?_ 1 _ rfl; (with_reducible repeat (first | refine blk_drewN ?_ _ | refine blk_drew ?_ | refine blk_alloc ?_ _)); refine blk_put (cs := #[.int .i64 0, .int .i64 0, .int .i64 0, .int .i64 0, .string (⟨#[]⟩ : ByteArray), .int .i64 0, .int .u32 0, .slice none 0 0]) ?_ 0 _ rfl; (with_reducible repeat (first | refine blk_drewN ?_ _ | refine blk_drew ?_ | refine blk_alloc ?_ _)); exact BK289.out))⟩; have n4_ : Aside0 (Below w.heap.size w w39) := ⟨(by rw [hw]; exact (by repeat (first | (with_reducible first | exact HB.out | apply below_alloc | apply pw_below_drewN | apply below_drew1 | refine below_set ?_ GE289.out) | exact HB.out)))⟩; clear hw; clear HO_9; clear HO277; clear HO287; clear BK289; clear HB; have HO_9 := n0_; have HO277 := n1_; have HO287 := n2_; have BK289 := n3_; have HB := n4_; clear n0_ n1_ n2_ n3_ n4_; obtain ⟨Ao40, co40, eo40⟩ := Kd.N_slice HO277.out; subst eo40) | (go_at_call 22; (with_reducible refine (keys_Find.calls k1 (fun k_ => k_ ≠ gb289) _ _ t275 a2 a1 t290 t291 t292 t293 t294 t295 t296 t297 t300 _ ?side1 A29.out).mono ?_); (case side1 => exact Kd.N_V (HO277.out)); rintro e w41 ⟨v298, rfl, ho0, hb⟩; have n0_ := Aside0.mk (Kd.N_below (nv HO_9.out) hb); have n1_ := Aside0.mk (Kd.N_below (nv HO277.out) hb); have n2_ := Aside0.mk (Kd.V_below (vv HO287.out) hb); have n3_ := Aside0.mk (Kd.V_lower (Kd.V_mono (ok' := fun k_ => k_ ≠ gb289) ho0 (fun k_ hk_ => Or.elim hk_ (fun hs_ => hs_) (fun hn_ => (Kd.freshB (g := gb289) (o := .cells #[.int .i64 t278, .int .i64 t279, .int .i64 t280, .int .i64 t281, .string t282, .int .i64 t283, .int .u32 t284, .slice Ao38 t285.length co38] 48 (0, 0)) (kv BK289.out) k_ hn_)))) (below_size (by repeat (first | (with_reducible first | exact HB.out | apply below_alloc | apply pw_below_drewN | apply below_drew1 | refine below_set ?_ GE289.out) | exact HB.out)))); have n4_ := Aside0.mk (blk_below (kv BK289.out) hb); have n5_ := Aside0.mk (below_step (by repeat (first | (with_reducible first | exact HB.out | apply below_alloc | apply pw_below_drewN | apply below_drew1 | refine below_set ?_ GE289.out) | exact HB.out)) hb); clear HO_9; clear HO277; clear HO287; clear BK289; clear HB; have HO_9 := n0_; have HO277 := n1_; have HO287 := n2_; have HO299 := n3_; have BK289 := n4_; have HB := n5_; clear n0_ n1_ n2_ n3_ n4_ n5_; (try clear hb); (try clear hb2); (try clear hk); (try clear hi); (try clear ho0)) | ((with_reducible refine gate_dst (N := 15) rfl ?_); refine box_event ?hg (N := 15) ?hd (cs := #[.int .i64 0, .int .i64 0, .int .i64 0, .int .i64 0, .string (⟨#[]⟩ : ByteArray), .int .i64 0, .int .u32 0, .slice none 0 0]) (t := 48) ?hr ?_; (case hd => rfl); (case hg => rfl); (case hr => first | (go_simp; done) | (go_simp; rfl)); intro gb301 hg w42 hbox hb; have n0_ := Aside0.mk (Kd.N_below (Kd.N_elderB (nv HO_9.out) gb301 (Nat.le_of_eq hg.symm)) hb); have n1_ := Aside0.mk (Kd.N_below (Kd.N_elderB (nv HO277.out) gb301 (Nat.le_of_eq hg.symm)) hb); have n2_ := Aside0.mk (Kd.V_below (Kd.V_elderB (vv HO287.out) gb301 (Nat.le_of_eq hg.symm)) hb); have n3_ := Aside0.mk (Kd.V_below (Kd.V_elderB (vv HO299.out) gb301 (Nat.le_of_eq hg.symm)) hb); have n4_ := Aside0.mk (blk_below (kv BK289.out) hb); have n5_ := Aside0.mk (below_step (by repeat (first | (with_reducible first | exact HB.out | apply below_alloc | apply pw_below_drewN | apply below_drew1 | refine below_set ?_ GE289.out) | exact HB.out)) hb); have n6_ := Aside0.mk (hbox); have n7_ := Aside0.mk ((by rw [hg]; exact (below_size (by repeat (first | (with_reducible first | exact HB.out | apply below_alloc | apply pw_below_drewN | apply below_drew1 | refine below_set ?_ GE289.out) | exact HB.out))) : w.heap.size ≤ gb301)); have n8_ := Aside0.mk ((by rw [hg]; exact (below_size (by repeat (first | (with_reducible first | exact HB.out | apply below_alloc | apply pw_below_drewN | apply below_drew1 | refine below_set ?_ GE289.out) | exact HB.out))) : w.heap.size ≤ gb301)); have n9_ := Aside0.mk ((by rw [hg]; exact Nat.ne_of_lt (blk_lt (g := gb289) (o := .cells #[.int .i64 t278, .int .i64 t279, .int .i64 t280, .int .i64 t281, .string t282, .int .i64 t283, .int .u32 t284, .slice Ao38 t285.length co38] 48 (0, 0)) (kv BK289.out)) : gb289 ≠ gb301)); have n10_ := Aside0.mk ((by rw [hg]; exact Nat.ne_of_gt (blk_lt (g := gb289) (o := .cells #[.int .i64 t278, .int .i64 t279, .int .i64 t280, .int .i64 t281, .string t282, .int .i64 t283, .int .u32 t284, .slice Ao38 t285.length co38] 48 (0, 0)) (kv BK289.out)) : gb301 ≠ gb289)); clear HO_9; clear HO277; clear HO287; clear HO299; clear BK289; clear HB; have HO_9 := n0_; have HO277 := n1_; have HO287 := n2_; have HO299 := n3_; have BK289 := n4_; have HB := n5_; have BK301 := n6_; have GW301 := n7_; have GE301 := n8_; have NB289_301 := n9_; have NB301_289 := n10_; clear n0_ n1_ n2_ n3_ n4_ n5_ n6_ n7_ n8_ n9_ n10_; clear hb hbox hg; have hnb43 := NB301_289.out; have hnc43 := NB289_301.out; have hcz44_0 : w42.cell? ⟨gb301, 0, none⟩ = some (.int .i64 0) := (blk_cell BK301.out 0).trans rfl; have hcz44_1 : w42.cell? ⟨gb301, 1, none⟩ = some (.int .i64 0) := (blk_cell BK301.out 1).trans rfl; have hcz44_2 : w42.cell? ⟨gb301, 2, none⟩ = some (.int .i64 0) := (blk_cell BK301.out 2).trans rfl; have hcz44_3 : w42.cell? ⟨gb301, 3, none⟩ = some (.int .i64 0) := (blk_cell BK301.out 3).trans rfl; have hcz44_4 : w42.cell? ⟨gb301, 4, none⟩ = some (.string (⟨#[]⟩ : ByteArray)) := (blk_cell BK301.out 4).trans rfl; have hcz44_5 : w42.cell? ⟨gb301, 5, none⟩ = some (.int .i64 0) := (blk_cell BK301.out 5).trans rfl; have hcz44_6 : w42.cell? ⟨gb301, 6, none⟩ = some (.int .u32 0) := (blk_cell BK301.out 6).trans rfl; have hcz44_7 : w42.cell? ⟨gb301, 7, none⟩ = some (.slice none 0 0) := (blk_cell BK301.out 7).trans rfl; have hfz44_0 := blk_frozen BK301.out 0; have hfz44_1 := blk_frozen BK301.out 1; have hfz44_2 := blk_frozen BK301.out 2; have hfz44_3 := blk_frozen BK301.out 3; have hfz44_4 := blk_frozen BK301.out 4; have hfz44_5 := blk_frozen BK301.out 5; have hfz44_6 := blk_frozen BK301.out 6; have hfz44_7 := blk_frozen BK301.out 7; obtain ⟨Ao45, co45, eo45⟩ := Kd.V_slice HO299.out; subst eo45) | ((with_reducible refine gate_store (t := 48) (p := 15) rfl ?_); (try (rw [drewN_self w42]; generalize hq_ : World.drewN w42 _ = w42; have n0_ := Aside0.mk (Kd.N_at hq_ HO_9.out); have n1_ := Aside0.mk (Kd.N_at hq_ HO277.out); have n2_ := Aside0.mk (Kd.V_at hq_ HO287.out); have n3_ := Aside0.mk (Kd.V_at hq_ HO299.out); have n4_ := Aside0.mk (blk_at hq_ BK289.out); have n5_ := Aside0.mk (blk_at hq_ BK301.out); have n6_ := Aside0.mk (below_at hq_ HB.out); clear hq_ HO_9 HO277 HO287 HO299 BK289 BK301 HB; have HO_9 := n0_; have HO277 := n1_; have HO287 := n2_; have HO299 := n3_; have BK289 := n4_; have BK301 := n5_; have HB := n6_; clear n0_ n1_ n2_ n3_ n4_ n5_ n6_)); refine store_event (t := 48) (p := 15) (v := ?vo_w46) (w1 := ((((((((w42.setCell ⟨gb301, 0, none⟩ (.int .i64 t290)).setCell ⟨gb301, 1, none⟩ (.int .i64 t291)).setCell ⟨gb301, 2, none⟩ (.int .i64 t292)).setCell ⟨gb301, 3, none⟩ (.int .i64 t293)).setCell ⟨gb301, 4, none⟩ (.string t294)).setCell ⟨gb301, 5, none⟩ (.int .i64 t295)).setCell ⟨gb301, 6, none⟩ (.int .u32 t296)).setCell ⟨gb301, 7, none⟩ (.slice Ao45 t297.length co45))) ?hg ?ho ?hn ?hr ?_; (case ho => rfl); (case hg => rfl); (case hn => rfl); (case hr => first | (go_simp; done) | (go_simp; rfl)); intro w46 hw; have n0_ : Aside0 (Kd.N k48 48 w46 w.heap.size (fun k_ => some k_ ≠ (.slice Ao40 t275.length co40 : Value).ownBlock ∧ k_ ≠ gb289 ∧ k_ ≠ gb301) (.slice Ao33 t262.length co33) t262) := ⟨(by rw [hw]; exact (by (with_reducible repeat (first | apply Kd.N_alloc | apply Kd.N_drewN | apply Kd.N_drew)); exact Kd.N_mono (Kd.N_far (p := ⟨gb301, 7, none⟩) (Kd.N_far (p := ⟨gb301, 6, none⟩) (Kd.N_far (p := ⟨gb301, 5, none⟩) (Kd.N_far (p := ⟨gb301, 4, none⟩) (Kd.N_far (p := ⟨gb301, 3, none⟩) (Kd.N_far (p := ⟨gb301, 2, none⟩) (Kd.N_far (p := ⟨gb301, 1, none⟩) (Kd.N_far (p := ⟨gb301, 0, none⟩) (Kd.N_mono HO_9.out (fun k_ hk => (⟨hk, hk.2⟩ : _ ∧ k_ ≠ gb301))) (fun _ hk => hk.2) (.int .i64 t290)) (fun _ hk => hk.2) (.int .i64 t291)) (fun _ hk => hk.2) (.int .i64 t292)) (fun _ hk => hk.2) (.int .i64 t293)) (fun _ hk => hk.2) (.string t294)) (fun _ hk => hk.2) (.int .i64 t295)) (fun _ hk => hk.2) (.int .u32 t296)) (fun _ hk => hk.2) (.slice Ao45 t297.length co45)) (fun _ hk => ⟨hk.1.1.1, ⟨hk.1.1.2, hk.1.2⟩⟩)))⟩; have n1_ : Aside0 (Kd.N k48 48 w46 w.heap.size (fun k_ => k_ ≠ gb289 ∧ k_ ≠ gb301) (.slice Ao40 t275.length co40) t275) := ⟨(by rw [hw]; exact (by (with_reducible repeat (first | apply Kd.N_alloc | apply Kd.N_drewN | apply Kd.N_drew)); exact Kd.N_mono (Kd.N_far (p := ⟨gb301, 7, none⟩) (Kd.N_far (p := ⟨gb301, 6, none⟩) (Kd.N_far (p := ⟨gb301, 5, none⟩) (Kd.N_far (p := ⟨gb301, 4, none⟩) (Kd.N_far (p := ⟨gb301, 3, none⟩) (Kd.N_far (p := ⟨gb301, 2, none⟩) (Kd.N_far (p := ⟨gb301, 1, none⟩) (Kd.N_far (p := ⟨gb301, 0, none⟩) (Kd.N_mono HO277.out (fun k_ hk => (⟨hk, hk.2⟩ : _ ∧ k_ ≠ gb301))) (fun _ hk => hk.2) (.int .i64 t290)) (fun _ hk => hk.2) (.int .i64 t291)) (fun _ hk => hk.2) (.int .i64 t292)) (fun _ hk => hk.2) (.int .i64 t293)) (fun _ hk => hk.2) (.string t294)) (fun _ hk => hk.2) (.int .i64 t295)) (fun _ hk => hk.2) (.int .u32 t296)) (fun _ hk => hk.2) (.slice Ao45 t297.length co45)) (fun _ hk => ⟨hk.1.1, hk.1.2⟩)))⟩; have n2_ : Aside0 (Kd.V (Kd.int .u8) 5 w46 w.heap.size (fun k_ => some k_ ≠ (.slice Ao40 t275.length co40 : Value).ownBlock ∧ k_ ≠ gb289 ∧ k_ ≠ gb301) (.slice Ao38 t285.length co38) t285) := ⟨(by rw [hw]; exact (by (with_reducible repeat (first | apply Kd.V_alloc | apply Kd.V_drewN | apply Kd.V_drew)); exact Kd.V_mono (Kd.V_far (p := ⟨gb301, 7, none⟩) (Kd.V_far (p := ⟨gb301, 6, none⟩) (Kd.V_far (p := ⟨gb301, 5, none⟩) (Kd.V_far (p := ⟨gb301, 4, none⟩) (Kd.V_far (p := ⟨gb301, 3, none⟩) (Kd.V_far (p := ⟨gb301, 2, none⟩) (Kd.V_far (p := ⟨gb301, 1, none⟩) (Kd.V_far (p := ⟨gb301, 0, none⟩) (Kd.V_mono HO287.out (fun k_ hk => (⟨hk, hk.2⟩ : _ ∧ k_ ≠ gb301))) (fun _ hk => hk.2) (.int .i64 t290)) (fun _ hk => hk.2) (.int .i64 t291)) (fun _ hk => hk.2) (.int .i64 t292)) (fun _ hk => hk.2) (.int .i64 t293)) (fun _ hk => hk.2) (.string t294)) (fun _ hk => hk.2) (.int .i64 t295)) (fun _ hk => hk.2) (.int .u32 t296)) (fun _ hk => hk.2) (.slice Ao45 t297.length co45)) (fun _ hk => ⟨hk.1.1.1, ⟨hk.1.1.2, hk.1.2⟩⟩)))⟩; have n3_ : Aside0 (Kd.V (Kd.int .u8) 5 w46 w.heap.size (fun k_ => k_ ≠ gb289 ∧ k_ ≠ gb301) (.slice Ao45 t297.length co45) t297) := ⟨(by rw [hw]; exact (by (with_reducible repeat (first | apply Kd.V_alloc | apply Kd.V_drewN | apply Kd.V_drew)); exact Kd.V_mono (Kd.V_far (p := ⟨gb301, 7, none⟩) (Kd.V_far (p := ⟨gb301, 6, none⟩) (Kd.V_far (p := ⟨gb301, 5, none⟩) (Kd.V_far (p := ⟨gb301, 4, none⟩) (Kd.V_far (p := ⟨gb301, 3, none⟩) (Kd.V_far (p := ⟨gb301, 2, none⟩) (Kd.V_far (p := ⟨gb301, 1, none⟩) (Kd.V_far (p := ⟨gb301, 0, none⟩) (Kd.V_mono HO299.out (fun k_ hk => (⟨hk, hk.2⟩ : _ ∧ k_ ≠ gb301))) (fun _ hk => hk.2) (.int .i64 t290)) (fun _ hk => hk.2) (.int .i64 t291)) (fun _ hk => hk.2) (.int .i64 t292)) (fun _ hk => hk.2) (.int .i64 t293)) (fun _ hk => hk.2) (.string t294)) (fun _ hk => hk.2) (.int .i64 t295)) (fun _ hk => hk.2) (.int .u32 t296)) (fun _ hk => hk.2) (.slice Ao45 t297.length co45)) (fun _ hk => ⟨hk.1.1, hk.1.2⟩)))⟩; have n4_ : Aside0 (w46.heap[gb289]? = some (.cells #[.int .i64 t278, .int .i64 t279, .int .i64 t280, .int .i64 t281, .string t282, .int .i64 t283, .int .u32 t284, .slice Ao38 t285.length co38] 48 (0, 0))) := ⟨(by rw [hw]; exact (by (with_reducible repeat (first | refine blk_drewN ?_ _ | refine blk_drew ?_ | refine blk_alloc ?_ _)); refine blk_far ?_ NB289_301.out _; (with_reducible repeat (first | refine blk_drewN ?_ _ | refine blk_drew ?_ | refine blk_alloc ?_ _)); refine blk_far ?_ NB289_301.out _; (with_reducible repeat (first | refine blk_drewN ?_ _ | refine blk_drew ?_ | refine blk_alloc ?_ _)); refine blk_far ?_ NB289_301.out _; (with_reducible repeat (first | refine blk_drewN ?_ _ | refine blk_drew ?_ | refine blk_alloc ?_ _)); refine blk_far ?_ NB289_301.out _; (with_reducible repeat (first | refine blk_drewN ?_ _ | refine blk_drew ?_ | refine blk_alloc ?_ _)); refine blk_far ?_ NB289_301.out _; (with_reducible repeat (first | refine blk_drewN ?_ _ | refine blk_drew ?_ | refine blk_alloc ?_ _)); refine blk_far ?_ NB289_301.out _; (with_reducible repeat (first | refine blk_drewN ?_ _ | refine blk_drew ?_ | refine blk_alloc ?_ _)); refine blk_far ?_ NB289_301.out _; (with_reducible repeat (first | refine blk_drewN ?_ _ | refine blk_drew ?_ | refine blk_alloc ?_ _)); refine blk_far ?_ NB289_301.out _; (with_reducible repeat (first | refine blk_drewN ?_ _ | refine blk_drew ?_ | refine blk_alloc ?_ _)); exact BK289.out))⟩; have n5_ : Aside0 (w46.heap[gb301]? = some (.cells #[.int .i64 t290, .int .i64 t291, .int .i64 t292, .int .i64 t293, .string t294, .int .i64 t295, .int .u32 t296, .slice Ao45 t297.length co45] 48 (0, 0))) := ⟨(by rw [hw]; exact (by (with_reducible repeat (first | refine blk_drewN ?_ _ | refine blk_drew ?_ | refine blk_alloc ?_ _)); refine blk_put (cs := #[.int .i64 t290, .int .i64 t291, .int .i64 t292, .int .i64 t293, .string t294, .int .i64 t295, .int .u32 t296, .slice none 0 0]) ?_ 7 _ rfl; (with_reducible repeat (first | refine blk_drewN ?_ _ | refine blk_drew ?_ | refine blk_alloc ?_ _)); refine blk_put (cs := #[.int .i64 t290, .int .i64 t291, .int .i64 t292, .int .i64 t293, .string t294, .int .i64 t295, .int .u32 0, .slice none 0 0]) ?_ 6 _ rfl; (with_reducible repeat (first | refine blk_drewN ?_ _ | refine blk_drew ?_ | refine blk_alloc ?_ _)); refine blk_put (cs := #[.int .i64 t290, .int .i64 t291, .int .i64 t292, .int .i64 t293, .string t294, .int .i64 0, .int .u32 0, .slice none 0 0]) ?_ 5 _ rfl; (with_reducible repeat (first | refine blk_drewN ?_ _ | refine blk_drew ?_ | refine blk_alloc ?_ _)); refine blk_put (cs := #[.int .i64 t290, .int .i64 t291, .int .i64 t292, .int .i64 t293, .string (⟨#[]⟩ : ByteArray), .int .i64 0, .int .u32 0, .slice none 0 0]) ?_ 4 _ rfl; (with_reducible repeat (first | refine blk_drewN ?_ _ | refine blk_drew ?_ | refine blk_alloc ?_ _)); refine blk_put (cs := #[.int .i64 t290, .int .i64 t291, .int .i64 t292, .int .i64 0, .string (⟨#[]⟩ : ByteArray), .int .i64 0, .int .u32 0, .slice none 0 0]) ?_ 3 _ rfl; (with_reducible repeat (first | refine blk_drewN ?_ _ | refine blk_drew ?_ | refine blk_alloc ?_ _)); refine blk_put (cs := #[.int .i64 t290, .int .i64 t291, .int .i64 0, .int .i64 0, .string (⟨#[]⟩ : ByteArray), .int .i64 0, .int .u32 0, .slice none 0 0]) ?_ 2 _ rfl; (with_reducible repeat (first | refine blk_drewN ?_ _ | refine blk_drew ?_ | refine blk_alloc ?_ _)); refine blk_put (cs := #[.int .i64 t290, .int .i64 0, .int .i64 0, .int .i64 0, .string (⟨#[]⟩ : ByteArray), .int .i64 0, .int .u32 0, .slice none 0 0]) ?_ 1 _ rfl; (with_reducible repeat (first | refine blk_drewN ?_ _ | refine blk_drew ?_ | refine blk_alloc ?_ _)); refine blk_put (cs := #[.int .i64 0, .int .i64 0, .int .i64 0, .int .i64 0, .string (⟨#[]⟩ : ByteArray), .int .i64 0, .int .u32 0, .slice none 0 0]) ?_ 0 _ rfl; (with_reducible repeat (first | refine blk_drewN ?_ _ | refine blk_drew ?_ | refine blk_alloc ?_ _)); exact BK301.out))⟩; have n6_ : Aside0 (Below w.heap.size w w46) := ⟨(by rw [hw]; exact (by repeat (first | (with_reducible first | exact HB.out | apply below_alloc | apply pw_below_drewN | apply below_drew1 | refine below_set ?_ GE289.out | refine below_set ?_ GE301.out) | exact HB.out)))⟩; clear hw; clear HO_9; clear HO277; clear HO287; clear HO299; clear BK289; clear BK301; clear HB; have HO_9 := n0_; have HO277 := n1_; have HO287 := n2_; have HO299 := n3_; have BK289 := n4_; have BK301 := n5_; have HB := n6_; clear n0_ n1_ n2_ n3_ n4_ n5_ n6_) | (go_at_call 29; (with_reducible refine (keys_Num.calls k1 _ _ t262 (wrap64 (a3)) t302 t303 _ ?side1 ?side2 A30.out).mono ?_); (case side1 => repeat (first | exact (Kd.N_reads' HO_9.out).2.2 | (with_reducible refine Kd.C_alloc ?_ _) | (with_reducible refine Kd.C_drewN ?_ _) | (with_reducible refine Kd.C_drew ?_))); (case side2 => exact (Kd.N_reads' HO_9.out).2.1); rintro e w47 ⟨rfl, hb⟩; have n0_ := Aside0.mk (Kd.N_below (nv HO_9.out) hb); have n1_ := Aside0.mk (Kd.N_below (nv HO277.out) hb); have n2_ := Aside0.mk (Kd.V_below (vv HO287.out) hb); have n3_ := Aside0.mk (Kd.V_below (vv HO299.out) hb); have n4_ := Aside0.mk (blk_below (kv BK289.out) hb); have n5_ := Aside0.mk (blk_below (kv BK301.out) hb); have n6_ := Aside0.mk (below_step (by repeat (first | (with_reducible first | exact HB.out | apply below_alloc | apply pw_below_drewN | apply below_drew1 | refine below_set ?_ GE289.out | refine below_set ?_ GE301.out) | exact HB.out)) hb); clear HO_9; clear HO277; clear HO287; clear HO299; clear BK289; clear BK301; clear HB; have HO_9 := n0_; have HO277 := n1_; have HO287 := n2_; have HO299 := n3_; have BK289 := n4_; have BK301 := n5_; have HB := n6_; clear n0_ n1_ n2_ n3_ n4_ n5_ n6_; (try clear hb); (try clear hb2); (try clear hk); (try clear hi)) | (go_at_call 29; (with_reducible refine (keys_Num.calls k1 _ _ t275 (wrap64 (a3)) t304 t305 _ ?side1 ?side2 A31.out).mono ?_); (case side1 => repeat (first | exact (Kd.N_reads' HO277.out).2.2 | (with_reducible refine Kd.C_alloc ?_ _) | (with_reducible refine Kd.C_drewN ?_ _) | (with_reducible refine Kd.C_drew ?_))); (case side2 => exact (Kd.N_reads' HO277.out).2.1); rintro e w48 ⟨rfl, hb⟩; have n0_ := Aside0.mk (Kd.N_below (nv HO_9.out) hb); have n1_ := Aside0.mk (Kd.N_below (nv HO277.out) hb); have n2_ := Aside0.mk (Kd.V_below (vv HO287.out) hb); have n3_ := Aside0.mk (Kd.V_below (vv HO299.out) hb); have n4_ := Aside0.mk (blk_below (kv BK289.out) hb); have n5_ := Aside0.mk (blk_below (kv BK301.out) hb); have n6_ := Aside0.mk (below_step (by repeat (first | (with_reducible first | exact HB.out | apply below_alloc | apply pw_below_drewN | apply below_drew1 | refine below_set ?_ GE289.out | refine below_set ?_ GE301.out) | exact HB.out)) hb); clear HO_9; clear HO277; clear HO287; clear HO299; clear BK289; clear BK301; clear HB; have HO_9 := n0_; have HO277 := n1_; have HO287 := n2_; have HO299 := n3_; have BK289 := n4_; have BK301 := n5_; have HB := n6_; clear n0_ n1_ n2_ n3_ n4_ n5_ n6_; (try clear hb); (try clear hb2); (try clear hk); (try clear hi))); go_upto_region 17 with (first | (go_at_call 32; (with_reducible refine (keys_Live.calls (fun k_ => True) _ _ t262 a1 t275 _ ?side1 A27.out).mono ?_); (case side1 => exact Kd.N_V (HO_9.out)); rintro e w34 ⟨v276, rfl, ho0, hb⟩; have n0_ := Aside0.mk (Kd.N_elder' (nv HO_9.out) (Kd.N_base ho0) hb); have n1_ := Aside0.mk (Kd.N_lower (Kd.N_mono (ok' := fun k_ => True) ho0 (fun k_ hk_ => trivial)) (below_size (bv HB.out))); have n2_ := Aside0.mk (below_step (bv HB.out) hb); clear HO_9; clear HB; have HO_9 := n0_; have HO277 := n1_; have HB := n2_; clear n0_ n1_ n2_; (try clear hb); (try clear hb2); (try clear hk); (try clear hi); (try clear ho0)) | (go_at_call 22; (with_reducible refine (keys_Find.calls k1 (fun k_ => (True ∧ some k_ ≠ (v276 : Value).ownBlock)) _ _ t262 a2 a1 t278 t279 t280 t281 t282 t283 t284 t285 t288 _ ?side1 A28.out).mono ?_); (case side1 => exact Kd.N_V (HO_9.out)); rintro e w35 ⟨v286, rfl, ho0, hb⟩; have n0_ := Aside0.mk (Kd.N_below (nv HO_9.out) hb); have n1_ := Aside0.mk (Kd.N_below (nv HO277.out) hb); have n2_ := Aside0.mk (Kd.V_lower (Kd.V_mono (ok' := fun k_ => some k_ ≠ (v276 : Value).ownBlock) ho0 (fun k_ hk_ => Or.elim hk_ (fun hs_ => hs_.2) (fun hn_ => (Kd.fresh' (Kd.N_lt (nv HO277.out)) k_ hn_)))) (below_size (bv HB.out))); have n3_ := Aside0.mk (below_step (bv HB.out) hb); clear HO_9; clear HO277; clear HB; have HO_9 := n0_; have HO277 := n1_; have HO287 := n2_; have HB := n3_; clear n0_ n1_ n2_ n3_; (try clear hb); (try clear hb2); (try clear hk); (try clear hi); (try clear ho0)) | ((with_reducible refine gate_dst (N := 13) rfl ?_); refine box_event ?hg (N := 13) ?hd (cs := #[.int .i64 0, .int .i64 0, .int .i64 0, .int .i64 0, .string (⟨#[]⟩ : ByteArray), .int .i64 0, .int .u32 0, .slice none 0 0]) (t := 48) ?hr ?_; (case hd => rfl); (case hg => rfl); (case hr => first | (go_simp; done) | (go_simp; rfl)); intro gb289 hg w36 hbox hb; have n0_ := Aside0.mk (Kd.N_below (Kd.N_elderB (nv HO_9.out) gb289 (Nat.le_of_eq hg.symm)) hb); have n1_ := Aside0.mk (Kd.N_below (Kd.N_elderB (nv HO277.out) gb289 (Nat.le_of_eq hg.symm)) hb); have n2_ := Aside0.mk (Kd.V_below (Kd.V_elderB (vv HO287.out) gb289 (Nat.le_of_eq hg.symm)) hb); have n3_ := Aside0.mk (below_step (bv HB.out) hb); have n4_ := Aside0.mk (hbox); have n5_ := Aside0.mk ((by rw [hg]; exact (below_size (bv HB.out)) : w.heap.size ≤ gb289)); have n6_ := Aside0.mk ((by rw [hg]; exact (below_size (bv HB.out)) : w.heap.size ≤ gb289)); clear HO_9; clear HO277; clear HO287; clear HB; have HO_9 := n0_; have HO277 := n1_; have HO287 := n2_; have HB := n3_; have BK289 := n4_; have GW289 := n5_; have GE289 := n6_; clear n0_ n1_ n2_ n3_ n4_ n5_ n6_; clear hb hbox hg; have hcz37_0 : w36.cell? ⟨gb289, 0, none⟩ = some (.int .i64 0) := (blk_cell BK289.out 0).trans rfl; have hcz37_1 : w36.cell? ⟨gb289, 1, none⟩ = some (.int .i64 0) := (blk_cell BK289.out 1).trans rfl; have hcz37_2 : w36.cell? ⟨gb289, 2, none⟩ = some (.int .i64 0) := (blk_cell BK289.out 2).trans rfl; have hcz37_3 : w36.cell? ⟨gb289, 3, none⟩ = some (.int .i64 0) := (blk_cell BK289.out 3).trans rfl; have hcz37_4 : w36.cell? ⟨gb289, 4, none⟩ = some (.string (⟨#[]⟩ : ByteArray)) := (blk_cell BK289.out 4).trans rfl; have hcz37_5 : w36.cell? ⟨gb289, 5, none⟩ = some (.int .i64 0) := (blk_cell BK289.out 5).trans rfl; have hcz37_6 : w36.cell? ⟨gb289, 6, none⟩ = some (.int .u32 0) := (blk_cell BK289.out 6).trans rfl; have hcz37_7 : w36.cell? ⟨gb289, 7, none⟩ = some (.slice none 0 0) := (blk_cell BK289.out 7).trans rfl; have hfz37_0 := blk_frozen BK289.out 0; have hfz37_1 := blk_frozen BK289.out 1; have hfz37_2 := blk_frozen BK289.out 2; have hfz37_3 := blk_frozen BK289.out 3; have hfz37_4 := blk_frozen BK289.out 4; have hfz37_5 := blk_frozen BK289.out 5; have hfz37_6 := blk_frozen BK289.out 6; have hfz37_7 := blk_frozen BK289.out 7; obtain ⟨Ao38, co38, eo38⟩ := Kd.V_slice HO287.out; subst eo38) | ((with_reducible refine gate_store (t := 48) (p := 13) rfl ?_); (try (rw [drewN_self w36]; generalize hq_ : World.drewN w36 _ = w36; have n0_ := Aside0.mk (Kd.N_at hq_ HO_9.out); have n1_ := Aside0.mk (Kd.N_at hq_ HO277.out); have n2_ := Aside0.mk (Kd.V_at hq_ HO287.out); have n3_ := Aside0.mk (blk_at hq_ BK289.out); have n4_ := Aside0.mk (below_at hq_ HB.out); clear hq_ HO_9 HO277 HO287 BK289 HB; have HO_9 := n0_; have HO277 := n1_; have HO287 := n2_; have BK289 := n3_; have HB := n4_; clear n0_ n1_ n2_ n3_ n4_)); refine store_event (t := 48) (p := 13) (v := ?vo_w39) (w1 := ((((((((w36.setCell ⟨gb289, 0, none⟩ (.int .i64 t278)).setCell ⟨gb289, 1, none⟩ (.int .i64 t279)).setCell ⟨gb289, 2, none⟩ (.int .i64 t280)).setCell ⟨gb289, 3, none⟩ (.int .i64 t281)).setCell ⟨gb289, 4, none⟩ (.string t282)).setCell ⟨gb289, 5, none⟩ (.int .i64 t283)).setCell ⟨gb289, 6, none⟩ (.int .u32 t284)).setCell ⟨gb289, 7, none⟩ (.slice Ao38 t285.length co38))) ?hg ?ho ?hn ?hr ?_; (case ho => rfl); (case hg => rfl); (case hn => rfl); (case hr => first | (go_simp; done) | (go_simp; rfl)); intro w39 hw; have n0_ : Aside0 (Kd.N k48 48 w39 w.heap.size (fun k_ => some k_ ≠ (v276 : Value).ownBlock ∧ k_ ≠ gb289) (.slice Ao33 t262.length co33) t262) := ⟨(by rw [hw]; exact (by (with_reducible repeat (first | apply Kd.N_alloc | apply Kd.N_drewN | apply Kd.N_drew)); exact Kd.N_mono (Kd.N_far (p := ⟨gb289, 7, none⟩) (Kd.N_far (p := ⟨gb289, 6, none⟩) (Kd.N_far (p := ⟨gb289, 5, none⟩) (Kd.N_far (p := ⟨gb289, 4, none⟩) (Kd.N_far (p := ⟨gb289, 3, none⟩) (Kd.N_far (p := ⟨gb289, 2, none⟩) (Kd.N_far (p := ⟨gb289, 1, none⟩) (Kd.N_far (p := ⟨gb289, 0, none⟩) (Kd.N_mono HO_9.out (fun k_ hk => (⟨hk, hk.2⟩ : _ ∧ k_ ≠ gb289))) (fun _ hk => hk.2) (.int .i64 t278)) (fun _ hk => hk.2) (.int .i64 t279)) (fun _ hk => hk.2) (.int .i64 t280)) (fun _ hk => hk.2) (.int .i64 t281)) (fun _ hk => hk.2) (.string t282)) (fun _ hk => hk.2) (.int .i64 t283)) (fun _ hk => hk.2) (.int .u32 t284)) (fun _ hk => hk.2) (.slice Ao38 t285.length co38)) (fun _ hk => ⟨hk.1.1.2, hk.1.2⟩)))⟩; have n1_ : Aside0 (Kd.N k48 48 w39 w.heap.size (fun k_ => k_ ≠ gb289) v276 t275) := ⟨(by rw [hw]; exact (by (with_reducible repeat (first | apply Kd.N_alloc | apply Kd.N_drewN | apply Kd.N_drew)); exact Kd.N_mono (Kd.N_far (p := ⟨gb289, 7, none⟩) (Kd.N_far (p := ⟨gb289, 6, none⟩) (Kd.N_far (p := ⟨gb289, 5, none⟩) (Kd.N_far (p := ⟨gb289, 4, none⟩) (Kd.N_far (p := ⟨gb289, 3, none⟩) (Kd.N_far (p := ⟨gb289, 2, none⟩) (Kd.N_far (p := ⟨gb289, 1, none⟩) (Kd.N_far (p := ⟨gb289, 0, none⟩) (Kd.N_mono HO277.out (fun k_ hk => (⟨hk, hk.2⟩ : _ ∧ k_ ≠ gb289))) (fun _ hk => hk.2) (.int .i64 t278)) (fun _ hk => hk.2) (.int .i64 t279)) (fun _ hk => hk.2) (.int .i64 t280)) (fun _ hk => hk.2) (.int .i64 t281)) (fun _ hk => hk.2) (.string t282)) (fun _ hk => hk.2) (.int .i64 t283)) (fun _ hk => hk.2) (.int .u32 t284)) (fun _ hk => hk.2) (.slice Ao38 t285.length co38)) (fun _ hk => hk.1.2)))⟩; have n2_ : Aside0 (Kd.V (Kd.int .u8) 5 w39 w.heap.size (fun k_ => some k_ ≠ (v276 : Value).ownBlock ∧ k_ ≠ gb289) (.slice Ao38 t285.length co38) t285) := ⟨(by rw [hw]; exact (by (with_reducible repeat (first | apply Kd.V_alloc | apply Kd.V_drewN | apply Kd.V_drew)); exact Kd.V_mono (Kd.V_far (p := ⟨gb289, 7, none⟩) (Kd.V_far (p := ⟨gb289, 6, none⟩) (Kd.V_far (p := ⟨gb289, 5, none⟩) (Kd.V_far (p := ⟨gb289, 4, none⟩) (Kd.V_far (p := ⟨gb289, 3, none⟩) (Kd.V_far (p := ⟨gb289, 2, none⟩) (Kd.V_far (p := ⟨gb289, 1, none⟩) (Kd.V_far (p := ⟨gb289, 0, none⟩) (Kd.V_mono HO287.out (fun k_ hk => (⟨hk, hk.2⟩ : _ ∧ k_ ≠ gb289))) (fun _ hk => hk.2) (.int .i64 t278)) (fun _ hk => hk.2) (.int .i64 t279)) (fun _ hk => hk.2) (.int .i64 t280)) (fun _ hk => hk.2) (.int .i64 t281)) (fun _ hk => hk.2) (.string t282)) (fun _ hk => hk.2) (.int .i64 t283)) (fun _ hk => hk.2) (.int .u32 t284)) (fun _ hk => hk.2) (.slice Ao38 t285.length co38)) (fun _ hk => ⟨hk.1.1, hk.1.2⟩)))⟩; have n3_ : Aside0 (w39.heap[gb289]? = some (.cells #[.int .i64 t278, .int .i64 t279, .int .i64 t280, .int .i64 t281, .string t282, .int .i64 t283, .int .u32 t284, .slice Ao38 t285.length co38] 48 (0, 0))) := ⟨(by rw [hw]; exact (by (with_reducible repeat (first | refine blk_drewN ?_ _ | refine blk_drew ?_ | refine blk_alloc ?_ _)); refine blk_put (cs := #[.int .i64 t278, .int .i64 t279, .int .i64 t280, .int .i64 t281, .string t282, .int .i64 t283, .int .u32 t284, .slice none 0 0]) ?_ 7 _ rfl; (with_reducible repeat (first | refine blk_drewN ?_ _ | refine blk_drew ?_ | refine blk_alloc ?_ _)); refine blk_put (cs := #[.int .i64 t278, .int .i64 t279, .int .i64 t280, .int .i64 t281, .string t282, .int .i64 t283, .int .u32 0, .slice none 0 0]) ?_ 6 _ rfl; (with_reducible repeat (first | refine blk_drewN ?_ _ | refine blk_drew ?_ | refine blk_alloc ?_ _)); refine blk_put (cs := #[.int .i64 t278, .int .i64 t279, .int .i64 t280, .int .i64 t281, .string t282, .int .i64 0, .int .u32 0, .slice none 0 0]) ?_ 5 _ rfl; (with_reducible repeat (first | refine blk_drewN ?_ _ | refine blk_drew ?_ | refine blk_alloc ?_ _)); refine blk_put (cs := #[.int .i64 t278, .int .i64 t279, .int .i64 t280, .int .i64 t281, .string (⟨#[]⟩ : ByteArray), .int .i64 0, .int .u32 0, .slice none 0 0]) ?_ 4 _ rfl; (with_reducible repeat (first | refine blk_drewN ?_ _ | refine blk_drew ?_ | refine blk_alloc ?_ _)); refine blk_put (cs := #[.int .i64 t278, .int .i64 t279, .int .i64 t280, .int .i64 0, .string (⟨#[]⟩ : ByteArray), .int .i64 0, .int .u32 0, .slice none 0 0]) ?_ 3 _ rfl; (with_reducible repeat (first | refine blk_drewN ?_ _ | refine blk_drew ?_ | refine blk_alloc ?_ _)); refine blk_put (cs := #[.int .i64 t278, .int .i64 t279, .int .i64 0, .int .i64 0, .string (⟨#[]⟩ : ByteArray), .int .i64 0, .int .u32 0, .slice none 0 0]) ?_ 2 _ rfl; (with_reducible repeat (first | refine blk_drewN ?_ _ | refine blk_drew ?_ | refine blk_alloc ?_ _)); refine blk_put (cs := #[.int .i64 t278, .int .i64 0, .int .i64 0, .int .i64 0, .string (⟨#[]⟩ : ByteArray), .int .i64 0, .int .u32 0, .slice none 0 0]) ?_ 1 _ rfl; (with_reducible repeat (first | refine blk_drewN ?_ _ | refine blk_drew ?_ | refine blk_alloc ?_ _)); refine blk_put (cs := #[.int .i64 0, .int .i64 0, .int .i64 0, .int .i64 0, .string (⟨#[]⟩ : ByteArray), .int .i64 0, .int .u32 0, .slice none 0 0]) ?_ 0 _ rfl; (with_reducible repeat (first | refine blk_drewN ?_ _ | refine blk_drew ?_ | refine blk_alloc ?_ _)); exact BK289.out))⟩; have n4_ : Aside0 (Below w.heap.size w w39) := ⟨(by rw [hw]; exact (by repeat (first | (with_reducible first | exact HB.out | apply below_alloc | apply pw_below_drewN | apply below_drew1 | refine below_set ?_ GE289.out) | exact HB.out)))⟩; clear hw; clear HO_9; clear HO277; clear HO287; clear BK289; clear HB; have HO_9 := n0_; have HO277 := n1_; have HO287 := n2_; have BK289 := n3_; have HB := n4_; clear n0_ n1_ n2_ n3_ n4_; obtain ⟨Ao40, co40, eo40⟩ := Kd.N_slice HO277.out; subst eo40) | (go_at_call 22; (with_reducible refine (keys_Find.calls k1 (fun k_ => k_ ≠ gb289) _ _ t275 a2 a1 t290 t291 t292 t293 t294 t295 t296 t297 t300 _ ?side1 A29.out).mono ?_); (case side1 => exact Kd.N_V (HO277.out)); rintro e w41 ⟨v298, rfl, ho0, hb⟩; have n0_ := Aside0.mk (Kd.N_below (nv HO_9.out) hb); have n1_ := Aside0.mk (Kd.N_below (nv HO277.out) hb); have n2_ := Aside0.mk (Kd.V_below (vv HO287.out) hb); have n3_ := Aside0.mk (Kd.V_lower (Kd.V_mono (ok' := fun k_ => k_ ≠ gb289) ho0 (fun k_ hk_ => Or.elim hk_ (fun hs_ => hs_) (fun hn_ => (Kd.freshB (g := gb289) (o := .cells #[.int .i64 t278, .int .i64 t279, .int .i64 t280, .int .i64 t281, .string t282, .int .i64 t283, .int .u32 t284, .slice Ao38 t285.length co38] 48 (0, 0)) (kv BK289.out) k_ hn_)))) (below_size (by repeat (first | (with_reducible first | exact HB.out | apply below_alloc | apply pw_below_drewN | apply below_drew1 | refine below_set ?_ GE289.out) | exact HB.out)))); have n4_ := Aside0.mk (blk_below (kv BK289.out) hb); have n5_ := Aside0.mk (below_step (by repeat (first | (with_reducible first | exact HB.out | apply below_alloc | apply pw_below_drewN | apply below_drew1 | refine below_set ?_ GE289.out) | exact HB.out)) hb); clear HO_9; clear HO277; clear HO287; clear BK289; clear HB; have HO_9 := n0_; have HO277 := n1_; have HO287 := n2_; have HO299 := n3_; have BK289 := n4_; have HB := n5_; clear n0_ n1_ n2_ n3_ n4_ n5_; (try clear hb); (try clear hb2); (try clear hk); (try clear hi); (try clear ho0)) | ((with_reducible refine gate_dst (N := 15) rfl ?_); refine box_event ?hg (N := 15) ?hd (cs := #[.int .i64 0, .int .i64 0, .int .i64 0, .int .i64 0, .string (⟨#[]⟩ : ByteArray), .int .i64 0, .int .u32 0, .slice none 0 0]) (t := 48) ?hr ?_; (case hd => rfl); (case hg => rfl); (case hr => first | (go_simp; done) | (go_simp; rfl)); intro gb301 hg w42 hbox hb; have n0_ := Aside0.mk (Kd.N_below (Kd.N_elderB (nv HO_9.out) gb301 (Nat.le_of_eq hg.symm)) hb); have n1_ := Aside0.mk (Kd.N_below (Kd.N_elderB (nv HO277.out) gb301 (Nat.le_of_eq hg.symm)) hb); have n2_ := Aside0.mk (Kd.V_below (Kd.V_elderB (vv HO287.out) gb301 (Nat.le_of_eq hg.symm)) hb); have n3_ := Aside0.mk (Kd.V_below (Kd.V_elderB (vv HO299.out) gb301 (Nat.le_of_eq hg.symm)) hb); have n4_ := Aside0.mk (blk_below (kv BK289.out) hb); have n5_ := Aside0.mk (below_step (by repeat (first | (with_reducible first | exact HB.out | apply below_alloc | apply pw_below_drewN | apply below_drew1 | refine below_set ?_ GE289.out) | exact HB.out)) hb); have n6_ := Aside0.mk (hbox); have n7_ := Aside0.mk ((by rw [hg]; exact (below_size (by repeat (first | (with_reducible first | exact HB.out | apply below_alloc | apply pw_below_drewN | apply below_drew1 | refine below_set ?_ GE289.out) | exact HB.out))) : w.heap.size ≤ gb301)); have n8_ := Aside0.mk ((by rw [hg]; exact (below_size (by repeat (first | (with_reducible first | exact HB.out | apply below_alloc | apply pw_below_drewN | apply below_drew1 | refine below_set ?_ GE289.out) | exact HB.out))) : w.heap.size ≤ gb301)); have n9_ := Aside0.mk ((by rw [hg]; exact Nat.ne_of_lt (blk_lt (g := gb289) (o := .cells #[.int .i64 t278, .int .i64 t279, .int .i64 t280, .int .i64 t281, .string t282, .int .i64 t283, .int .u32 t284, .slice Ao38 t285.length co38] 48 (0, 0)) (kv BK289.out)) : gb289 ≠ gb301)); have n10_ := Aside0.mk ((by rw [hg]; exact Nat.ne_of_gt (blk_lt (g := gb289) (o := .cells #[.int .i64 t278, .int .i64 t279, .int .i64 t280, .int .i64 t281, .string t282, .int .i64 t283, .int .u32 t284, .slice Ao38 t285.length co38] 48 (0, 0)) (kv BK289.out)) : gb301 ≠ gb289)); clear HO_9; clear HO277; clear HO287; clear HO299; clear BK289; clear HB; have HO_9 := n0_; have HO277 := n1_; have HO287 := n2_; have HO299 := n3_; have BK289 := n4_; have HB := n5_; have BK301 := n6_; have GW301 := n7_; have GE301 := n8_; have NB289_301 := n9_; have NB301_289 := n10_; clear n0_ n1_ n2_ n3_ n4_ n5_ n6_ n7_ n8_ n9_ n10_; clear hb hbox hg; have hnb43 := NB301_289.out; have hnc43 := NB289_301.out; have hcz44_0 : w42.cell? ⟨gb301, 0, none⟩ = some (.int .i64 0) := (blk_cell BK301.out 0).trans rfl; have hcz44_1 : w42.cell? ⟨gb301, 1, none⟩ = some (.int .i64 0) := (blk_cell BK301.out 1).trans rfl; have hcz44_2 : w42.cell? ⟨gb301, 2, none⟩ = some (.int .i64 0) := (blk_cell BK301.out 2).trans rfl; have hcz44_3 : w42.cell? ⟨gb301, 3, none⟩ = some (.int .i64 0) := (blk_cell BK301.out 3).trans rfl; have hcz44_4 : w42.cell? ⟨gb301, 4, none⟩ = some (.string (⟨#[]⟩ : ByteArray)) := (blk_cell BK301.out 4).trans rfl; have hcz44_5 : w42.cell? ⟨gb301, 5, none⟩ = some (.int .i64 0) := (blk_cell BK301.out 5).trans rfl; have hcz44_6 : w42.cell? ⟨gb301, 6, none⟩ = some (.int .u32 0) := (blk_cell BK301.out 6).trans rfl; have hcz44_7 : w42.cell? ⟨gb301, 7, none⟩ = some (.slice none 0 0) := (blk_cell BK301.out 7).trans rfl; have hfz44_0 := blk_frozen BK301.out 0; have hfz44_1 := blk_frozen BK301.out 1; have hfz44_2 := blk_frozen BK301.out 2; have hfz44_3 := blk_frozen BK301.out 3; have hfz44_4 := blk_frozen BK301.out 4; have hfz44_5 := blk_frozen BK301.out 5; have hfz44_6 := blk_frozen BK301.out 6; have hfz44_7 := blk_frozen BK301.out 7; obtain ⟨Ao45, co45, eo45⟩ := Kd.V_slice HO299.out; subst eo45) | ((with_reducible refine gate_store (t := 48) (p := 15) rfl ?_); (try (rw [drewN_self w42]; generalize hq_ : World.drewN w42 _ = w42; have n0_ := Aside0.mk (Kd.N_at hq_ HO_9.out); have n1_ := Aside0.mk (Kd.N_at hq_ HO277.out); have n2_ := Aside0.mk (Kd.V_at hq_ HO287.out); have n3_ := Aside0.mk (Kd.V_at hq_ HO299.out); have n4_ := Aside0.mk (blk_at hq_ BK289.out); have n5_ := Aside0.mk (blk_at hq_ BK301.out); have n6_ := Aside0.mk (below_at hq_ HB.out); clear hq_ HO_9 HO277 HO287 HO299 BK289 BK301 HB; have HO_9 := n0_; have HO277 := n1_; have HO287 := n2_; have HO299 := n3_; have BK289 := n4_; have BK301 := n5_; have HB := n6_; clear n0_ n1_ n2_ n3_ n4_ n5_ n6_)); refine store_event (t := 48) (p := 15) (v := ?vo_w46) (w1 := ((((((((w42.setCell ⟨gb301, 0, none⟩ (.int .i64 t290)).setCell ⟨gb301, 1, none⟩ (.int .i64 t291)).setCell ⟨gb301, 2, none⟩ (.int .i64 t292)).setCell ⟨gb301, 3, none⟩ (.int .i64 t293)).setCell ⟨gb301, 4, none⟩ (.string t294)).setCell ⟨gb301, 5, none⟩ (.int .i64 t295)).setCell ⟨gb301, 6, none⟩ (.int .u32 t296)).setCell ⟨gb301, 7, none⟩ (.slice Ao45 t297.length co45))) ?hg ?ho ?hn ?hr ?_; (case ho => rfl); (case hg => rfl); (case hn => rfl); (case hr => first | (go_simp; done) | (go_simp; rfl)); intro w46 hw; have n0_ : Aside0 (Kd.N k48 48 w46 w.heap.size (fun k_ => some k_ ≠ (.slice Ao40 t275.length co40 : Value).ownBlock ∧ k_ ≠ gb289 ∧ k_ ≠ gb301) (.slice Ao33 t262.length co33) t262) := ⟨(by rw [hw]; exact (by (with_reducible repeat (first | apply Kd.N_alloc | apply Kd.N_drewN | apply Kd.N_drew)); exact Kd.N_mono (Kd.N_far (p := ⟨gb301, 7, none⟩) (Kd.N_far (p := ⟨gb301, 6, none⟩) (Kd.N_far (p := ⟨gb301, 5, none⟩) (Kd.N_far (p := ⟨gb301, 4, none⟩) (Kd.N_far (p := ⟨gb301, 3, none⟩) (Kd.N_far (p := ⟨gb301, 2, none⟩) (Kd.N_far (p := ⟨gb301, 1, none⟩) (Kd.N_far (p := ⟨gb301, 0, none⟩) (Kd.N_mono HO_9.out (fun k_ hk => (⟨hk, hk.2⟩ : _ ∧ k_ ≠ gb301))) (fun _ hk => hk.2) (.int .i64 t290)) (fun _ hk => hk.2) (.int .i64 t291)) (fun _ hk => hk.2) (.int .i64 t292)) (fun _ hk => hk.2) (.int .i64 t293)) (fun _ hk => hk.2) (.string t294)) (fun _ hk => hk.2) (.int .i64 t295)) (fun _ hk => hk.2) (.int .u32 t296)) (fun _ hk => hk.2) (.slice Ao45 t297.length co45)) (fun _ hk => ⟨hk.1.1.1, ⟨hk.1.1.2, hk.1.2⟩⟩)))⟩; have n1_ : Aside0 (Kd.N k48 48 w46 w.heap.size (fun k_ => k_ ≠ gb289 ∧ k_ ≠ gb301) (.slice Ao40 t275.length co40) t275) := ⟨(by rw [hw]; exact (by (with_reducible repeat (first | apply Kd.N_alloc | apply Kd.N_drewN | apply Kd.N_drew)); exact Kd.N_mono (Kd.N_far (p := ⟨gb301, 7, none⟩) (Kd.N_far (p := ⟨gb301, 6, none⟩) (Kd.N_far (p := ⟨gb301, 5, none⟩) (Kd.N_far (p := ⟨gb301, 4, none⟩) (Kd.N_far (p := ⟨gb301, 3, none⟩) (Kd.N_far (p := ⟨gb301, 2, none⟩) (Kd.N_far (p := ⟨gb301, 1, none⟩) (Kd.N_far (p := ⟨gb301, 0, none⟩) (Kd.N_mono HO277.out (fun k_ hk => (⟨hk, hk.2⟩ : _ ∧ k_ ≠ gb301))) (fun _ hk => hk.2) (.int .i64 t290)) (fun _ hk => hk.2) (.int .i64 t291)) (fun _ hk => hk.2) (.int .i64 t292)) (fun _ hk => hk.2) (.int .i64 t293)) (fun _ hk => hk.2) (.string t294)) (fun _ hk => hk.2) (.int .i64 t295)) (fun _ hk => hk.2) (.int .u32 t296)) (fun _ hk => hk.2) (.slice Ao45 t297.length co45)) (fun _ hk => ⟨hk.1.1, hk.1.2⟩)))⟩; have n2_ : Aside0 (Kd.V (Kd.int .u8) 5 w46 w.heap.size (fun k_ => some k_ ≠ (.slice Ao40 t275.length co40 : Value).ownBlock ∧ k_ ≠ gb289 ∧ k_ ≠ gb301) (.slice Ao38 t285.length co38) t285) := ⟨(by rw [hw]; exact (by (with_reducible repeat (first | apply Kd.V_alloc | apply Kd.V_drewN | apply Kd.V_drew)); exact Kd.V_mono (Kd.V_far (p := ⟨gb301, 7, none⟩) (Kd.V_far (p := ⟨gb301, 6, none⟩) (Kd.V_far (p := ⟨gb301, 5, none⟩) (Kd.V_far (p := ⟨gb301, 4, none⟩) (Kd.V_far (p := ⟨gb301, 3, none⟩) (Kd.V_far (p := ⟨gb301, 2, none⟩) (Kd.V_far (p := ⟨gb301, 1, none⟩) (Kd.V_far (p := ⟨gb301, 0, none⟩) (Kd.V_mono HO287.out (fun k_ hk => (⟨hk, hk.2⟩ : _ ∧ k_ ≠ gb301))) (fun _ hk => hk.2) (.int .i64 t290)) (fun _ hk => hk.2) (.int .i64 t291)) (fun _ hk => hk.2) (.int .i64 t292)) (fun _ hk => hk.2) (.int .i64 t293)) (fun _ hk => hk.2) (.string t294)) (fun _ hk => hk.2) (.int .i64 t295)) (fun _ hk => hk.2) (.int .u32 t296)) (fun _ hk => hk.2) (.slice Ao45 t297.length co45)) (fun _ hk => ⟨hk.1.1.1, ⟨hk.1.1.2, hk.1.2⟩⟩)))⟩; have n3_ : Aside0 (Kd.V (Kd.int .u8) 5 w46 w.heap.size (fun k_ => k_ ≠ gb289 ∧ k_ ≠ gb301) (.slice Ao45 t297.length co45) t297) := ⟨(by rw [hw]; exact (by (with_reducible repeat (first | apply Kd.V_alloc | apply Kd.V_drewN | apply Kd.V_drew)); exact Kd.V_mono (Kd.V_far (p := ⟨gb301, 7, none⟩) (Kd.V_far (p := ⟨gb301, 6, none⟩) (Kd.V_far (p := ⟨gb301, 5, none⟩) (Kd.V_far (p := ⟨gb301, 4, none⟩) (Kd.V_far (p := ⟨gb301, 3, none⟩) (Kd.V_far (p := ⟨gb301, 2, none⟩) (Kd.V_far (p := ⟨gb301, 1, none⟩) (Kd.V_far (p := ⟨gb301, 0, none⟩) (Kd.V_mono HO299.out (fun k_ hk => (⟨hk, hk.2⟩ : _ ∧ k_ ≠ gb301))) (fun _ hk => hk.2) (.int .i64 t290)) (fun _ hk => hk.2) (.int .i64 t291)) (fun _ hk => hk.2) (.int .i64 t292)) (fun _ hk => hk.2) (.int .i64 t293)) (fun _ hk => hk.2) (.string t294)) (fun _ hk => hk.2) (.int .i64 t295)) (fun _ hk => hk.2) (.int .u32 t296)) (fun _ hk => hk.2) (.slice Ao45 t297.length co45)) (fun _ hk => ⟨hk.1.1, hk.1.2⟩)))⟩; have n4_ : Aside0 (w46.heap[gb289]? = some (.cells #[.int .i64 t278, .int .i64 t279, .int .i64 t280, .int .i64 t281, .string t282, .int .i64 t283, .int .u32 t284, .slice Ao38 t285.length co38] 48 (0, 0))) := ⟨(by rw [hw]; exact (by (with_reducible repeat (first | refine blk_drewN ?_ _ | refine blk_drew ?_ | refine blk_alloc ?_ _)); refine blk_far ?_ NB289_301.out _; (with_reducible repeat (first | refine blk_drewN ?_ _ | refine blk_drew ?_ | refine blk_alloc ?_ _)); refine blk_far ?_ NB289_301.out _; (with_reducible repeat (first | refine blk_drewN ?_ _ | refine blk_drew ?_ | refine blk_alloc ?_ _)); refine blk_far ?_ NB289_301.out _; (with_reducible repeat (first | refine blk_drewN ?_ _ | refine blk_drew ?_ | refine blk_alloc ?_ _)); refine blk_far ?_ NB289_301.out _; (with_reducible repeat (first | refine blk_drewN ?_ _ | refine blk_drew ?_ | refine blk_alloc ?_ _)); refine blk_far ?_ NB289_301.out _; (with_reducible repeat (first | refine blk_drewN ?_ _ | refine blk_drew ?_ | refine blk_alloc ?_ _)); refine blk_far ?_ NB289_301.out _; (with_reducible repeat (first | refine blk_drewN ?_ _ | refine blk_drew ?_ | refine blk_alloc ?_ _)); refine blk_far ?_ NB289_301.out _; (with_reducible repeat (first | refine blk_drewN ?_ _ | refine blk_drew ?_ | refine blk_alloc ?_ _)); refine blk_far ?_ NB289_301.out _; (with_reducible repeat (first | refine blk_drewN ?_ _ | refine blk_drew ?_ | refine blk_alloc ?_ _)); exact BK289.out))⟩; have n5_ : Aside0 (w46.heap[gb301]? = some (.cells #[.int .i64 t290, .int .i64 t291, .int .i64 t292, .int .i64 t293, .string t294, .int .i64 t295, .int .u32 t296, .slice Ao45 t297.length co45] 48 (0, 0))) := ⟨(by rw [hw]; exact (by (with_reducible repeat (first | refine blk_drewN ?_ _ | refine blk_drew ?_ | refine blk_alloc ?_ _)); refine blk_put (cs := #[.int .i64 t290, .int .i64 t291, .int .i64 t292, .int .i64 t293, .string t294, .int .i64 t295, .int .u32 t296, .slice none 0 0]) ?_ 7 _ rfl; (with_reducible repeat (first | refine blk_drewN ?_ _ | refine blk_drew ?_ | refine blk_alloc ?_ _)); refine blk_put (cs := #[.int .i64 t290, .int .i64 t291, .int .i64 t292, .int .i64 t293, .string t294, .int .i64 t295, .int .u32 0, .slice none 0 0]) ?_ 6 _ rfl; (with_reducible repeat (first | refine blk_drewN ?_ _ | refine blk_drew ?_ | refine blk_alloc ?_ _)); refine blk_put (cs := #[.int .i64 t290, .int .i64 t291, .int .i64 t292, .int .i64 t293, .string t294, .int .i64 0, .int .u32 0, .slice none 0 0]) ?_ 5 _ rfl; (with_reducible repeat (first | refine blk_drewN ?_ _ | refine blk_drew ?_ | refine blk_alloc ?_ _)); refine blk_put (cs := #[.int .i64 t290, .int .i64 t291, .int .i64 t292, .int .i64 t293, .string (⟨#[]⟩ : ByteArray), .int .i64 0, .int .u32 0, .slice none 0 0]) ?_ 4 _ rfl; (with_reducible repeat (first | refine blk_drewN ?_ _ | refine blk_drew ?_ | refine blk_alloc ?_ _)); refine blk_put (cs := #[.int .i64 t290, .int .i64 t291, .int .i64 t292, .int .i64 0, .string (⟨#[]⟩ : ByteArray), .int .i64 0, .int .u32 0, .slice none 0 0]) ?_ 3 _ rfl; (with_reducible repeat (first | refine blk_drewN ?_ _ | refine blk_drew ?_ | refine blk_alloc ?_ _)); refine blk_put (cs := #[.int .i64 t290, .int .i64 t291, .int .i64 0, .int .i64 0, .string (⟨#[]⟩ : ByteArray), .int .i64 0, .int .u32 0, .slice none 0 0]) ?_ 2 _ rfl; (with_reducible repeat (first | refine blk_drewN ?_ _ | refine blk_drew ?_ | refine blk_alloc ?_ _)); refine blk_put (cs := #[.int .i64 t290, .int .i64 0, .int .i64 0, .int .i64 0, .string (⟨#[]⟩ : ByteArray), .int .i64 0, .int .u32 0, .slice none 0 0]) ?_ 1 _ rfl; (with_reducible repeat (first | refine blk_drewN ?_ _ | refine blk_drew ?_ | refine blk_alloc ?_ _)); refine blk_put (cs := #[.int .i64 0, .int .i64 0, .int .i64 0, .int .i64 0, .string (⟨#[]⟩ : ByteArray), .int .i64 0, .int .u32 0, .slice none 0 0]) ?_ 0 _ rfl; (with_reducible repeat (first | refine blk_drewN ?_ _ | refine blk_drew ?_ | refine blk_alloc ?_ _)); exact BK301.out))⟩; have n6_ : Aside0 (Below w.heap.size w w46) := ⟨(by rw [hw]; exact (by repeat (first | (with_reducible first | exact HB.out | apply below_alloc | apply pw_below_drewN | apply below_drew1 | refine below_set ?_ GE289.out | refine below_set ?_ GE301.out) | exact HB.out)))⟩; clear hw; clear HO_9; clear HO277; clear HO287; clear HO299; clear BK289; clear BK301; clear HB; have HO_9 := n0_; have HO277 := n1_; have HO287 := n2_; have HO299 := n3_; have BK289 := n4_; have BK301 := n5_; have HB := n6_; clear n0_ n1_ n2_ n3_ n4_ n5_ n6_) | (go_at_call 29; (with_reducible refine (keys_Num.calls k1 _ _ t262 (wrap64 (a3)) t302 t303 _ ?side1 ?side2 A30.out).mono ?_); (case side1 => repeat (first | exact (Kd.N_reads' HO_9.out).2.2 | (with_reducible refine Kd.C_alloc ?_ _) | (with_reducible refine Kd.C_drewN ?_ _) | (with_reducible refine Kd.C_drew ?_))); (case side2 => exact (Kd.N_reads' HO_9.out).2.1); rintro e w47 ⟨rfl, hb⟩; have n0_ := Aside0.mk (Kd.N_below (nv HO_9.out) hb); have n1_ := Aside0.mk (Kd.N_below (nv HO277.out) hb); have n2_ := Aside0.mk (Kd.V_below (vv HO287.out) hb); have n3_ := Aside0.mk (Kd.V_below (vv HO299.out) hb); have n4_ := Aside0.mk (blk_below (kv BK289.out) hb); have n5_ := Aside0.mk (blk_below (kv BK301.out) hb); have n6_ := Aside0.mk (below_step (by repeat (first | (with_reducible first | exact HB.out | apply below_alloc | apply pw_below_drewN | apply below_drew1 | refine below_set ?_ GE289.out | refine below_set ?_ GE301.out) | exact HB.out)) hb); clear HO_9; clear HO277; clear HO287; clear HO299; clear BK289; clear BK301; clear HB; have HO_9 := n0_; have HO277 := n1_; have HO287 := n2_; have HO299 := n3_; have BK289 := n4_; have BK301 := n5_; have HB := n6_; clear n0_ n1_ n2_ n3_ n4_ n5_ n6_; (try clear hb); (try clear hb2); (try clear hk); (try clear hi)) | (go_at_call 29; (with_reducible refine (keys_Num.calls k1 _ _ t275 (wrap64 (a3)) t304 t305 _ ?side1 ?side2 A31.out).mono ?_); (case side1 => repeat (first | exact (Kd.N_reads' HO277.out).2.2 | (with_reducible refine Kd.C_alloc ?_ _) | (with_reducible refine Kd.C_drewN ?_ _) | (with_reducible refine Kd.C_drew ?_))); (case side2 => exact (Kd.N_reads' HO277.out).2.1); rintro e w48 ⟨rfl, hb⟩; have n0_ := Aside0.mk (Kd.N_below (nv HO_9.out) hb); have n1_ := Aside0.mk (Kd.N_below (nv HO277.out) hb); have n2_ := Aside0.mk (Kd.V_below (vv HO287.out) hb); have n3_ := Aside0.mk (Kd.V_below (vv HO299.out) hb); have n4_ := Aside0.mk (blk_below (kv BK289.out) hb); have n5_ := Aside0.mk (blk_below (kv BK301.out) hb); have n6_ := Aside0.mk (below_step (by repeat (first | (with_reducible first | exact HB.out | apply below_alloc | apply pw_below_drewN | apply below_drew1 | refine below_set ?_ GE289.out | refine below_set ?_ GE301.out) | exact HB.out)) hb); clear HO_9; clear HO277; clear HO287; clear HO299; clear BK289; clear BK301; clear HB; have HO_9 := n0_; have HO277 := n1_; have HO287 := n2_; have HO299 := n3_; have BK289 := n4_; have BK301 := n5_; have HB := n6_; clear n0_ n1_ n2_ n3_ n4_ n5_ n6_; (try clear hb); (try clear hb2); (try clear hk); (try clear hi))))
    (try simp only [Act.put, List.setIfInBounds_toArray, List.set_cons_zero, List.set_cons_succ])
    go_cut [143] (fun v143 wc => ∃ (kq : Nat) (x143_31 : Bool), v143 = .bool x143_31 ∧ Aside0 (deadeyelaw10_KeysAgain.j3 kq a1 t262 t275 x143_31 = some r) ∧ Aside0 (kq ≤ k1) ∧ Aside0 (Kd.N k48 48 wc w.heap.size (fun k_ => some k_ ≠ ((.slice Ao40 t275.length co40) : Value).ownBlock ∧ k_ ≠ gb289 ∧ k_ ≠ gb301) (.slice Ao33 t262.length co33) t262) ∧ Aside0 (Kd.N k48 48 wc w.heap.size (fun k_ => k_ ≠ gb289 ∧ k_ ≠ gb301) (.slice Ao40 t275.length co40) t275) ∧ Aside0 (Kd.V (Kd.int .u8) 5 wc w.heap.size (fun k_ => some k_ ≠ ((.slice Ao40 t275.length co40) : Value).ownBlock ∧ k_ ≠ gb289 ∧ k_ ≠ gb301) (.slice Ao38 t285.length co38) t285) ∧ Aside0 (Kd.V (Kd.int .u8) 5 wc w.heap.size (fun k_ => k_ ≠ gb289 ∧ k_ ≠ gb301) (.slice Ao45 t297.length co45) t297) ∧ Aside0 (wc.heap[gb289]? = some (.cells #[.int .i64 t278, .int .i64 t279, .int .i64 t280, .int .i64 t281, .string t282, .int .i64 t283, .int .u32 t284, (.slice Ao38 t285.length co38)] 48 (0, 0))) ∧ Aside0 (wc.heap[gb301]? = some (.cells #[.int .i64 t290, .int .i64 t291, .int .i64 t292, .int .i64 t293, .string t294, .int .i64 t295, .int .u32 t296, (.slice Ao45 t297.length co45)] 48 (0, 0))) ∧ Aside0 (Below w.heap.size w wc))
    case first =>
     have H := HC32.out
     clear HC32
     by_cases c49 : t288 = true
     ·subst c49
      have H1 : (if (t300 != (t281 == 1)) = true then (deadeyelaw10_KeysAgain.j3 k1 a1 t262 t275 true) else (if t300 = true then ((deadeyeref07_Same.f t278 t279 t280 t281 t282 t283 t284 t285 t290 t291 t292 t293 t294 t295 t296 t297).bind fun t306 => (if t306 = true then (deadeyelaw10_KeysAgain.j3 k1 a1 t262 t275 (t302 != t304)) else (deadeyelaw10_KeysAgain.j3 k1 a1 t262 t275 true))) else (deadeyelaw10_KeysAgain.j3 k1 a1 t262 t275 (t302 != t304)))) = some r := by rw [if_pos rfl] at H; exact H
      clear H
      have H := H1
      clear H1
      by_cases c50 : (t300 != (t281 == 1)) = true
      ·rw [if_pos c50] at H
       have c50b0 : (t300 != (t281 == 1)) = true := c50
       (try (have c50b1 : decide (t300 = (t281 == 1)) = false := by simpa using c50))
       (try (have c50b2 : (t300 == (t281 == 1)) = false := by simpa using c50))
       (try (have c50b3 : ¬ (t300 = (t281 == 1)) := by simpa using c50))
       clear c50
       (first | rw [c50b0] | (simp only [i64_w, i32_w]; rw [c50b0]) | skip)
       have H' := Aside0.mk H
       clear H
       have hnb51 := NB289_301.out
       have hnc51 := NB301_289.out
       have hcz52_0 : w48.cell? ⟨gb289, 0, none⟩ = some (.int .i64 t278) := (blk_cell BK289.out 0).trans rfl
       have hcz52_1 : w48.cell? ⟨gb289, 1, none⟩ = some (.int .i64 t279) := (blk_cell BK289.out 1).trans rfl
       have hcz52_2 : w48.cell? ⟨gb289, 2, none⟩ = some (.int .i64 t280) := (blk_cell BK289.out 2).trans rfl
       have hcz52_3 : w48.cell? ⟨gb289, 3, none⟩ = some (.int .i64 t281) := (blk_cell BK289.out 3).trans rfl
       have hcz52_4 : w48.cell? ⟨gb289, 4, none⟩ = some (.string t282) := (blk_cell BK289.out 4).trans rfl
       have hcz52_5 : w48.cell? ⟨gb289, 5, none⟩ = some (.int .i64 t283) := (blk_cell BK289.out 5).trans rfl
       have hcz52_6 : w48.cell? ⟨gb289, 6, none⟩ = some (.int .u32 t284) := (blk_cell BK289.out 6).trans rfl
       have hcz52_7 : w48.cell? ⟨gb289, 7, none⟩ = some (.slice Ao38 t285.length co38) := (blk_cell BK289.out 7).trans rfl
       have hfz52_0 := blk_frozen BK289.out 0
       have hfz52_1 := blk_frozen BK289.out 1
       have hfz52_2 := blk_frozen BK289.out 2
       have hfz52_3 := blk_frozen BK289.out 3
       have hfz52_4 := blk_frozen BK289.out 4
       have hfz52_5 := blk_frozen BK289.out 5
       have hfz52_6 := blk_frozen BK289.out 6
       have hfz52_7 := blk_frozen BK289.out 7
       go_wp2
       repeat (go_quiet (fail); try go_wp2)
       go_meet
       case rel => exact ⟨_, (true), (by first | rfl | (simp; done) | (simp [*]; done)), H', ⟨by have := HK1.out; first | omega | exact Nat.le_refl _⟩, ⟨nv HO_9.out⟩, ⟨nv HO277.out⟩, ⟨vv HO287.out⟩, ⟨vv HO299.out⟩, ⟨kv BK289.out⟩, ⟨kv BK301.out⟩, ⟨by repeat (first | (with_reducible first | exact HB.out | apply below_alloc | apply pw_below_drewN | apply below_drew1 | refine below_set ?_ GE289.out | refine below_set ?_ GE301.out) | exact HB.out)⟩⟩
      ·rw [if_neg c50] at H
       have c50b0 : (t300 != (t281 == 1)) = false := by simpa using c50
       (try (have c50b1 : decide (t300 = (t281 == 1)) = true := by simpa using c50))
       (try (have c50b2 : (t300 == (t281 == 1)) = true := by simpa using c50))
       clear c50
       (first | rw [c50b0] | (simp only [i64_w, i32_w]; rw [c50b0]) | skip)
       by_cases c53 : t300 = true
       ·subst c53
        have H1 : ((deadeyeref07_Same.f t278 t279 t280 t281 t282 t283 t284 t285 t290 t291 t292 t293 t294 t295 t296 t297).bind fun t306 => (if t306 = true then (deadeyelaw10_KeysAgain.j3 k1 a1 t262 t275 (t302 != t304)) else (deadeyelaw10_KeysAgain.j3 k1 a1 t262 t275 true))) = some r := by rw [if_pos rfl] at H; exact H
        clear H
        have H := H1
        clear H1
        replace H := Option.bind_eq_some_iff.mp H
        obtain ⟨t306, A540, H⟩ := H
        replace H : (if t306 = true then (deadeyelaw10_KeysAgain.j3 k1 a1 t262 t275 (t302 != t304)) else (deadeyelaw10_KeysAgain.j3 k1 a1 t262 t275 true)) = some r := H
        have A54 := Aside0.mk A540
        clear A540
        by_cases c55 : t306 = true
        ·subst c55
         have H1 : (deadeyelaw10_KeysAgain.j3 k1 a1 t262 t275 (t302 != t304)) = some r := by rw [if_pos rfl] at H; exact H
         clear H
         have H := H1
         clear H1
         have H' := Aside0.mk H
         clear H
         have hnb56 := NB289_301.out
         have hnc56 := NB301_289.out
         have hcz57_0 : w48.cell? ⟨gb289, 0, none⟩ = some (.int .i64 t278) := (blk_cell BK289.out 0).trans rfl
         have hcz57_1 : w48.cell? ⟨gb289, 1, none⟩ = some (.int .i64 t279) := (blk_cell BK289.out 1).trans rfl
         have hcz57_2 : w48.cell? ⟨gb289, 2, none⟩ = some (.int .i64 t280) := (blk_cell BK289.out 2).trans rfl
         have hcz57_3 : w48.cell? ⟨gb289, 3, none⟩ = some (.int .i64 t281) := (blk_cell BK289.out 3).trans rfl
         have hcz57_4 : w48.cell? ⟨gb289, 4, none⟩ = some (.string t282) := (blk_cell BK289.out 4).trans rfl
         have hcz57_5 : w48.cell? ⟨gb289, 5, none⟩ = some (.int .i64 t283) := (blk_cell BK289.out 5).trans rfl
         have hcz57_6 : w48.cell? ⟨gb289, 6, none⟩ = some (.int .u32 t284) := (blk_cell BK289.out 6).trans rfl
         have hcz57_7 : w48.cell? ⟨gb289, 7, none⟩ = some (.slice Ao38 t285.length co38) := (blk_cell BK289.out 7).trans rfl
         have hfz57_0 := blk_frozen BK289.out 0
         have hfz57_1 := blk_frozen BK289.out 1
         have hfz57_2 := blk_frozen BK289.out 2
         have hfz57_3 := blk_frozen BK289.out 3
         have hfz57_4 := blk_frozen BK289.out 4
         have hfz57_5 := blk_frozen BK289.out 5
         have hfz57_6 := blk_frozen BK289.out 6
         have hfz57_7 := blk_frozen BK289.out 7
         have hcz58_0 : w48.cell? ⟨gb301, 0, none⟩ = some (.int .i64 t290) := (blk_cell BK301.out 0).trans rfl
         have hcz58_1 : w48.cell? ⟨gb301, 1, none⟩ = some (.int .i64 t291) := (blk_cell BK301.out 1).trans rfl
         have hcz58_2 : w48.cell? ⟨gb301, 2, none⟩ = some (.int .i64 t292) := (blk_cell BK301.out 2).trans rfl
         have hcz58_3 : w48.cell? ⟨gb301, 3, none⟩ = some (.int .i64 t293) := (blk_cell BK301.out 3).trans rfl
         have hcz58_4 : w48.cell? ⟨gb301, 4, none⟩ = some (.string t294) := (blk_cell BK301.out 4).trans rfl
         have hcz58_5 : w48.cell? ⟨gb301, 5, none⟩ = some (.int .i64 t295) := (blk_cell BK301.out 5).trans rfl
         have hcz58_6 : w48.cell? ⟨gb301, 6, none⟩ = some (.int .u32 t296) := (blk_cell BK301.out 6).trans rfl
         have hcz58_7 : w48.cell? ⟨gb301, 7, none⟩ = some (.slice Ao45 t297.length co45) := (blk_cell BK301.out 7).trans rfl
         have hfz58_0 := blk_frozen BK301.out 0
         have hfz58_1 := blk_frozen BK301.out 1
         have hfz58_2 := blk_frozen BK301.out 2
         have hfz58_3 := blk_frozen BK301.out 3
         have hfz58_4 := blk_frozen BK301.out 4
         have hfz58_5 := blk_frozen BK301.out 5
         have hfz58_6 := blk_frozen BK301.out 6
         have hfz58_7 := blk_frozen BK301.out 7
         go_wp2_with (first | (go_at_call 25; (with_reducible refine (deadeyeref07_Same.calls t278 t279 t280 t281 t282 t283 t284 _ _ t285 t290 t291 t292 t293 t294 t295 t296 _ _ t297 true _ ?side1 ?side2 ?side3 ?side4 A54.out).mono ?_); (case side1 => repeat (first | exact (Kd.V_reads' HO287.out).2.2 | (with_reducible refine Kd.C_alloc ?_ _) | (with_reducible refine Kd.C_drewN ?_ _) | (with_reducible refine Kd.C_drew ?_))); (case side2 => exact (Kd.V_reads' HO287.out).2.1); (case side3 => repeat (first | exact (Kd.V_reads' HO299.out).2.2 | (with_reducible refine Kd.C_alloc ?_ _) | (with_reducible refine Kd.C_drewN ?_ _) | (with_reducible refine Kd.C_drew ?_))); (case side4 => exact (Kd.V_reads' HO299.out).2.1); rintro e w59 ⟨rfl, hb⟩; have n0_ := Aside0.mk (Kd.N_below (nv HO_9.out) hb); have n1_ := Aside0.mk (Kd.N_below (nv HO277.out) hb); have n2_ := Aside0.mk (Kd.V_below (vv HO287.out) hb); have n3_ := Aside0.mk (Kd.V_below (vv HO299.out) hb); have n4_ := Aside0.mk (blk_below (kv BK289.out) hb); have n5_ := Aside0.mk (blk_below (kv BK301.out) hb); have n6_ := Aside0.mk (below_step (by repeat (first | (with_reducible first | exact HB.out | apply below_alloc | apply pw_below_drewN | apply below_drew1 | refine below_set ?_ GE289.out | refine below_set ?_ GE301.out) | exact HB.out)) hb); clear HO_9; clear HO277; clear HO287; clear HO299; clear BK289; clear BK301; clear HB; have HO_9 := n0_; have HO277 := n1_; have HO287 := n2_; have HO299 := n3_; have BK289 := n4_; have BK301 := n5_; have HB := n6_; clear n0_ n1_ n2_ n3_ n4_ n5_ n6_; (try clear hb); (try clear hb2); (try clear hk); (try clear hi)))
         repeat (go_quiet (first | (go_at_call 25; (with_reducible refine (deadeyeref07_Same.calls t278 t279 t280 t281 t282 t283 t284 _ _ t285 t290 t291 t292 t293 t294 t295 t296 _ _ t297 true _ ?side1 ?side2 ?side3 ?side4 A54.out).mono ?_); (case side1 => repeat (first | exact (Kd.V_reads' HO287.out).2.2 | (with_reducible refine Kd.C_alloc ?_ _) | (with_reducible refine Kd.C_drewN ?_ _) | (with_reducible refine Kd.C_drew ?_))); (case side2 => exact (Kd.V_reads' HO287.out).2.1); (case side3 => repeat (first | exact (Kd.V_reads' HO299.out).2.2 | (with_reducible refine Kd.C_alloc ?_ _) | (with_reducible refine Kd.C_drewN ?_ _) | (with_reducible refine Kd.C_drew ?_))); (case side4 => exact (Kd.V_reads' HO299.out).2.1); rintro e w59 ⟨rfl, hb⟩; have n0_ := Aside0.mk (Kd.N_below (nv HO_9.out) hb); have n1_ := Aside0.mk (Kd.N_below (nv HO277.out) hb); have n2_ := Aside0.mk (Kd.V_below (vv HO287.out) hb); have n3_ := Aside0.mk (Kd.V_below (vv HO299.out) hb); have n4_ := Aside0.mk (blk_below (kv BK289.out) hb); have n5_ := Aside0.mk (blk_below (kv BK301.out) hb); have n6_ := Aside0.mk (below_step (by repeat (first | (with_reducible first | exact HB.out | apply below_alloc | apply pw_below_drewN | apply below_drew1 | refine below_set ?_ GE289.out | refine below_set ?_ GE301.out) | exact HB.out)) hb); clear HO_9; clear HO277; clear HO287; clear HO299; clear BK289; clear BK301; clear HB; have HO_9 := n0_; have HO277 := n1_; have HO287 := n2_; have HO299 := n3_; have BK289 := n4_; have BK301 := n5_; have HB := n6_; clear n0_ n1_ n2_ n3_ n4_ n5_ n6_; (try clear hb); (try clear hb2); (try clear hk); (try clear hi))); try go_wp2_with (first | (go_at_call 25; (with_reducible refine (deadeyeref07_Same.calls t278 t279 t280 t281 t282 t283 t284 _ _ t285 t290 t291 t292 t293 t294 t295 t296 _ _ t297 true _ ?side1 ?side2 ?side3 ?side4 A54.out).mono ?_); (case side1 => repeat (first | exact (Kd.V_reads' HO287.out).2.2 | (with_reducible refine Kd.C_alloc ?_ _) | (with_reducible refine Kd.C_drewN ?_ _) | (with_reducible refine Kd.C_drew ?_))); (case side2 => exact (Kd.V_reads' HO287.out).2.1); (case side3 => repeat (first | exact (Kd.V_reads' HO299.out).2.2 | (with_reducible refine Kd.C_alloc ?_ _) | (with_reducible refine Kd.C_drewN ?_ _) | (with_reducible refine Kd.C_drew ?_))); (case side4 => exact (Kd.V_reads' HO299.out).2.1); rintro e w59 ⟨rfl, hb⟩; have n0_ := Aside0.mk (Kd.N_below (nv HO_9.out) hb); have n1_ := Aside0.mk (Kd.N_below (nv HO277.out) hb); have n2_ := Aside0.mk (Kd.V_below (vv HO287.out) hb); have n3_ := Aside0.mk (Kd.V_below (vv HO299.out) hb); have n4_ := Aside0.mk (blk_below (kv BK289.out) hb); have n5_ := Aside0.mk (blk_below (kv BK301.out) hb); have n6_ := Aside0.mk (below_step (by repeat (first | (with_reducible first | exact HB.out | apply below_alloc | apply pw_below_drewN | apply below_drew1 | refine below_set ?_ GE289.out | refine below_set ?_ GE301.out) | exact HB.out)) hb); clear HO_9; clear HO277; clear HO287; clear HO299; clear BK289; clear BK301; clear HB; have HO_9 := n0_; have HO277 := n1_; have HO287 := n2_; have HO299 := n3_; have BK289 := n4_; have BK301 := n5_; have HB := n6_; clear n0_ n1_ n2_ n3_ n4_ n5_ n6_; (try clear hb); (try clear hb2); (try clear hk); (try clear hi))))
         go_meet
         case rel => exact ⟨_, ((t302 != t304)), (by first | rfl | (simp; done) | (simp [*]; done)), H', ⟨by have := HK1.out; first | omega | exact Nat.le_refl _⟩, ⟨nv HO_9.out⟩, ⟨nv HO277.out⟩, ⟨vv HO287.out⟩, ⟨vv HO299.out⟩, ⟨kv BK289.out⟩, ⟨kv BK301.out⟩, ⟨by repeat (first | (with_reducible first | exact HB.out | apply below_alloc | apply pw_below_drewN | apply below_drew1 | refine below_set ?_ GE289.out | refine below_set ?_ GE301.out) | exact HB.out)⟩⟩
        ·replace c55 := Bool.eq_false_iff.mpr c55
         subst c55
         have H1 : (deadeyelaw10_KeysAgain.j3 k1 a1 t262 t275 true) = some r := by rw [if_neg (show ¬ (false = true) by decide)] at H; exact H
         clear H
         have H := H1
         clear H1
         have H' := Aside0.mk H
         clear H
         have hnb60 := NB289_301.out
         have hnc60 := NB301_289.out
         have hcz61_0 : w48.cell? ⟨gb289, 0, none⟩ = some (.int .i64 t278) := (blk_cell BK289.out 0).trans rfl
         have hcz61_1 : w48.cell? ⟨gb289, 1, none⟩ = some (.int .i64 t279) := (blk_cell BK289.out 1).trans rfl
         have hcz61_2 : w48.cell? ⟨gb289, 2, none⟩ = some (.int .i64 t280) := (blk_cell BK289.out 2).trans rfl
         have hcz61_3 : w48.cell? ⟨gb289, 3, none⟩ = some (.int .i64 t281) := (blk_cell BK289.out 3).trans rfl
         have hcz61_4 : w48.cell? ⟨gb289, 4, none⟩ = some (.string t282) := (blk_cell BK289.out 4).trans rfl
         have hcz61_5 : w48.cell? ⟨gb289, 5, none⟩ = some (.int .i64 t283) := (blk_cell BK289.out 5).trans rfl
         have hcz61_6 : w48.cell? ⟨gb289, 6, none⟩ = some (.int .u32 t284) := (blk_cell BK289.out 6).trans rfl
         have hcz61_7 : w48.cell? ⟨gb289, 7, none⟩ = some (.slice Ao38 t285.length co38) := (blk_cell BK289.out 7).trans rfl
         have hfz61_0 := blk_frozen BK289.out 0
         have hfz61_1 := blk_frozen BK289.out 1
         have hfz61_2 := blk_frozen BK289.out 2
         have hfz61_3 := blk_frozen BK289.out 3
         have hfz61_4 := blk_frozen BK289.out 4
         have hfz61_5 := blk_frozen BK289.out 5
         have hfz61_6 := blk_frozen BK289.out 6
         have hfz61_7 := blk_frozen BK289.out 7
         have hcz62_0 : w48.cell? ⟨gb301, 0, none⟩ = some (.int .i64 t290) := (blk_cell BK301.out 0).trans rfl
         have hcz62_1 : w48.cell? ⟨gb301, 1, none⟩ = some (.int .i64 t291) := (blk_cell BK301.out 1).trans rfl
         have hcz62_2 : w48.cell? ⟨gb301, 2, none⟩ = some (.int .i64 t292) := (blk_cell BK301.out 2).trans rfl
         have hcz62_3 : w48.cell? ⟨gb301, 3, none⟩ = some (.int .i64 t293) := (blk_cell BK301.out 3).trans rfl
         have hcz62_4 : w48.cell? ⟨gb301, 4, none⟩ = some (.string t294) := (blk_cell BK301.out 4).trans rfl
         have hcz62_5 : w48.cell? ⟨gb301, 5, none⟩ = some (.int .i64 t295) := (blk_cell BK301.out 5).trans rfl
         have hcz62_6 : w48.cell? ⟨gb301, 6, none⟩ = some (.int .u32 t296) := (blk_cell BK301.out 6).trans rfl
         have hcz62_7 : w48.cell? ⟨gb301, 7, none⟩ = some (.slice Ao45 t297.length co45) := (blk_cell BK301.out 7).trans rfl
         have hfz62_0 := blk_frozen BK301.out 0
         have hfz62_1 := blk_frozen BK301.out 1
         have hfz62_2 := blk_frozen BK301.out 2
         have hfz62_3 := blk_frozen BK301.out 3
         have hfz62_4 := blk_frozen BK301.out 4
         have hfz62_5 := blk_frozen BK301.out 5
         have hfz62_6 := blk_frozen BK301.out 6
         have hfz62_7 := blk_frozen BK301.out 7
         go_wp2_with (first | (go_at_call 25; (with_reducible refine (deadeyeref07_Same.calls t278 t279 t280 t281 t282 t283 t284 _ _ t285 t290 t291 t292 t293 t294 t295 t296 _ _ t297 false _ ?side1 ?side2 ?side3 ?side4 A54.out).mono ?_); (case side1 => repeat (first | exact (Kd.V_reads' HO287.out).2.2 | (with_reducible refine Kd.C_alloc ?_ _) | (with_reducible refine Kd.C_drewN ?_ _) | (with_reducible refine Kd.C_drew ?_))); (case side2 => exact (Kd.V_reads' HO287.out).2.1); (case side3 => repeat (first | exact (Kd.V_reads' HO299.out).2.2 | (with_reducible refine Kd.C_alloc ?_ _) | (with_reducible refine Kd.C_drewN ?_ _) | (with_reducible refine Kd.C_drew ?_))); (case side4 => exact (Kd.V_reads' HO299.out).2.1); rintro e w63 ⟨rfl, hb⟩; have n0_ := Aside0.mk (Kd.N_below (nv HO_9.out) hb); have n1_ := Aside0.mk (Kd.N_below (nv HO277.out) hb); have n2_ := Aside0.mk (Kd.V_below (vv HO287.out) hb); have n3_ := Aside0.mk (Kd.V_below (vv HO299.out) hb); have n4_ := Aside0.mk (blk_below (kv BK289.out) hb); have n5_ := Aside0.mk (blk_below (kv BK301.out) hb); have n6_ := Aside0.mk (below_step (by repeat (first | (with_reducible first | exact HB.out | apply below_alloc | apply pw_below_drewN | apply below_drew1 | refine below_set ?_ GE289.out | refine below_set ?_ GE301.out) | exact HB.out)) hb); clear HO_9; clear HO277; clear HO287; clear HO299; clear BK289; clear BK301; clear HB; have HO_9 := n0_; have HO277 := n1_; have HO287 := n2_; have HO299 := n3_; have BK289 := n4_; have BK301 := n5_; have HB := n6_; clear n0_ n1_ n2_ n3_ n4_ n5_ n6_; (try clear hb); (try clear hb2); (try clear hk); (try clear hi)))
         repeat (go_quiet (first | (go_at_call 25; (with_reducible refine (deadeyeref07_Same.calls t278 t279 t280 t281 t282 t283 t284 _ _ t285 t290 t291 t292 t293 t294 t295 t296 _ _ t297 false _ ?side1 ?side2 ?side3 ?side4 A54.out).mono ?_); (case side1 => repeat (first | exact (Kd.V_reads' HO287.out).2.2 | (with_reducible refine Kd.C_alloc ?_ _) | (with_reducible refine Kd.C_drewN ?_ _) | (with_reducible refine Kd.C_drew ?_))); (case side2 => exact (Kd.V_reads' HO287.out).2.1); (case side3 => repeat (first | exact (Kd.V_reads' HO299.out).2.2 | (with_reducible refine Kd.C_alloc ?_ _) | (with_reducible refine Kd.C_drewN ?_ _) | (with_reducible refine Kd.C_drew ?_))); (case side4 => exact (Kd.V_reads' HO299.out).2.1); rintro e w63 ⟨rfl, hb⟩; have n0_ := Aside0.mk (Kd.N_below (nv HO_9.out) hb); have n1_ := Aside0.mk (Kd.N_below (nv HO277.out) hb); have n2_ := Aside0.mk (Kd.V_below (vv HO287.out) hb); have n3_ := Aside0.mk (Kd.V_below (vv HO299.out) hb); have n4_ := Aside0.mk (blk_below (kv BK289.out) hb); have n5_ := Aside0.mk (blk_below (kv BK301.out) hb); have n6_ := Aside0.mk (below_step (by repeat (first | (with_reducible first | exact HB.out | apply below_alloc | apply pw_below_drewN | apply below_drew1 | refine below_set ?_ GE289.out | refine below_set ?_ GE301.out) | exact HB.out)) hb); clear HO_9; clear HO277; clear HO287; clear HO299; clear BK289; clear BK301; clear HB; have HO_9 := n0_; have HO277 := n1_; have HO287 := n2_; have HO299 := n3_; have BK289 := n4_; have BK301 := n5_; have HB := n6_; clear n0_ n1_ n2_ n3_ n4_ n5_ n6_; (try clear hb); (try clear hb2); (try clear hk); (try clear hi))); try go_wp2_with (first | (go_at_call 25; (with_reducible refine (deadeyeref07_Same.calls t278 t279 t280 t281 t282 t283 t284 _ _ t285 t290 t291 t292 t293 t294 t295 t296 _ _ t297 false _ ?side1 ?side2 ?side3 ?side4 A54.out).mono ?_); (case side1 => repeat (first | exact (Kd.V_reads' HO287.out).2.2 | (with_reducible refine Kd.C_alloc ?_ _) | (with_reducible refine Kd.C_drewN ?_ _) | (with_reducible refine Kd.C_drew ?_))); (case side2 => exact (Kd.V_reads' HO287.out).2.1); (case side3 => repeat (first | exact (Kd.V_reads' HO299.out).2.2 | (with_reducible refine Kd.C_alloc ?_ _) | (with_reducible refine Kd.C_drewN ?_ _) | (with_reducible refine Kd.C_drew ?_))); (case side4 => exact (Kd.V_reads' HO299.out).2.1); rintro e w63 ⟨rfl, hb⟩; have n0_ := Aside0.mk (Kd.N_below (nv HO_9.out) hb); have n1_ := Aside0.mk (Kd.N_below (nv HO277.out) hb); have n2_ := Aside0.mk (Kd.V_below (vv HO287.out) hb); have n3_ := Aside0.mk (Kd.V_below (vv HO299.out) hb); have n4_ := Aside0.mk (blk_below (kv BK289.out) hb); have n5_ := Aside0.mk (blk_below (kv BK301.out) hb); have n6_ := Aside0.mk (below_step (by repeat (first | (with_reducible first | exact HB.out | apply below_alloc | apply pw_below_drewN | apply below_drew1 | refine below_set ?_ GE289.out | refine below_set ?_ GE301.out) | exact HB.out)) hb); clear HO_9; clear HO277; clear HO287; clear HO299; clear BK289; clear BK301; clear HB; have HO_9 := n0_; have HO277 := n1_; have HO287 := n2_; have HO299 := n3_; have BK289 := n4_; have BK301 := n5_; have HB := n6_; clear n0_ n1_ n2_ n3_ n4_ n5_ n6_; (try clear hb); (try clear hb2); (try clear hk); (try clear hi))))
         go_meet
         case rel => exact ⟨_, (true), (by first | rfl | (simp; done) | (simp [*]; done)), H', ⟨by have := HK1.out; first | omega | exact Nat.le_refl _⟩, ⟨nv HO_9.out⟩, ⟨nv HO277.out⟩, ⟨vv HO287.out⟩, ⟨vv HO299.out⟩, ⟨kv BK289.out⟩, ⟨kv BK301.out⟩, ⟨by repeat (first | (with_reducible first | exact HB.out | apply below_alloc | apply pw_below_drewN | apply below_drew1 | refine below_set ?_ GE289.out | refine below_set ?_ GE301.out) | exact HB.out)⟩⟩
       ·replace c53 := Bool.eq_false_iff.mpr c53
        subst c53
        have H1 : (deadeyelaw10_KeysAgain.j3 k1 a1 t262 t275 (t302 != t304)) = some r := by rw [if_neg (show ¬ (false = true) by decide)] at H; exact H
        clear H
        have H := H1
        clear H1
        have H' := Aside0.mk H
        clear H
        have hnb64 := NB289_301.out
        have hnc64 := NB301_289.out
        have hcz65_0 : w48.cell? ⟨gb289, 0, none⟩ = some (.int .i64 t278) := (blk_cell BK289.out 0).trans rfl
        have hcz65_1 : w48.cell? ⟨gb289, 1, none⟩ = some (.int .i64 t279) := (blk_cell BK289.out 1).trans rfl
        have hcz65_2 : w48.cell? ⟨gb289, 2, none⟩ = some (.int .i64 t280) := (blk_cell BK289.out 2).trans rfl
        have hcz65_3 : w48.cell? ⟨gb289, 3, none⟩ = some (.int .i64 t281) := (blk_cell BK289.out 3).trans rfl
        have hcz65_4 : w48.cell? ⟨gb289, 4, none⟩ = some (.string t282) := (blk_cell BK289.out 4).trans rfl
        have hcz65_5 : w48.cell? ⟨gb289, 5, none⟩ = some (.int .i64 t283) := (blk_cell BK289.out 5).trans rfl
        have hcz65_6 : w48.cell? ⟨gb289, 6, none⟩ = some (.int .u32 t284) := (blk_cell BK289.out 6).trans rfl
        have hcz65_7 : w48.cell? ⟨gb289, 7, none⟩ = some (.slice Ao38 t285.length co38) := (blk_cell BK289.out 7).trans rfl
        have hfz65_0 := blk_frozen BK289.out 0
        have hfz65_1 := blk_frozen BK289.out 1
        have hfz65_2 := blk_frozen BK289.out 2
        have hfz65_3 := blk_frozen BK289.out 3
        have hfz65_4 := blk_frozen BK289.out 4
        have hfz65_5 := blk_frozen BK289.out 5
        have hfz65_6 := blk_frozen BK289.out 6
        have hfz65_7 := blk_frozen BK289.out 7
        go_wp2
        repeat (go_quiet (fail); try go_wp2)
        go_meet
        case rel => exact ⟨_, ((t302 != t304)), (by first | rfl | (simp; done) | (simp [*]; done)), H', ⟨by have := HK1.out; first | omega | exact Nat.le_refl _⟩, ⟨nv HO_9.out⟩, ⟨nv HO277.out⟩, ⟨vv HO287.out⟩, ⟨vv HO299.out⟩, ⟨kv BK289.out⟩, ⟨kv BK301.out⟩, ⟨by repeat (first | (with_reducible first | exact HB.out | apply below_alloc | apply pw_below_drewN | apply below_drew1 | refine below_set ?_ GE289.out | refine below_set ?_ GE301.out) | exact HB.out)⟩⟩
     ·replace c49 := Bool.eq_false_iff.mpr c49
      subst c49
      have H1 : (if (t300 != false) = true then (deadeyelaw10_KeysAgain.j3 k1 a1 t262 t275 true) else (if t300 = true then ((deadeyeref07_Same.f t278 t279 t280 t281 t282 t283 t284 t285 t290 t291 t292 t293 t294 t295 t296 t297).bind fun t307 => (if t307 = true then (deadeyelaw10_KeysAgain.j3 k1 a1 t262 t275 (t302 != t304)) else (deadeyelaw10_KeysAgain.j3 k1 a1 t262 t275 true))) else (deadeyelaw10_KeysAgain.j3 k1 a1 t262 t275 (t302 != t304)))) = some r := by rw [if_neg (show ¬ (false = true) by decide)] at H; exact H
      clear H
      have H := H1
      clear H1
      by_cases c66 : (t300 != false) = true
      ·rw [if_pos c66] at H
       have c66b0 : (t300 != false) = true := c66
       (try (have c66b1 : decide (t300 = false) = false := by simpa using c66))
       (try (have c66b2 : (t300 == false) = false := by simpa using c66))
       (try (have c66b3 : ¬ (t300 = false) := by simpa using c66))
       clear c66
       have H' := Aside0.mk H
       clear H
       go_wp2
       repeat (go_quiet (fail); try go_wp2)
       go_meet
       case rel => exact ⟨_, (true), (by first | rfl | (simp; done) | (simp [*]; done)), H', ⟨by have := HK1.out; first | omega | exact Nat.le_refl _⟩, ⟨nv HO_9.out⟩, ⟨nv HO277.out⟩, ⟨vv HO287.out⟩, ⟨vv HO299.out⟩, ⟨kv BK289.out⟩, ⟨kv BK301.out⟩, ⟨by repeat (first | (with_reducible first | exact HB.out | apply below_alloc | apply pw_below_drewN | apply below_drew1 | refine below_set ?_ GE289.out | refine below_set ?_ GE301.out) | exact HB.out)⟩⟩
      ·rw [if_neg c66] at H
       have c66b0 : (t300 != false) = false := by simpa using c66
       (try (have c66b1 : decide (t300 = false) = true := by simpa using c66))
       (try (have c66b2 : (t300 == false) = true := by simpa using c66))
       clear c66
       by_cases c67 : t300 = true
       ·subst c67
        have H1 : ((deadeyeref07_Same.f t278 t279 t280 t281 t282 t283 t284 t285 t290 t291 t292 t293 t294 t295 t296 t297).bind fun t307 => (if t307 = true then (deadeyelaw10_KeysAgain.j3 k1 a1 t262 t275 (t302 != t304)) else (deadeyelaw10_KeysAgain.j3 k1 a1 t262 t275 true))) = some r := by rw [if_pos rfl] at H; exact H
        clear H
        have H := H1
        clear H1
        replace H := Option.bind_eq_some_iff.mp H
        obtain ⟨t307, A680, H⟩ := H
        replace H : (if t307 = true then (deadeyelaw10_KeysAgain.j3 k1 a1 t262 t275 (t302 != t304)) else (deadeyelaw10_KeysAgain.j3 k1 a1 t262 t275 true)) = some r := H
        have A68 := Aside0.mk A680
        clear A680
        by_cases c69 : t307 = true
        ·subst c69
         have H1 : (deadeyelaw10_KeysAgain.j3 k1 a1 t262 t275 (t302 != t304)) = some r := by rw [if_pos rfl] at H; exact H
         clear H
         have H := H1
         clear H1
         have H' := Aside0.mk H
         clear H
         have hnb70 := NB289_301.out
         have hnc70 := NB301_289.out
         have hcz71_0 : w48.cell? ⟨gb289, 0, none⟩ = some (.int .i64 t278) := (blk_cell BK289.out 0).trans rfl
         have hcz71_1 : w48.cell? ⟨gb289, 1, none⟩ = some (.int .i64 t279) := (blk_cell BK289.out 1).trans rfl
         have hcz71_2 : w48.cell? ⟨gb289, 2, none⟩ = some (.int .i64 t280) := (blk_cell BK289.out 2).trans rfl
         have hcz71_3 : w48.cell? ⟨gb289, 3, none⟩ = some (.int .i64 t281) := (blk_cell BK289.out 3).trans rfl
         have hcz71_4 : w48.cell? ⟨gb289, 4, none⟩ = some (.string t282) := (blk_cell BK289.out 4).trans rfl
         have hcz71_5 : w48.cell? ⟨gb289, 5, none⟩ = some (.int .i64 t283) := (blk_cell BK289.out 5).trans rfl
         have hcz71_6 : w48.cell? ⟨gb289, 6, none⟩ = some (.int .u32 t284) := (blk_cell BK289.out 6).trans rfl
         have hcz71_7 : w48.cell? ⟨gb289, 7, none⟩ = some (.slice Ao38 t285.length co38) := (blk_cell BK289.out 7).trans rfl
         have hfz71_0 := blk_frozen BK289.out 0
         have hfz71_1 := blk_frozen BK289.out 1
         have hfz71_2 := blk_frozen BK289.out 2
         have hfz71_3 := blk_frozen BK289.out 3
         have hfz71_4 := blk_frozen BK289.out 4
         have hfz71_5 := blk_frozen BK289.out 5
         have hfz71_6 := blk_frozen BK289.out 6
         have hfz71_7 := blk_frozen BK289.out 7
         have hcz72_0 : w48.cell? ⟨gb301, 0, none⟩ = some (.int .i64 t290) := (blk_cell BK301.out 0).trans rfl
         have hcz72_1 : w48.cell? ⟨gb301, 1, none⟩ = some (.int .i64 t291) := (blk_cell BK301.out 1).trans rfl
         have hcz72_2 : w48.cell? ⟨gb301, 2, none⟩ = some (.int .i64 t292) := (blk_cell BK301.out 2).trans rfl
         have hcz72_3 : w48.cell? ⟨gb301, 3, none⟩ = some (.int .i64 t293) := (blk_cell BK301.out 3).trans rfl
         have hcz72_4 : w48.cell? ⟨gb301, 4, none⟩ = some (.string t294) := (blk_cell BK301.out 4).trans rfl
         have hcz72_5 : w48.cell? ⟨gb301, 5, none⟩ = some (.int .i64 t295) := (blk_cell BK301.out 5).trans rfl
         have hcz72_6 : w48.cell? ⟨gb301, 6, none⟩ = some (.int .u32 t296) := (blk_cell BK301.out 6).trans rfl
         have hcz72_7 : w48.cell? ⟨gb301, 7, none⟩ = some (.slice Ao45 t297.length co45) := (blk_cell BK301.out 7).trans rfl
         have hfz72_0 := blk_frozen BK301.out 0
         have hfz72_1 := blk_frozen BK301.out 1
         have hfz72_2 := blk_frozen BK301.out 2
         have hfz72_3 := blk_frozen BK301.out 3
         have hfz72_4 := blk_frozen BK301.out 4
         have hfz72_5 := blk_frozen BK301.out 5
         have hfz72_6 := blk_frozen BK301.out 6
         have hfz72_7 := blk_frozen BK301.out 7
         go_wp2_with (first | (go_at_call 25; (with_reducible refine (deadeyeref07_Same.calls t278 t279 t280 t281 t282 t283 t284 _ _ t285 t290 t291 t292 t293 t294 t295 t296 _ _ t297 true _ ?side1 ?side2 ?side3 ?side4 A68.out).mono ?_); (case side1 => repeat (first | exact (Kd.V_reads' HO287.out).2.2 | (with_reducible refine Kd.C_alloc ?_ _) | (with_reducible refine Kd.C_drewN ?_ _) | (with_reducible refine Kd.C_drew ?_))); (case side2 => exact (Kd.V_reads' HO287.out).2.1); (case side3 => repeat (first | exact (Kd.V_reads' HO299.out).2.2 | (with_reducible refine Kd.C_alloc ?_ _) | (with_reducible refine Kd.C_drewN ?_ _) | (with_reducible refine Kd.C_drew ?_))); (case side4 => exact (Kd.V_reads' HO299.out).2.1); rintro e w73 ⟨rfl, hb⟩; have n0_ := Aside0.mk (Kd.N_below (nv HO_9.out) hb); have n1_ := Aside0.mk (Kd.N_below (nv HO277.out) hb); have n2_ := Aside0.mk (Kd.V_below (vv HO287.out) hb); have n3_ := Aside0.mk (Kd.V_below (vv HO299.out) hb); have n4_ := Aside0.mk (blk_below (kv BK289.out) hb); have n5_ := Aside0.mk (blk_below (kv BK301.out) hb); have n6_ := Aside0.mk (below_step (by repeat (first | (with_reducible first | exact HB.out | apply below_alloc | apply pw_below_drewN | apply below_drew1 | refine below_set ?_ GE289.out | refine below_set ?_ GE301.out) | exact HB.out)) hb); clear HO_9; clear HO277; clear HO287; clear HO299; clear BK289; clear BK301; clear HB; have HO_9 := n0_; have HO277 := n1_; have HO287 := n2_; have HO299 := n3_; have BK289 := n4_; have BK301 := n5_; have HB := n6_; clear n0_ n1_ n2_ n3_ n4_ n5_ n6_; (try clear hb); (try clear hb2); (try clear hk); (try clear hi)))
         repeat (go_quiet (first | (go_at_call 25; (with_reducible refine (deadeyeref07_Same.calls t278 t279 t280 t281 t282 t283 t284 _ _ t285 t290 t291 t292 t293 t294 t295 t296 _ _ t297 true _ ?side1 ?side2 ?side3 ?side4 A68.out).mono ?_); (case side1 => repeat (first | exact (Kd.V_reads' HO287.out).2.2 | (with_reducible refine Kd.C_alloc ?_ _) | (with_reducible refine Kd.C_drewN ?_ _) | (with_reducible refine Kd.C_drew ?_))); (case side2 => exact (Kd.V_reads' HO287.out).2.1); (case side3 => repeat (first | exact (Kd.V_reads' HO299.out).2.2 | (with_reducible refine Kd.C_alloc ?_ _) | (with_reducible refine Kd.C_drewN ?_ _) | (with_reducible refine Kd.C_drew ?_))); (case side4 => exact (Kd.V_reads' HO299.out).2.1); rintro e w73 ⟨rfl, hb⟩; have n0_ := Aside0.mk (Kd.N_below (nv HO_9.out) hb); have n1_ := Aside0.mk (Kd.N_below (nv HO277.out) hb); have n2_ := Aside0.mk (Kd.V_below (vv HO287.out) hb); have n3_ := Aside0.mk (Kd.V_below (vv HO299.out) hb); have n4_ := Aside0.mk (blk_below (kv BK289.out) hb); have n5_ := Aside0.mk (blk_below (kv BK301.out) hb); have n6_ := Aside0.mk (below_step (by repeat (first | (with_reducible first | exact HB.out | apply below_alloc | apply pw_below_drewN | apply below_drew1 | refine below_set ?_ GE289.out | refine below_set ?_ GE301.out) | exact HB.out)) hb); clear HO_9; clear HO277; clear HO287; clear HO299; clear BK289; clear BK301; clear HB; have HO_9 := n0_; have HO277 := n1_; have HO287 := n2_; have HO299 := n3_; have BK289 := n4_; have BK301 := n5_; have HB := n6_; clear n0_ n1_ n2_ n3_ n4_ n5_ n6_; (try clear hb); (try clear hb2); (try clear hk); (try clear hi))); try go_wp2_with (first | (go_at_call 25; (with_reducible refine (deadeyeref07_Same.calls t278 t279 t280 t281 t282 t283 t284 _ _ t285 t290 t291 t292 t293 t294 t295 t296 _ _ t297 true _ ?side1 ?side2 ?side3 ?side4 A68.out).mono ?_); (case side1 => repeat (first | exact (Kd.V_reads' HO287.out).2.2 | (with_reducible refine Kd.C_alloc ?_ _) | (with_reducible refine Kd.C_drewN ?_ _) | (with_reducible refine Kd.C_drew ?_))); (case side2 => exact (Kd.V_reads' HO287.out).2.1); (case side3 => repeat (first | exact (Kd.V_reads' HO299.out).2.2 | (with_reducible refine Kd.C_alloc ?_ _) | (with_reducible refine Kd.C_drewN ?_ _) | (with_reducible refine Kd.C_drew ?_))); (case side4 => exact (Kd.V_reads' HO299.out).2.1); rintro e w73 ⟨rfl, hb⟩; have n0_ := Aside0.mk (Kd.N_below (nv HO_9.out) hb); have n1_ := Aside0.mk (Kd.N_below (nv HO277.out) hb); have n2_ := Aside0.mk (Kd.V_below (vv HO287.out) hb); have n3_ := Aside0.mk (Kd.V_below (vv HO299.out) hb); have n4_ := Aside0.mk (blk_below (kv BK289.out) hb); have n5_ := Aside0.mk (blk_below (kv BK301.out) hb); have n6_ := Aside0.mk (below_step (by repeat (first | (with_reducible first | exact HB.out | apply below_alloc | apply pw_below_drewN | apply below_drew1 | refine below_set ?_ GE289.out | refine below_set ?_ GE301.out) | exact HB.out)) hb); clear HO_9; clear HO277; clear HO287; clear HO299; clear BK289; clear BK301; clear HB; have HO_9 := n0_; have HO277 := n1_; have HO287 := n2_; have HO299 := n3_; have BK289 := n4_; have BK301 := n5_; have HB := n6_; clear n0_ n1_ n2_ n3_ n4_ n5_ n6_; (try clear hb); (try clear hb2); (try clear hk); (try clear hi))))
         go_meet
         case rel => exact ⟨_, ((t302 != t304)), (by first | rfl | (simp; done) | (simp [*]; done)), H', ⟨by have := HK1.out; first | omega | exact Nat.le_refl _⟩, ⟨nv HO_9.out⟩, ⟨nv HO277.out⟩, ⟨vv HO287.out⟩, ⟨vv HO299.out⟩, ⟨kv BK289.out⟩, ⟨kv BK301.out⟩, ⟨by repeat (first | (with_reducible first | exact HB.out | apply below_alloc | apply pw_below_drewN | apply below_drew1 | refine below_set ?_ GE289.out | refine below_set ?_ GE301.out) | exact HB.out)⟩⟩
        ·replace c69 := Bool.eq_false_iff.mpr c69
         subst c69
         have H1 : (deadeyelaw10_KeysAgain.j3 k1 a1 t262 t275 true) = some r := by rw [if_neg (show ¬ (false = true) by decide)] at H; exact H
         clear H
         have H := H1
         clear H1
         have H' := Aside0.mk H
         clear H
         have hnb74 := NB289_301.out
         have hnc74 := NB301_289.out
         have hcz75_0 : w48.cell? ⟨gb289, 0, none⟩ = some (.int .i64 t278) := (blk_cell BK289.out 0).trans rfl
         have hcz75_1 : w48.cell? ⟨gb289, 1, none⟩ = some (.int .i64 t279) := (blk_cell BK289.out 1).trans rfl
         have hcz75_2 : w48.cell? ⟨gb289, 2, none⟩ = some (.int .i64 t280) := (blk_cell BK289.out 2).trans rfl
         have hcz75_3 : w48.cell? ⟨gb289, 3, none⟩ = some (.int .i64 t281) := (blk_cell BK289.out 3).trans rfl
         have hcz75_4 : w48.cell? ⟨gb289, 4, none⟩ = some (.string t282) := (blk_cell BK289.out 4).trans rfl
         have hcz75_5 : w48.cell? ⟨gb289, 5, none⟩ = some (.int .i64 t283) := (blk_cell BK289.out 5).trans rfl
         have hcz75_6 : w48.cell? ⟨gb289, 6, none⟩ = some (.int .u32 t284) := (blk_cell BK289.out 6).trans rfl
         have hcz75_7 : w48.cell? ⟨gb289, 7, none⟩ = some (.slice Ao38 t285.length co38) := (blk_cell BK289.out 7).trans rfl
         have hfz75_0 := blk_frozen BK289.out 0
         have hfz75_1 := blk_frozen BK289.out 1
         have hfz75_2 := blk_frozen BK289.out 2
         have hfz75_3 := blk_frozen BK289.out 3
         have hfz75_4 := blk_frozen BK289.out 4
         have hfz75_5 := blk_frozen BK289.out 5
         have hfz75_6 := blk_frozen BK289.out 6
         have hfz75_7 := blk_frozen BK289.out 7
         have hcz76_0 : w48.cell? ⟨gb301, 0, none⟩ = some (.int .i64 t290) := (blk_cell BK301.out 0).trans rfl
         have hcz76_1 : w48.cell? ⟨gb301, 1, none⟩ = some (.int .i64 t291) := (blk_cell BK301.out 1).trans rfl
         have hcz76_2 : w48.cell? ⟨gb301, 2, none⟩ = some (.int .i64 t292) := (blk_cell BK301.out 2).trans rfl
         have hcz76_3 : w48.cell? ⟨gb301, 3, none⟩ = some (.int .i64 t293) := (blk_cell BK301.out 3).trans rfl
         have hcz76_4 : w48.cell? ⟨gb301, 4, none⟩ = some (.string t294) := (blk_cell BK301.out 4).trans rfl
         have hcz76_5 : w48.cell? ⟨gb301, 5, none⟩ = some (.int .i64 t295) := (blk_cell BK301.out 5).trans rfl
         have hcz76_6 : w48.cell? ⟨gb301, 6, none⟩ = some (.int .u32 t296) := (blk_cell BK301.out 6).trans rfl
         have hcz76_7 : w48.cell? ⟨gb301, 7, none⟩ = some (.slice Ao45 t297.length co45) := (blk_cell BK301.out 7).trans rfl
         have hfz76_0 := blk_frozen BK301.out 0
         have hfz76_1 := blk_frozen BK301.out 1
         have hfz76_2 := blk_frozen BK301.out 2
         have hfz76_3 := blk_frozen BK301.out 3
         have hfz76_4 := blk_frozen BK301.out 4
         have hfz76_5 := blk_frozen BK301.out 5
         have hfz76_6 := blk_frozen BK301.out 6
         have hfz76_7 := blk_frozen BK301.out 7
         go_wp2_with (first | (go_at_call 25; (with_reducible refine (deadeyeref07_Same.calls t278 t279 t280 t281 t282 t283 t284 _ _ t285 t290 t291 t292 t293 t294 t295 t296 _ _ t297 false _ ?side1 ?side2 ?side3 ?side4 A68.out).mono ?_); (case side1 => repeat (first | exact (Kd.V_reads' HO287.out).2.2 | (with_reducible refine Kd.C_alloc ?_ _) | (with_reducible refine Kd.C_drewN ?_ _) | (with_reducible refine Kd.C_drew ?_))); (case side2 => exact (Kd.V_reads' HO287.out).2.1); (case side3 => repeat (first | exact (Kd.V_reads' HO299.out).2.2 | (with_reducible refine Kd.C_alloc ?_ _) | (with_reducible refine Kd.C_drewN ?_ _) | (with_reducible refine Kd.C_drew ?_))); (case side4 => exact (Kd.V_reads' HO299.out).2.1); rintro e w77 ⟨rfl, hb⟩; have n0_ := Aside0.mk (Kd.N_below (nv HO_9.out) hb); have n1_ := Aside0.mk (Kd.N_below (nv HO277.out) hb); have n2_ := Aside0.mk (Kd.V_below (vv HO287.out) hb); have n3_ := Aside0.mk (Kd.V_below (vv HO299.out) hb); have n4_ := Aside0.mk (blk_below (kv BK289.out) hb); have n5_ := Aside0.mk (blk_below (kv BK301.out) hb); have n6_ := Aside0.mk (below_step (by repeat (first | (with_reducible first | exact HB.out | apply below_alloc | apply pw_below_drewN | apply below_drew1 | refine below_set ?_ GE289.out | refine below_set ?_ GE301.out) | exact HB.out)) hb); clear HO_9; clear HO277; clear HO287; clear HO299; clear BK289; clear BK301; clear HB; have HO_9 := n0_; have HO277 := n1_; have HO287 := n2_; have HO299 := n3_; have BK289 := n4_; have BK301 := n5_; have HB := n6_; clear n0_ n1_ n2_ n3_ n4_ n5_ n6_; (try clear hb); (try clear hb2); (try clear hk); (try clear hi)))
         repeat (go_quiet (first | (go_at_call 25; (with_reducible refine (deadeyeref07_Same.calls t278 t279 t280 t281 t282 t283 t284 _ _ t285 t290 t291 t292 t293 t294 t295 t296 _ _ t297 false _ ?side1 ?side2 ?side3 ?side4 A68.out).mono ?_); (case side1 => repeat (first | exact (Kd.V_reads' HO287.out).2.2 | (with_reducible refine Kd.C_alloc ?_ _) | (with_reducible refine Kd.C_drewN ?_ _) | (with_reducible refine Kd.C_drew ?_))); (case side2 => exact (Kd.V_reads' HO287.out).2.1); (case side3 => repeat (first | exact (Kd.V_reads' HO299.out).2.2 | (with_reducible refine Kd.C_alloc ?_ _) | (with_reducible refine Kd.C_drewN ?_ _) | (with_reducible refine Kd.C_drew ?_))); (case side4 => exact (Kd.V_reads' HO299.out).2.1); rintro e w77 ⟨rfl, hb⟩; have n0_ := Aside0.mk (Kd.N_below (nv HO_9.out) hb); have n1_ := Aside0.mk (Kd.N_below (nv HO277.out) hb); have n2_ := Aside0.mk (Kd.V_below (vv HO287.out) hb); have n3_ := Aside0.mk (Kd.V_below (vv HO299.out) hb); have n4_ := Aside0.mk (blk_below (kv BK289.out) hb); have n5_ := Aside0.mk (blk_below (kv BK301.out) hb); have n6_ := Aside0.mk (below_step (by repeat (first | (with_reducible first | exact HB.out | apply below_alloc | apply pw_below_drewN | apply below_drew1 | refine below_set ?_ GE289.out | refine below_set ?_ GE301.out) | exact HB.out)) hb); clear HO_9; clear HO277; clear HO287; clear HO299; clear BK289; clear BK301; clear HB; have HO_9 := n0_; have HO277 := n1_; have HO287 := n2_; have HO299 := n3_; have BK289 := n4_; have BK301 := n5_; have HB := n6_; clear n0_ n1_ n2_ n3_ n4_ n5_ n6_; (try clear hb); (try clear hb2); (try clear hk); (try clear hi))); try go_wp2_with (first | (go_at_call 25; (with_reducible refine (deadeyeref07_Same.calls t278 t279 t280 t281 t282 t283 t284 _ _ t285 t290 t291 t292 t293 t294 t295 t296 _ _ t297 false _ ?side1 ?side2 ?side3 ?side4 A68.out).mono ?_); (case side1 => repeat (first | exact (Kd.V_reads' HO287.out).2.2 | (with_reducible refine Kd.C_alloc ?_ _) | (with_reducible refine Kd.C_drewN ?_ _) | (with_reducible refine Kd.C_drew ?_))); (case side2 => exact (Kd.V_reads' HO287.out).2.1); (case side3 => repeat (first | exact (Kd.V_reads' HO299.out).2.2 | (with_reducible refine Kd.C_alloc ?_ _) | (with_reducible refine Kd.C_drewN ?_ _) | (with_reducible refine Kd.C_drew ?_))); (case side4 => exact (Kd.V_reads' HO299.out).2.1); rintro e w77 ⟨rfl, hb⟩; have n0_ := Aside0.mk (Kd.N_below (nv HO_9.out) hb); have n1_ := Aside0.mk (Kd.N_below (nv HO277.out) hb); have n2_ := Aside0.mk (Kd.V_below (vv HO287.out) hb); have n3_ := Aside0.mk (Kd.V_below (vv HO299.out) hb); have n4_ := Aside0.mk (blk_below (kv BK289.out) hb); have n5_ := Aside0.mk (blk_below (kv BK301.out) hb); have n6_ := Aside0.mk (below_step (by repeat (first | (with_reducible first | exact HB.out | apply below_alloc | apply pw_below_drewN | apply below_drew1 | refine below_set ?_ GE289.out | refine below_set ?_ GE301.out) | exact HB.out)) hb); clear HO_9; clear HO277; clear HO287; clear HO299; clear BK289; clear BK301; clear HB; have HO_9 := n0_; have HO277 := n1_; have HO287 := n2_; have HO299 := n3_; have BK289 := n4_; have BK301 := n5_; have HB := n6_; clear n0_ n1_ n2_ n3_ n4_ n5_ n6_; (try clear hb); (try clear hb2); (try clear hk); (try clear hi))))
         go_meet
         case rel => exact ⟨_, (true), (by first | rfl | (simp; done) | (simp [*]; done)), H', ⟨by have := HK1.out; first | omega | exact Nat.le_refl _⟩, ⟨nv HO_9.out⟩, ⟨nv HO277.out⟩, ⟨vv HO287.out⟩, ⟨vv HO299.out⟩, ⟨kv BK289.out⟩, ⟨kv BK301.out⟩, ⟨by repeat (first | (with_reducible first | exact HB.out | apply below_alloc | apply pw_below_drewN | apply below_drew1 | refine below_set ?_ GE289.out | refine below_set ?_ GE301.out) | exact HB.out)⟩⟩
       ·replace c67 := Bool.eq_false_iff.mpr c67
        subst c67
        have H1 : (deadeyelaw10_KeysAgain.j3 k1 a1 t262 t275 (t302 != t304)) = some r := by rw [if_neg (show ¬ (false = true) by decide)] at H; exact H
        clear H
        have H := H1
        clear H1
        have H' := Aside0.mk H
        clear H
        go_wp2
        repeat (go_quiet (fail); try go_wp2)
        go_meet
        case rel => exact ⟨_, ((t302 != t304)), (by first | rfl | (simp; done) | (simp [*]; done)), H', ⟨by have := HK1.out; first | omega | exact Nat.le_refl _⟩, ⟨nv HO_9.out⟩, ⟨nv HO277.out⟩, ⟨vv HO287.out⟩, ⟨vv HO299.out⟩, ⟨kv BK289.out⟩, ⟨kv BK301.out⟩, ⟨by repeat (first | (with_reducible first | exact HB.out | apply below_alloc | apply pw_below_drewN | apply below_drew1 | refine below_set ?_ GE289.out | refine below_set ?_ GE301.out) | exact HB.out)⟩⟩
    case rest =>
     clear HC32
     try clear c1
     try clear c2
     try clear p2
     try clear q2
     try clear hx2
     try clear c4
     try clear c5
     try clear c6
     try clear p6
     try clear c7
     try clear c7b0
     try clear c9
     try clear c9b0
     try clear c10
     try clear c10b0
     try clear c11
     try clear c11b0
     try clear c12
     try clear c12b0
     try clear c13
     try clear c13b0
     try clear c14
     try clear c14b0
     try clear c14b1
     try clear c15
     try clear c15b0
     try clear c19
     try clear c19b0
     try clear c20
     try clear c20b0
     try clear c21
     try clear c21b0
     try clear c22
     try clear c22b0
     try clear c23
     try clear c23b0
     try clear c24
     try clear p26
     try clear q26
     try clear hx26
     try clear c27
     try clear p27
     try clear q27
     try clear hx27
     try clear c43
     try clear c49
     try clear c50
     try clear c50b0
     try clear c50b1
     try clear c50b2
     try clear c51
     try clear c53
     try clear c55
     try clear c56
     try clear c60
     try clear c64
     try clear p64
     try clear c66
     try clear c66b0
     try clear c66b1
     try clear c66b2
     try clear c67
     try clear c69
     try clear c70
     try clear c74
     try clear hcz37_0
     try clear hcz37_1
     try clear hcz37_2
     try clear hcz37_3
     try clear hcz37_4
     try clear hcz37_5
     try clear hcz37_6
     try clear hcz37_7
     try clear hcz44_0
     try clear hcz44_1
     try clear hcz44_2
     try clear hcz44_3
     try clear hcz44_4
     try clear hcz44_5
     try clear hcz44_6
     try clear hcz44_7
     try clear hcz52_0
     try clear hcz52_1
     try clear hcz52_2
     try clear hcz52_3
     try clear hcz52_4
     try clear hcz52_5
     try clear hcz52_6
     try clear hcz52_7
     try clear hcz57_0
     try clear hcz57_1
     try clear hcz57_2
     try clear hcz57_3
     try clear hcz57_4
     try clear hcz57_5
     try clear hcz57_6
     try clear hcz57_7
     try clear hcz58_0
     try clear hcz58_1
     try clear hcz58_2
     try clear hcz58_3
     try clear hcz58_4
     try clear hcz58_5
     try clear hcz58_6
     try clear hcz58_7
     try clear hcz61_0
     try clear hcz61_1
     try clear hcz61_2
     try clear hcz61_3
     try clear hcz61_4
     try clear hcz61_5
     try clear hcz61_6
     try clear hcz61_7
     try clear hcz62_0
     try clear hcz62_1
     try clear hcz62_2
     try clear hcz62_3
     try clear hcz62_4
     try clear hcz62_5
     try clear hcz62_6
     try clear hcz62_7
     try clear hcz65_0
     try clear hcz65_1
     try clear hcz65_2
     try clear hcz65_3
     try clear hcz65_4
     try clear hcz65_5
     try clear hcz65_6
     try clear hcz65_7
     try clear hcz71_0
     try clear hcz71_1
     try clear hcz71_2
     try clear hcz71_3
     try clear hcz71_4
     try clear hcz71_5
     try clear hcz71_6
     try clear hcz71_7
     try clear hcz72_0
     try clear hcz72_1
     try clear hcz72_2
     try clear hcz72_3
     try clear hcz72_4
     try clear hcz72_5
     try clear hcz72_6
     try clear hcz72_7
     try clear hcz75_0
     try clear hcz75_1
     try clear hcz75_2
     try clear hcz75_3
     try clear hcz75_4
     try clear hcz75_5
     try clear hcz75_6
     try clear hcz75_7
     try clear hcz76_0
     try clear hcz76_1
     try clear hcz76_2
     try clear hcz76_3
     try clear hcz76_4
     try clear hcz76_5
     try clear hcz76_6
     try clear hcz76_7
     try clear hfz37_0
     try clear hfz37_1
     try clear hfz37_2
     try clear hfz37_3
     try clear hfz37_4
     try clear hfz37_5
     try clear hfz37_6
     try clear hfz37_7
     try clear hfz44_0
     try clear hfz44_1
     try clear hfz44_2
     try clear hfz44_3
     try clear hfz44_4
     try clear hfz44_5
     try clear hfz44_6
     try clear hfz44_7
     try clear hfz52_0
     try clear hfz52_1
     try clear hfz52_2
     try clear hfz52_3
     try clear hfz52_4
     try clear hfz52_5
     try clear hfz52_6
     try clear hfz52_7
     try clear hfz57_0
     try clear hfz57_1
     try clear hfz57_2
     try clear hfz57_3
     try clear hfz57_4
     try clear hfz57_5
     try clear hfz57_6
     try clear hfz57_7
     try clear hfz58_0
     try clear hfz58_1
     try clear hfz58_2
     try clear hfz58_3
     try clear hfz58_4
     try clear hfz58_5
     try clear hfz58_6
     try clear hfz58_7
     try clear hfz61_0
     try clear hfz61_1
     try clear hfz61_2
     try clear hfz61_3
     try clear hfz61_4
     try clear hfz61_5
     try clear hfz61_6
     try clear hfz61_7
     try clear hfz62_0
     try clear hfz62_1
     try clear hfz62_2
     try clear hfz62_3
     try clear hfz62_4
     try clear hfz62_5
     try clear hfz62_6
     try clear hfz62_7
     try clear hfz65_0
     try clear hfz65_1
     try clear hfz65_2
     try clear hfz65_3
     try clear hfz65_4
     try clear hfz65_5
     try clear hfz65_6
     try clear hfz65_7
     try clear hfz71_0
     try clear hfz71_1
     try clear hfz71_2
     try clear hfz71_3
     try clear hfz71_4
     try clear hfz71_5
     try clear hfz71_6
     try clear hfz71_7
     try clear hfz72_0
     try clear hfz72_1
     try clear hfz72_2
     try clear hfz72_3
     try clear hfz72_4
     try clear hfz72_5
     try clear hfz72_6
     try clear hfz72_7
     try clear hfz75_0
     try clear hfz75_1
     try clear hfz75_2
     try clear hfz75_3
     try clear hfz75_4
     try clear hfz75_5
     try clear hfz75_6
     try clear hfz75_7
     try clear hfz76_0
     try clear hfz76_1
     try clear hfz76_2
     try clear hfz76_3
     try clear hfz76_4
     try clear hfz76_5
     try clear hfz76_6
     try clear hfz76_7
     try clear hx265_0
     try clear hx265_1
     try clear hx265_2
     try clear hx265_3
     try clear hx265_4
     try clear hx265_5
     try clear hx265_6
     try clear hx265_7
     try clear hx266_0
     try clear hx266_1
     try clear hx266_2
     try clear hx266_3
     try clear hx266_4
     try clear hx266_5
     try clear hx266_6
     try clear hx266_7
     try clear hx267_0
     try clear hx267_1
     try clear hx267_2
     try clear hx267_3
     try clear hx267_4
     try clear hx267_5
     try clear hx267_6
     try clear hx267_7
     try clear hx268_0
     try clear hx268_1
     try clear hx268_2
     try clear hx268_3
     try clear hx268_4
     try clear hx268_5
     try clear hx268_6
     try clear hx268_7
     try clear hx270_0
     try clear hx270_1
     try clear hx270_2
     try clear hx270_3
     try clear hx270_4
     try clear hx270_5
     try clear hx270_6
     try clear hx270_7
     try clear hx271_0
     try clear hx271_1
     try clear hx271_2
     try clear hx271_3
     try clear hx271_4
     try clear hx271_5
     try clear hx271_6
     try clear hx271_7
     try clear hx272_0
     try clear hx272_1
     try clear hx272_2
     try clear hx272_3
     try clear hx272_4
     try clear hx272_5
     try clear hx272_6
     try clear hx272_7
     try clear hx273_0
     try clear hx273_1
     try clear hx273_2
     try clear hx273_3
     try clear hx273_4
     try clear hx273_5
     try clear hx273_6
     try clear hx273_7
     try clear p2
     try clear p265
     try clear p266
     try clear p267
     try clear p268
     try clear p270
     try clear p271
     try clear p272
     try clear p273
     try clear p6
     try clear q2
     try clear q265
     try clear q266
     try clear q267
     try clear q268
     try clear q270
     try clear q271
     try clear q272
     try clear q273
     obtain ⟨kq, x143_31, rfl, HA, HJ31, HO_9, HO_12, HO_290007, HO_302007, BK289, BK301, HB⟩ := hcut
     cases kq with
     | zero => exact absurd HA.out (by simp [deadeyelaw10_KeysAgain.j3])
     | succ kj31 =>
      have H := HA.out
      clear HA
      simp only [deadeyelaw10_KeysAgain.j3] at H
      by_cases c78 : x143_31 = true
      ·subst c78
       have H1 : (some false) = some r := by rw [if_pos rfl] at H; exact H
       clear H
       have H := H1
       clear H1
       obtain rfl := Option.some.inj H
       go_wp2
       repeat (go_quiet (fail); try go_wp2)
       go_ret
       exact ⟨by first | rfl | (simp [errW_none, errW_some] <;> rfl) | (simp [*, errW_none, errW_some] <;> rfl), by repeat (first | (with_reducible first | exact HB.out | apply below_alloc | apply pw_below_drewN | apply below_drew1 | refine below_set ?_ GE289.out | refine below_set ?_ GE301.out) | exact HB.out)⟩
      ·replace c78 := Bool.eq_false_iff.mpr c78
       subst c78
       have H1 : ((deadeyelaw10_awake.f kj31).bind fun t308 => (if t308 = true then ((keys_Live.f t275 a1).bind fun t309 => ((deadeyeref07_SameAll.f kj31 t309 t275).bind fun t312 => (if t312 = true then ((keys_Names.f t275 a1).bind fun t313 => ((keys_Names.f t262 a1).bind fun t316 => ((deadeyeref10_Texts.f kj31 t313 t316).bind fun t319 => (some t319)))) else (some false)))) else (some false))) = some r := by rw [if_neg (show ¬ (false = true) by decide)] at H; exact H
       clear H
       have H := H1
       clear H1
       replace H := Option.bind_eq_some_iff.mp H
       obtain ⟨t308, A790, H⟩ := H
       replace H : (if t308 = true then ((keys_Live.f t275 a1).bind fun t309 => ((deadeyeref07_SameAll.f kj31 t309 t275).bind fun t312 => (if t312 = true then ((keys_Names.f t275 a1).bind fun t313 => ((keys_Names.f t262 a1).bind fun t316 => ((deadeyeref10_Texts.f kj31 t313 t316).bind fun t319 => (some t319)))) else (some false)))) else (some false)) = some r := H
       have A79 := Aside0.mk A790
       clear A790
       by_cases c80 : t308 = true
       ·subst c80
        have H1 : ((keys_Live.f t275 a1).bind fun t309 => ((deadeyeref07_SameAll.f kj31 t309 t275).bind fun t312 => (if t312 = true then ((keys_Names.f t275 a1).bind fun t313 => ((keys_Names.f t262 a1).bind fun t316 => ((deadeyeref10_Texts.f kj31 t313 t316).bind fun t319 => (some t319)))) else (some false)))) = some r := by rw [if_pos rfl] at H; exact H
        clear H
        have H := H1
        clear H1
        replace H := Option.bind_eq_some_iff.mp H
        obtain ⟨t309, A810, H⟩ := H
        replace H : ((deadeyeref07_SameAll.f kj31 t309 t275).bind fun t312 => (if t312 = true then ((keys_Names.f t275 a1).bind fun t313 => ((keys_Names.f t262 a1).bind fun t316 => ((deadeyeref10_Texts.f kj31 t313 t316).bind fun t319 => (some t319)))) else (some false))) = some r := H
        have A81 := Aside0.mk A810
        clear A810
        replace H := Option.bind_eq_some_iff.mp H
        obtain ⟨t312, A820, H⟩ := H
        replace H : (if t312 = true then ((keys_Names.f t275 a1).bind fun t313 => ((keys_Names.f t262 a1).bind fun t316 => ((deadeyeref10_Texts.f kj31 t313 t316).bind fun t319 => (some t319)))) else (some false)) = some r := H
        have A82 := Aside0.mk A820
        clear A820
        by_cases c83 : t312 = true
        ·subst c83
         have H1 : ((keys_Names.f t275 a1).bind fun t313 => ((keys_Names.f t262 a1).bind fun t316 => ((deadeyeref10_Texts.f kj31 t313 t316).bind fun t319 => (some t319)))) = some r := by rw [if_pos rfl] at H; exact H
         clear H
         have H := H1
         clear H1
         replace H := Option.bind_eq_some_iff.mp H
         obtain ⟨t313, A840, H⟩ := H
         replace H : ((keys_Names.f t262 a1).bind fun t316 => ((deadeyeref10_Texts.f kj31 t313 t316).bind fun t319 => (some t319))) = some r := H
         have A84 := Aside0.mk A840
         clear A840
         replace H := Option.bind_eq_some_iff.mp H
         obtain ⟨t316, A850, H⟩ := H
         replace H : ((deadeyeref10_Texts.f kj31 t313 t316).bind fun t319 => (some t319)) = some r := H
         have A85 := Aside0.mk A850
         clear A850
         replace H := Option.bind_eq_some_iff.mp H
         obtain ⟨t319, A860, H⟩ := H
         replace H : (some t319) = some r := H
         have A86 := Aside0.mk A860
         clear A860
         obtain rfl := Option.some.inj H
         go_wp2_with (first | (go_at_call 24; (with_reducible refine (deadeyelaw10_awake.calls kj31  true _ A79.out).mono ?_); rintro e w87 ⟨rfl, hb⟩; have n0_ := Aside0.mk (Kd.N_below (nv HO_9.out) hb); have n1_ := Aside0.mk (Kd.N_below (nv HO_12.out) hb); have n2_ := Aside0.mk (Kd.V_below (vv HO_290007.out) hb); have n3_ := Aside0.mk (Kd.V_below (vv HO_302007.out) hb); have n4_ := Aside0.mk (blk_below (kv BK289.out) hb); have n5_ := Aside0.mk (blk_below (kv BK301.out) hb); have n6_ := Aside0.mk (below_step (by repeat (first | (with_reducible first | exact HB.out | apply below_alloc | apply pw_below_drewN | apply below_drew1 | refine below_set ?_ GE289.out | refine below_set ?_ GE301.out) | exact HB.out)) hb); clear HO_9; clear HO_12; clear HO_290007; clear HO_302007; clear BK289; clear BK301; clear HB; have HO_9 := n0_; have HO_12 := n1_; have HO_290007 := n2_; have HO_302007 := n3_; have BK289 := n4_; have BK301 := n5_; have HB := n6_; clear n0_ n1_ n2_ n3_ n4_ n5_ n6_; (try clear hb); (try clear hb2); (try clear hk); (try clear hi)) | (go_at_call 32; (with_reducible refine (keys_Live.calls (fun k_ => (k_ ≠ gb289 ∧ k_ ≠ gb301)) _ _ t275 a1 t309 _ ?side1 A81.out).mono ?_); (case side1 => exact Kd.N_V (HO_12.out)); rintro e w88 ⟨v310, rfl, ho0, hb⟩; have n0_ := Aside0.mk (Kd.N_elder' (nv HO_9.out) (Kd.N_base ho0) hb); have n1_ := Aside0.mk (Kd.N_elder' (nv HO_12.out) (Kd.N_base ho0) hb); have n2_ := Aside0.mk (Kd.V_elder' (vv HO_290007.out) (Kd.N_base ho0) hb); have n3_ := Aside0.mk (Kd.V_elder' (vv HO_302007.out) (Kd.N_base ho0) hb); have n4_ := Aside0.mk (Kd.N_lower (Kd.N_mono (ok' := fun k_ => k_ ≠ gb289 ∧ k_ ≠ gb301) ho0 (fun k_ hk_ => ⟨Or.elim hk_ (fun hs_ => hs_.1) (fun hn_ => (Kd.freshB (g := gb289) (o := .cells #[.int .i64 t278, .int .i64 t279, .int .i64 t280, .int .i64 t281, .string t282, .int .i64 t283, .int .u32 t284, .slice Ao38 t285.length co38] 48 (0, 0)) (kv BK289.out) k_ hn_)), Or.elim hk_ (fun hs_ => hs_.2) (fun hn_ => (Kd.freshB (g := gb301) (o := .cells #[.int .i64 t290, .int .i64 t291, .int .i64 t292, .int .i64 t293, .string t294, .int .i64 t295, .int .u32 t296, .slice Ao45 t297.length co45] 48 (0, 0)) (kv BK301.out) k_ hn_))⟩)) (below_size (by repeat (first | (with_reducible first | exact HB.out | apply below_alloc | apply pw_below_drewN | apply below_drew1 | refine below_set ?_ GE289.out | refine below_set ?_ GE301.out) | exact HB.out)))); have n5_ := Aside0.mk (blk_below (kv BK289.out) hb); have n6_ := Aside0.mk (blk_below (kv BK301.out) hb); have n7_ := Aside0.mk (below_step (by repeat (first | (with_reducible first | exact HB.out | apply below_alloc | apply pw_below_drewN | apply below_drew1 | refine below_set ?_ GE289.out | refine below_set ?_ GE301.out) | exact HB.out)) hb); clear HO_9; clear HO_12; clear HO_290007; clear HO_302007; clear BK289; clear BK301; clear HB; have HO_9 := n0_; have HO_12 := n1_; have HO_290007 := n2_; have HO_302007 := n3_; have HO311 := n4_; have BK289 := n5_; have BK301 := n6_; have HB := n7_; clear n0_ n1_ n2_ n3_ n4_ n5_ n6_ n7_; (try clear hb); (try clear hb2); (try clear hk); (try clear hi); (try clear ho0); obtain ⟨Ao89, co89, eo89⟩ := Kd.N_slice HO311.out; subst eo89) | (go_at_call 31; (with_reducible refine (deadeyeref07_SameAll.calls kj31 _ _ t309 _ _ t275 true _ ?side1 ?side2 ?side3 ?side4 A82.out).mono ?_); (case side1 => repeat (first | exact (Kd.N_reads' HO311.out).2.2 | (with_reducible refine Kd.C_alloc ?_ _) | (with_reducible refine Kd.C_drewN ?_ _) | (with_reducible refine Kd.C_drew ?_))); (case side2 => exact (Kd.N_reads' HO311.out).2.1); (case side3 => repeat (first | exact (Kd.N_reads' HO_12.out).2.2 | (with_reducible refine Kd.C_alloc ?_ _) | (with_reducible refine Kd.C_drewN ?_ _) | (with_reducible refine Kd.C_drew ?_))); (case side4 => exact (Kd.N_reads' HO_12.out).2.1); rintro e w90 ⟨rfl, hb⟩; have n0_ := Aside0.mk (Kd.N_below (nv HO_9.out) hb); have n1_ := Aside0.mk (Kd.N_below (nv HO_12.out) hb); have n2_ := Aside0.mk (Kd.V_below (vv HO_290007.out) hb); have n3_ := Aside0.mk (Kd.V_below (vv HO_302007.out) hb); have n4_ := Aside0.mk (Kd.N_below (nv HO311.out) hb); have n5_ := Aside0.mk (blk_below (kv BK289.out) hb); have n6_ := Aside0.mk (blk_below (kv BK301.out) hb); have n7_ := Aside0.mk (below_step (by repeat (first | (with_reducible first | exact HB.out | apply below_alloc | apply pw_below_drewN | apply below_drew1 | refine below_set ?_ GE289.out | refine below_set ?_ GE301.out) | exact HB.out)) hb); clear HO_9; clear HO_12; clear HO_290007; clear HO_302007; clear HO311; clear BK289; clear BK301; clear HB; have HO_9 := n0_; have HO_12 := n1_; have HO_290007 := n2_; have HO_302007 := n3_; have HO311 := n4_; have BK289 := n5_; have BK301 := n6_; have HB := n7_; clear n0_ n1_ n2_ n3_ n4_ n5_ n6_ n7_; (try clear hb); (try clear hb2); (try clear hk); (try clear hi)) | (go_at_call 27; (with_reducible refine (keys_Names.calls _ _ t275 a1 t313 _ ?side1 ?side2 A84.out).mono ?_); (case side1 => repeat (first | exact (Kd.N_reads' HO_12.out).2.2 | (with_reducible refine Kd.C_alloc ?_ _) | (with_reducible refine Kd.C_drewN ?_ _) | (with_reducible refine Kd.C_drew ?_))); (case side2 => exact (Kd.N_reads' HO_12.out).2.1); rintro e w91 ⟨v314, rfl, ho0, hb⟩; have n0_ := Aside0.mk (Kd.N_elder' (nv HO_9.out) (Kd.R_base ho0) hb); have n1_ := Aside0.mk (Kd.N_elder' (nv HO_12.out) (Kd.R_base ho0) hb); have n2_ := Aside0.mk (Kd.V_elder' (vv HO_290007.out) (Kd.R_base ho0) hb); have n3_ := Aside0.mk (Kd.V_elder' (vv HO_302007.out) (Kd.R_base ho0) hb); have n4_ := Aside0.mk (Kd.N_elder' (nv HO311.out) (Kd.R_base ho0) hb); have n5_ := Aside0.mk (Kd.R_lower ho0 (below_size (by repeat (first | (with_reducible first | exact HB.out | apply below_alloc | apply pw_below_drewN | apply below_drew1 | refine below_set ?_ GE289.out | refine below_set ?_ GE301.out) | exact HB.out)))); have n6_ := Aside0.mk (blk_below (kv BK289.out) hb); have n7_ := Aside0.mk (blk_below (kv BK301.out) hb); have n8_ := Aside0.mk (below_step (by repeat (first | (with_reducible first | exact HB.out | apply below_alloc | apply pw_below_drewN | apply below_drew1 | refine below_set ?_ GE289.out | refine below_set ?_ GE301.out) | exact HB.out)) hb); clear HO_9; clear HO_12; clear HO_290007; clear HO_302007; clear HO311; clear BK289; clear BK301; clear HB; have HO_9 := n0_; have HO_12 := n1_; have HO_290007 := n2_; have HO_302007 := n3_; have HO311 := n4_; have HO315 := n5_; have BK289 := n6_; have BK301 := n7_; have HB := n8_; clear n0_ n1_ n2_ n3_ n4_ n5_ n6_ n7_ n8_; (try clear hb); (try clear hb2); (try clear hk); (try clear hi); (try clear ho0)) | (go_at_call 27; (with_reducible refine (keys_Names.calls _ _ t262 a1 t316 _ ?side1 ?side2 A85.out).mono ?_); (case side1 => repeat (first | exact (Kd.N_reads' HO_9.out).2.2 | (with_reducible refine Kd.C_alloc ?_ _) | (with_reducible refine Kd.C_drewN ?_ _) | (with_reducible refine Kd.C_drew ?_))); (case side2 => exact (Kd.N_reads' HO_9.out).2.1); rintro e w92 ⟨v317, rfl, ho0, hb⟩; have n0_ := Aside0.mk (Kd.N_elder' (nv HO_9.out) (Kd.R_base ho0) hb); have n1_ := Aside0.mk (Kd.N_elder' (nv HO_12.out) (Kd.R_base ho0) hb); have n2_ := Aside0.mk (Kd.V_elder' (vv HO_290007.out) (Kd.R_base ho0) hb); have n3_ := Aside0.mk (Kd.V_elder' (vv HO_302007.out) (Kd.R_base ho0) hb); have n4_ := Aside0.mk (Kd.N_elder' (nv HO311.out) (Kd.R_base ho0) hb); have n5_ := Aside0.mk (Kd.R_elder' (rv HO315.out) (Kd.R_base ho0) hb); have n6_ := Aside0.mk (Kd.R_lower (Kd.R_new' ho0 (Kd.R_lt (rv HO315.out))) (below_size (by repeat (first | (with_reducible first | exact HB.out | apply below_alloc | apply pw_below_drewN | apply below_drew1 | refine below_set ?_ GE289.out | refine below_set ?_ GE301.out) | exact HB.out)))); have n7_ := Aside0.mk (blk_below (kv BK289.out) hb); have n8_ := Aside0.mk (blk_below (kv BK301.out) hb); have n9_ := Aside0.mk (below_step (by repeat (first | (with_reducible first | exact HB.out | apply below_alloc | apply pw_below_drewN | apply below_drew1 | refine below_set ?_ GE289.out | refine below_set ?_ GE301.out) | exact HB.out)) hb); clear HO_9; clear HO_12; clear HO_290007; clear HO_302007; clear HO311; clear HO315; clear BK289; clear BK301; clear HB; have HO_9 := n0_; have HO_12 := n1_; have HO_290007 := n2_; have HO_302007 := n3_; have HO311 := n4_; have HO315 := n5_; have HO318 := n6_; have BK289 := n7_; have BK301 := n8_; have HB := n9_; clear n0_ n1_ n2_ n3_ n4_ n5_ n6_ n7_ n8_ n9_; (try clear hb); (try clear hb2); (try clear hk); (try clear hi); (try clear ho0); obtain ⟨Ao93, co93, eo93⟩ := Kd.R_slice HO315.out; subst eo93; obtain ⟨Ao94, co94, eo94⟩ := Kd.R_slice HO318.out; subst eo94) | (go_at_call 26; (with_reducible refine (deadeyeref10_Texts.calls kj31 _ _ t313 _ _ t316 t319 _ ?side1 ?side2 ?side3 ?side4 A86.out).mono ?_); (case side1 => repeat (first | exact (Kd.R_reads' HO315.out).2.2 | (with_reducible refine Kd.C_alloc ?_ _) | (with_reducible refine Kd.C_drewN ?_ _) | (with_reducible refine Kd.C_drew ?_))); (case side2 => exact (Kd.R_reads' HO315.out).2.1); (case side3 => repeat (first | exact (Kd.R_reads' HO318.out).2.2 | (with_reducible refine Kd.C_alloc ?_ _) | (with_reducible refine Kd.C_drewN ?_ _) | (with_reducible refine Kd.C_drew ?_))); (case side4 => exact (Kd.R_reads' HO318.out).2.1); rintro e w' ⟨rfl, ⟨nd, rfl⟩⟩; (try first | exact ⟨rfl, _, World.drewN_drewN _ _ _⟩ | exact ⟨rfl, _, Eq.trans (World.drewN_drewN _ _ _) (congrArg (World.drewN _) (Nat.add_assoc _ _ _))⟩)))
         repeat (go_quiet (first | (go_at_call 24; (with_reducible refine (deadeyelaw10_awake.calls kj31  true _ A79.out).mono ?_); rintro e w87 ⟨rfl, hb⟩; have n0_ := Aside0.mk (Kd.N_below (nv HO_9.out) hb); have n1_ := Aside0.mk (Kd.N_below (nv HO_12.out) hb); have n2_ := Aside0.mk (Kd.V_below (vv HO_290007.out) hb); have n3_ := Aside0.mk (Kd.V_below (vv HO_302007.out) hb); have n4_ := Aside0.mk (blk_below (kv BK289.out) hb); have n5_ := Aside0.mk (blk_below (kv BK301.out) hb); have n6_ := Aside0.mk (below_step (by repeat (first | (with_reducible first | exact HB.out | apply below_alloc | apply pw_below_drewN | apply below_drew1 | refine below_set ?_ GE289.out | refine below_set ?_ GE301.out) | exact HB.out)) hb); clear HO_9; clear HO_12; clear HO_290007; clear HO_302007; clear BK289; clear BK301; clear HB; have HO_9 := n0_; have HO_12 := n1_; have HO_290007 := n2_; have HO_302007 := n3_; have BK289 := n4_; have BK301 := n5_; have HB := n6_; clear n0_ n1_ n2_ n3_ n4_ n5_ n6_; (try clear hb); (try clear hb2); (try clear hk); (try clear hi)) | (go_at_call 32; (with_reducible refine (keys_Live.calls (fun k_ => (k_ ≠ gb289 ∧ k_ ≠ gb301)) _ _ t275 a1 t309 _ ?side1 A81.out).mono ?_); (case side1 => exact Kd.N_V (HO_12.out)); rintro e w88 ⟨v310, rfl, ho0, hb⟩; have n0_ := Aside0.mk (Kd.N_elder' (nv HO_9.out) (Kd.N_base ho0) hb); have n1_ := Aside0.mk (Kd.N_elder' (nv HO_12.out) (Kd.N_base ho0) hb); have n2_ := Aside0.mk (Kd.V_elder' (vv HO_290007.out) (Kd.N_base ho0) hb); have n3_ := Aside0.mk (Kd.V_elder' (vv HO_302007.out) (Kd.N_base ho0) hb); have n4_ := Aside0.mk (Kd.N_lower (Kd.N_mono (ok' := fun k_ => k_ ≠ gb289 ∧ k_ ≠ gb301) ho0 (fun k_ hk_ => ⟨Or.elim hk_ (fun hs_ => hs_.1) (fun hn_ => (Kd.freshB (g := gb289) (o := .cells #[.int .i64 t278, .int .i64 t279, .int .i64 t280, .int .i64 t281, .string t282, .int .i64 t283, .int .u32 t284, .slice Ao38 t285.length co38] 48 (0, 0)) (kv BK289.out) k_ hn_)), Or.elim hk_ (fun hs_ => hs_.2) (fun hn_ => (Kd.freshB (g := gb301) (o := .cells #[.int .i64 t290, .int .i64 t291, .int .i64 t292, .int .i64 t293, .string t294, .int .i64 t295, .int .u32 t296, .slice Ao45 t297.length co45] 48 (0, 0)) (kv BK301.out) k_ hn_))⟩)) (below_size (by repeat (first | (with_reducible first | exact HB.out | apply below_alloc | apply pw_below_drewN | apply below_drew1 | refine below_set ?_ GE289.out | refine below_set ?_ GE301.out) | exact HB.out)))); have n5_ := Aside0.mk (blk_below (kv BK289.out) hb); have n6_ := Aside0.mk (blk_below (kv BK301.out) hb); have n7_ := Aside0.mk (below_step (by repeat (first | (with_reducible first | exact HB.out | apply below_alloc | apply pw_below_drewN | apply below_drew1 | refine below_set ?_ GE289.out | refine below_set ?_ GE301.out) | exact HB.out)) hb); clear HO_9; clear HO_12; clear HO_290007; clear HO_302007; clear BK289; clear BK301; clear HB; have HO_9 := n0_; have HO_12 := n1_; have HO_290007 := n2_; have HO_302007 := n3_; have HO311 := n4_; have BK289 := n5_; have BK301 := n6_; have HB := n7_; clear n0_ n1_ n2_ n3_ n4_ n5_ n6_ n7_; (try clear hb); (try clear hb2); (try clear hk); (try clear hi); (try clear ho0); obtain ⟨Ao89, co89, eo89⟩ := Kd.N_slice HO311.out; subst eo89) | (go_at_call 31; (with_reducible refine (deadeyeref07_SameAll.calls kj31 _ _ t309 _ _ t275 true _ ?side1 ?side2 ?side3 ?side4 A82.out).mono ?_); (case side1 => repeat (first | exact (Kd.N_reads' HO311.out).2.2 | (with_reducible refine Kd.C_alloc ?_ _) | (with_reducible refine Kd.C_drewN ?_ _) | (with_reducible refine Kd.C_drew ?_))); (case side2 => exact (Kd.N_reads' HO311.out).2.1); (case side3 => repeat (first | exact (Kd.N_reads' HO_12.out).2.2 | (with_reducible refine Kd.C_alloc ?_ _) | (with_reducible refine Kd.C_drewN ?_ _) | (with_reducible refine Kd.C_drew ?_))); (case side4 => exact (Kd.N_reads' HO_12.out).2.1); rintro e w90 ⟨rfl, hb⟩; have n0_ := Aside0.mk (Kd.N_below (nv HO_9.out) hb); have n1_ := Aside0.mk (Kd.N_below (nv HO_12.out) hb); have n2_ := Aside0.mk (Kd.V_below (vv HO_290007.out) hb); have n3_ := Aside0.mk (Kd.V_below (vv HO_302007.out) hb); have n4_ := Aside0.mk (Kd.N_below (nv HO311.out) hb); have n5_ := Aside0.mk (blk_below (kv BK289.out) hb); have n6_ := Aside0.mk (blk_below (kv BK301.out) hb); have n7_ := Aside0.mk (below_step (by repeat (first | (with_reducible first | exact HB.out | apply below_alloc | apply pw_below_drewN | apply below_drew1 | refine below_set ?_ GE289.out | refine below_set ?_ GE301.out) | exact HB.out)) hb); clear HO_9; clear HO_12; clear HO_290007; clear HO_302007; clear HO311; clear BK289; clear BK301; clear HB; have HO_9 := n0_; have HO_12 := n1_; have HO_290007 := n2_; have HO_302007 := n3_; have HO311 := n4_; have BK289 := n5_; have BK301 := n6_; have HB := n7_; clear n0_ n1_ n2_ n3_ n4_ n5_ n6_ n7_; (try clear hb); (try clear hb2); (try clear hk); (try clear hi)) | (go_at_call 27; (with_reducible refine (keys_Names.calls _ _ t275 a1 t313 _ ?side1 ?side2 A84.out).mono ?_); (case side1 => repeat (first | exact (Kd.N_reads' HO_12.out).2.2 | (with_reducible refine Kd.C_alloc ?_ _) | (with_reducible refine Kd.C_drewN ?_ _) | (with_reducible refine Kd.C_drew ?_))); (case side2 => exact (Kd.N_reads' HO_12.out).2.1); rintro e w91 ⟨v314, rfl, ho0, hb⟩; have n0_ := Aside0.mk (Kd.N_elder' (nv HO_9.out) (Kd.R_base ho0) hb); have n1_ := Aside0.mk (Kd.N_elder' (nv HO_12.out) (Kd.R_base ho0) hb); have n2_ := Aside0.mk (Kd.V_elder' (vv HO_290007.out) (Kd.R_base ho0) hb); have n3_ := Aside0.mk (Kd.V_elder' (vv HO_302007.out) (Kd.R_base ho0) hb); have n4_ := Aside0.mk (Kd.N_elder' (nv HO311.out) (Kd.R_base ho0) hb); have n5_ := Aside0.mk (Kd.R_lower ho0 (below_size (by repeat (first | (with_reducible first | exact HB.out | apply below_alloc | apply pw_below_drewN | apply below_drew1 | refine below_set ?_ GE289.out | refine below_set ?_ GE301.out) | exact HB.out)))); have n6_ := Aside0.mk (blk_below (kv BK289.out) hb); have n7_ := Aside0.mk (blk_below (kv BK301.out) hb); have n8_ := Aside0.mk (below_step (by repeat (first | (with_reducible first | exact HB.out | apply below_alloc | apply pw_below_drewN | apply below_drew1 | refine below_set ?_ GE289.out | refine below_set ?_ GE301.out) | exact HB.out)) hb); clear HO_9; clear HO_12; clear HO_290007; clear HO_302007; clear HO311; clear BK289; clear BK301; clear HB; have HO_9 := n0_; have HO_12 := n1_; have HO_290007 := n2_; have HO_302007 := n3_; have HO311 := n4_; have HO315 := n5_; have BK289 := n6_; have BK301 := n7_; have HB := n8_; clear n0_ n1_ n2_ n3_ n4_ n5_ n6_ n7_ n8_; (try clear hb); (try clear hb2); (try clear hk); (try clear hi); (try clear ho0)) | (go_at_call 27; (with_reducible refine (keys_Names.calls _ _ t262 a1 t316 _ ?side1 ?side2 A85.out).mono ?_); (case side1 => repeat (first | exact (Kd.N_reads' HO_9.out).2.2 | (with_reducible refine Kd.C_alloc ?_ _) | (with_reducible refine Kd.C_drewN ?_ _) | (with_reducible refine Kd.C_drew ?_))); (case side2 => exact (Kd.N_reads' HO_9.out).2.1); rintro e w92 ⟨v317, rfl, ho0, hb⟩; have n0_ := Aside0.mk (Kd.N_elder' (nv HO_9.out) (Kd.R_base ho0) hb); have n1_ := Aside0.mk (Kd.N_elder' (nv HO_12.out) (Kd.R_base ho0) hb); have n2_ := Aside0.mk (Kd.V_elder' (vv HO_290007.out) (Kd.R_base ho0) hb); have n3_ := Aside0.mk (Kd.V_elder' (vv HO_302007.out) (Kd.R_base ho0) hb); have n4_ := Aside0.mk (Kd.N_elder' (nv HO311.out) (Kd.R_base ho0) hb); have n5_ := Aside0.mk (Kd.R_elder' (rv HO315.out) (Kd.R_base ho0) hb); have n6_ := Aside0.mk (Kd.R_lower (Kd.R_new' ho0 (Kd.R_lt (rv HO315.out))) (below_size (by repeat (first | (with_reducible first | exact HB.out | apply below_alloc | apply pw_below_drewN | apply below_drew1 | refine below_set ?_ GE289.out | refine below_set ?_ GE301.out) | exact HB.out)))); have n7_ := Aside0.mk (blk_below (kv BK289.out) hb); have n8_ := Aside0.mk (blk_below (kv BK301.out) hb); have n9_ := Aside0.mk (below_step (by repeat (first | (with_reducible first | exact HB.out | apply below_alloc | apply pw_below_drewN | apply below_drew1 | refine below_set ?_ GE289.out | refine below_set ?_ GE301.out) | exact HB.out)) hb); clear HO_9; clear HO_12; clear HO_290007; clear HO_302007; clear HO311; clear HO315; clear BK289; clear BK301; clear HB; have HO_9 := n0_; have HO_12 := n1_; have HO_290007 := n2_; have HO_302007 := n3_; have HO311 := n4_; have HO315 := n5_; have HO318 := n6_; have BK289 := n7_; have BK301 := n8_; have HB := n9_; clear n0_ n1_ n2_ n3_ n4_ n5_ n6_ n7_ n8_ n9_; (try clear hb); (try clear hb2); (try clear hk); (try clear hi); (try clear ho0); obtain ⟨Ao93, co93, eo93⟩ := Kd.R_slice HO315.out; subst eo93; obtain ⟨Ao94, co94, eo94⟩ := Kd.R_slice HO318.out; subst eo94) | (go_at_call 26; (with_reducible refine (deadeyeref10_Texts.calls kj31 _ _ t313 _ _ t316 t319 _ ?side1 ?side2 ?side3 ?side4 A86.out).mono ?_); (case side1 => repeat (first | exact (Kd.R_reads' HO315.out).2.2 | (with_reducible refine Kd.C_alloc ?_ _) | (with_reducible refine Kd.C_drewN ?_ _) | (with_reducible refine Kd.C_drew ?_))); (case side2 => exact (Kd.R_reads' HO315.out).2.1); (case side3 => repeat (first | exact (Kd.R_reads' HO318.out).2.2 | (with_reducible refine Kd.C_alloc ?_ _) | (with_reducible refine Kd.C_drewN ?_ _) | (with_reducible refine Kd.C_drew ?_))); (case side4 => exact (Kd.R_reads' HO318.out).2.1); rintro e w' ⟨rfl, ⟨nd, rfl⟩⟩; (try first | exact ⟨rfl, _, World.drewN_drewN _ _ _⟩ | exact ⟨rfl, _, Eq.trans (World.drewN_drewN _ _ _) (congrArg (World.drewN _) (Nat.add_assoc _ _ _))⟩))); try go_wp2_with (first | (go_at_call 24; (with_reducible refine (deadeyelaw10_awake.calls kj31  true _ A79.out).mono ?_); rintro e w87 ⟨rfl, hb⟩; have n0_ := Aside0.mk (Kd.N_below (nv HO_9.out) hb); have n1_ := Aside0.mk (Kd.N_below (nv HO_12.out) hb); have n2_ := Aside0.mk (Kd.V_below (vv HO_290007.out) hb); have n3_ := Aside0.mk (Kd.V_below (vv HO_302007.out) hb); have n4_ := Aside0.mk (blk_below (kv BK289.out) hb); have n5_ := Aside0.mk (blk_below (kv BK301.out) hb); have n6_ := Aside0.mk (below_step (by repeat (first | (with_reducible first | exact HB.out | apply below_alloc | apply pw_below_drewN | apply below_drew1 | refine below_set ?_ GE289.out | refine below_set ?_ GE301.out) | exact HB.out)) hb); clear HO_9; clear HO_12; clear HO_290007; clear HO_302007; clear BK289; clear BK301; clear HB; have HO_9 := n0_; have HO_12 := n1_; have HO_290007 := n2_; have HO_302007 := n3_; have BK289 := n4_; have BK301 := n5_; have HB := n6_; clear n0_ n1_ n2_ n3_ n4_ n5_ n6_; (try clear hb); (try clear hb2); (try clear hk); (try clear hi)) | (go_at_call 32; (with_reducible refine (keys_Live.calls (fun k_ => (k_ ≠ gb289 ∧ k_ ≠ gb301)) _ _ t275 a1 t309 _ ?side1 A81.out).mono ?_); (case side1 => exact Kd.N_V (HO_12.out)); rintro e w88 ⟨v310, rfl, ho0, hb⟩; have n0_ := Aside0.mk (Kd.N_elder' (nv HO_9.out) (Kd.N_base ho0) hb); have n1_ := Aside0.mk (Kd.N_elder' (nv HO_12.out) (Kd.N_base ho0) hb); have n2_ := Aside0.mk (Kd.V_elder' (vv HO_290007.out) (Kd.N_base ho0) hb); have n3_ := Aside0.mk (Kd.V_elder' (vv HO_302007.out) (Kd.N_base ho0) hb); have n4_ := Aside0.mk (Kd.N_lower (Kd.N_mono (ok' := fun k_ => k_ ≠ gb289 ∧ k_ ≠ gb301) ho0 (fun k_ hk_ => ⟨Or.elim hk_ (fun hs_ => hs_.1) (fun hn_ => (Kd.freshB (g := gb289) (o := .cells #[.int .i64 t278, .int .i64 t279, .int .i64 t280, .int .i64 t281, .string t282, .int .i64 t283, .int .u32 t284, .slice Ao38 t285.length co38] 48 (0, 0)) (kv BK289.out) k_ hn_)), Or.elim hk_ (fun hs_ => hs_.2) (fun hn_ => (Kd.freshB (g := gb301) (o := .cells #[.int .i64 t290, .int .i64 t291, .int .i64 t292, .int .i64 t293, .string t294, .int .i64 t295, .int .u32 t296, .slice Ao45 t297.length co45] 48 (0, 0)) (kv BK301.out) k_ hn_))⟩)) (below_size (by repeat (first | (with_reducible first | exact HB.out | apply below_alloc | apply pw_below_drewN | apply below_drew1 | refine below_set ?_ GE289.out | refine below_set ?_ GE301.out) | exact HB.out)))); have n5_ := Aside0.mk (blk_below (kv BK289.out) hb); have n6_ := Aside0.mk (blk_below (kv BK301.out) hb); have n7_ := Aside0.mk (below_step (by repeat (first | (with_reducible first | exact HB.out | apply below_alloc | apply pw_below_drewN | apply below_drew1 | refine below_set ?_ GE289.out | refine below_set ?_ GE301.out) | exact HB.out)) hb); clear HO_9; clear HO_12; clear HO_290007; clear HO_302007; clear BK289; clear BK301; clear HB; have HO_9 := n0_; have HO_12 := n1_; have HO_290007 := n2_; have HO_302007 := n3_; have HO311 := n4_; have BK289 := n5_; have BK301 := n6_; have HB := n7_; clear n0_ n1_ n2_ n3_ n4_ n5_ n6_ n7_; (try clear hb); (try clear hb2); (try clear hk); (try clear hi); (try clear ho0); obtain ⟨Ao89, co89, eo89⟩ := Kd.N_slice HO311.out; subst eo89) | (go_at_call 31; (with_reducible refine (deadeyeref07_SameAll.calls kj31 _ _ t309 _ _ t275 true _ ?side1 ?side2 ?side3 ?side4 A82.out).mono ?_); (case side1 => repeat (first | exact (Kd.N_reads' HO311.out).2.2 | (with_reducible refine Kd.C_alloc ?_ _) | (with_reducible refine Kd.C_drewN ?_ _) | (with_reducible refine Kd.C_drew ?_))); (case side2 => exact (Kd.N_reads' HO311.out).2.1); (case side3 => repeat (first | exact (Kd.N_reads' HO_12.out).2.2 | (with_reducible refine Kd.C_alloc ?_ _) | (with_reducible refine Kd.C_drewN ?_ _) | (with_reducible refine Kd.C_drew ?_))); (case side4 => exact (Kd.N_reads' HO_12.out).2.1); rintro e w90 ⟨rfl, hb⟩; have n0_ := Aside0.mk (Kd.N_below (nv HO_9.out) hb); have n1_ := Aside0.mk (Kd.N_below (nv HO_12.out) hb); have n2_ := Aside0.mk (Kd.V_below (vv HO_290007.out) hb); have n3_ := Aside0.mk (Kd.V_below (vv HO_302007.out) hb); have n4_ := Aside0.mk (Kd.N_below (nv HO311.out) hb); have n5_ := Aside0.mk (blk_below (kv BK289.out) hb); have n6_ := Aside0.mk (blk_below (kv BK301.out) hb); have n7_ := Aside0.mk (below_step (by repeat (first | (with_reducible first | exact HB.out | apply below_alloc | apply pw_below_drewN | apply below_drew1 | refine below_set ?_ GE289.out | refine below_set ?_ GE301.out) | exact HB.out)) hb); clear HO_9; clear HO_12; clear HO_290007; clear HO_302007; clear HO311; clear BK289; clear BK301; clear HB; have HO_9 := n0_; have HO_12 := n1_; have HO_290007 := n2_; have HO_302007 := n3_; have HO311 := n4_; have BK289 := n5_; have BK301 := n6_; have HB := n7_; clear n0_ n1_ n2_ n3_ n4_ n5_ n6_ n7_; (try clear hb); (try clear hb2); (try clear hk); (try clear hi)) | (go_at_call 27; (with_reducible refine (keys_Names.calls _ _ t275 a1 t313 _ ?side1 ?side2 A84.out).mono ?_); (case side1 => repeat (first | exact (Kd.N_reads' HO_12.out).2.2 | (with_reducible refine Kd.C_alloc ?_ _) | (with_reducible refine Kd.C_drewN ?_ _) | (with_reducible refine Kd.C_drew ?_))); (case side2 => exact (Kd.N_reads' HO_12.out).2.1); rintro e w91 ⟨v314, rfl, ho0, hb⟩; have n0_ := Aside0.mk (Kd.N_elder' (nv HO_9.out) (Kd.R_base ho0) hb); have n1_ := Aside0.mk (Kd.N_elder' (nv HO_12.out) (Kd.R_base ho0) hb); have n2_ := Aside0.mk (Kd.V_elder' (vv HO_290007.out) (Kd.R_base ho0) hb); have n3_ := Aside0.mk (Kd.V_elder' (vv HO_302007.out) (Kd.R_base ho0) hb); have n4_ := Aside0.mk (Kd.N_elder' (nv HO311.out) (Kd.R_base ho0) hb); have n5_ := Aside0.mk (Kd.R_lower ho0 (below_size (by repeat (first | (with_reducible first | exact HB.out | apply below_alloc | apply pw_below_drewN | apply below_drew1 | refine below_set ?_ GE289.out | refine below_set ?_ GE301.out) | exact HB.out)))); have n6_ := Aside0.mk (blk_below (kv BK289.out) hb); have n7_ := Aside0.mk (blk_below (kv BK301.out) hb); have n8_ := Aside0.mk (below_step (by repeat (first | (with_reducible first | exact HB.out | apply below_alloc | apply pw_below_drewN | apply below_drew1 | refine below_set ?_ GE289.out | refine below_set ?_ GE301.out) | exact HB.out)) hb); clear HO_9; clear HO_12; clear HO_290007; clear HO_302007; clear HO311; clear BK289; clear BK301; clear HB; have HO_9 := n0_; have HO_12 := n1_; have HO_290007 := n2_; have HO_302007 := n3_; have HO311 := n4_; have HO315 := n5_; have BK289 := n6_; have BK301 := n7_; have HB := n8_; clear n0_ n1_ n2_ n3_ n4_ n5_ n6_ n7_ n8_; (try clear hb); (try clear hb2); (try clear hk); (try clear hi); (try clear ho0)) | (go_at_call 27; (with_reducible refine (keys_Names.calls _ _ t262 a1 t316 _ ?side1 ?side2 A85.out).mono ?_); (case side1 => repeat (first | exact (Kd.N_reads' HO_9.out).2.2 | (with_reducible refine Kd.C_alloc ?_ _) | (with_reducible refine Kd.C_drewN ?_ _) | (with_reducible refine Kd.C_drew ?_))); (case side2 => exact (Kd.N_reads' HO_9.out).2.1); rintro e w92 ⟨v317, rfl, ho0, hb⟩; have n0_ := Aside0.mk (Kd.N_elder' (nv HO_9.out) (Kd.R_base ho0) hb); have n1_ := Aside0.mk (Kd.N_elder' (nv HO_12.out) (Kd.R_base ho0) hb); have n2_ := Aside0.mk (Kd.V_elder' (vv HO_290007.out) (Kd.R_base ho0) hb); have n3_ := Aside0.mk (Kd.V_elder' (vv HO_302007.out) (Kd.R_base ho0) hb); have n4_ := Aside0.mk (Kd.N_elder' (nv HO311.out) (Kd.R_base ho0) hb); have n5_ := Aside0.mk (Kd.R_elder' (rv HO315.out) (Kd.R_base ho0) hb); have n6_ := Aside0.mk (Kd.R_lower (Kd.R_new' ho0 (Kd.R_lt (rv HO315.out))) (below_size (by repeat (first | (with_reducible first | exact HB.out | apply below_alloc | apply pw_below_drewN | apply below_drew1 | refine below_set ?_ GE289.out | refine below_set ?_ GE301.out) | exact HB.out)))); have n7_ := Aside0.mk (blk_below (kv BK289.out) hb); have n8_ := Aside0.mk (blk_below (kv BK301.out) hb); have n9_ := Aside0.mk (below_step (by repeat (first | (with_reducible first | exact HB.out | apply below_alloc | apply pw_below_drewN | apply below_drew1 | refine below_set ?_ GE289.out | refine below_set ?_ GE301.out) | exact HB.out)) hb); clear HO_9; clear HO_12; clear HO_290007; clear HO_302007; clear HO311; clear HO315; clear BK289; clear BK301; clear HB; have HO_9 := n0_; have HO_12 := n1_; have HO_290007 := n2_; have HO_302007 := n3_; have HO311 := n4_; have HO315 := n5_; have HO318 := n6_; have BK289 := n7_; have BK301 := n8_; have HB := n9_; clear n0_ n1_ n2_ n3_ n4_ n5_ n6_ n7_ n8_ n9_; (try clear hb); (try clear hb2); (try clear hk); (try clear hi); (try clear ho0); obtain ⟨Ao93, co93, eo93⟩ := Kd.R_slice HO315.out; subst eo93; obtain ⟨Ao94, co94, eo94⟩ := Kd.R_slice HO318.out; subst eo94) | (go_at_call 26; (with_reducible refine (deadeyeref10_Texts.calls kj31 _ _ t313 _ _ t316 t319 _ ?side1 ?side2 ?side3 ?side4 A86.out).mono ?_); (case side1 => repeat (first | exact (Kd.R_reads' HO315.out).2.2 | (with_reducible refine Kd.C_alloc ?_ _) | (with_reducible refine Kd.C_drewN ?_ _) | (with_reducible refine Kd.C_drew ?_))); (case side2 => exact (Kd.R_reads' HO315.out).2.1); (case side3 => repeat (first | exact (Kd.R_reads' HO318.out).2.2 | (with_reducible refine Kd.C_alloc ?_ _) | (with_reducible refine Kd.C_drewN ?_ _) | (with_reducible refine Kd.C_drew ?_))); (case side4 => exact (Kd.R_reads' HO318.out).2.1); rintro e w' ⟨rfl, ⟨nd, rfl⟩⟩; (try first | exact ⟨rfl, _, World.drewN_drewN _ _ _⟩ | exact ⟨rfl, _, Eq.trans (World.drewN_drewN _ _ _) (congrArg (World.drewN _) (Nat.add_assoc _ _ _))⟩))))
         go_ret
         exact ⟨by first | rfl | (simp [errW_none, errW_some] <;> rfl) | (simp [*, errW_none, errW_some] <;> rfl), by repeat (first | (with_reducible first | exact HB.out | apply below_alloc | apply pw_below_drewN | apply below_drew1 | refine below_set ?_ GE289.out | refine below_set ?_ GE301.out) | exact HB.out)⟩
        ·replace c83 := Bool.eq_false_iff.mpr c83
         subst c83
         have H1 : (some false) = some r := by rw [if_neg (show ¬ (false = true) by decide)] at H; exact H
         clear H
         have H := H1
         clear H1
         obtain rfl := Option.some.inj H
         go_wp2_with (first | (go_at_call 24; (with_reducible refine (deadeyelaw10_awake.calls kj31  true _ A79.out).mono ?_); rintro e w95 ⟨rfl, hb⟩; have n0_ := Aside0.mk (Kd.N_below (nv HO_9.out) hb); have n1_ := Aside0.mk (Kd.N_below (nv HO_12.out) hb); have n2_ := Aside0.mk (Kd.V_below (vv HO_290007.out) hb); have n3_ := Aside0.mk (Kd.V_below (vv HO_302007.out) hb); have n4_ := Aside0.mk (blk_below (kv BK289.out) hb); have n5_ := Aside0.mk (blk_below (kv BK301.out) hb); have n6_ := Aside0.mk (below_step (by repeat (first | (with_reducible first | exact HB.out | apply below_alloc | apply pw_below_drewN | apply below_drew1 | refine below_set ?_ GE289.out | refine below_set ?_ GE301.out) | exact HB.out)) hb); clear HO_9; clear HO_12; clear HO_290007; clear HO_302007; clear BK289; clear BK301; clear HB; have HO_9 := n0_; have HO_12 := n1_; have HO_290007 := n2_; have HO_302007 := n3_; have BK289 := n4_; have BK301 := n5_; have HB := n6_; clear n0_ n1_ n2_ n3_ n4_ n5_ n6_; (try clear hb); (try clear hb2); (try clear hk); (try clear hi)) | (go_at_call 32; (with_reducible refine (keys_Live.calls (fun k_ => (k_ ≠ gb289 ∧ k_ ≠ gb301)) _ _ t275 a1 t309 _ ?side1 A81.out).mono ?_); (case side1 => exact Kd.N_V (HO_12.out)); rintro e w96 ⟨v310, rfl, ho0, hb⟩; have n0_ := Aside0.mk (Kd.N_elder' (nv HO_9.out) (Kd.N_base ho0) hb); have n1_ := Aside0.mk (Kd.N_elder' (nv HO_12.out) (Kd.N_base ho0) hb); have n2_ := Aside0.mk (Kd.V_elder' (vv HO_290007.out) (Kd.N_base ho0) hb); have n3_ := Aside0.mk (Kd.V_elder' (vv HO_302007.out) (Kd.N_base ho0) hb); have n4_ := Aside0.mk (Kd.N_lower (Kd.N_mono (ok' := fun k_ => k_ ≠ gb289 ∧ k_ ≠ gb301) ho0 (fun k_ hk_ => ⟨Or.elim hk_ (fun hs_ => hs_.1) (fun hn_ => (Kd.freshB (g := gb289) (o := .cells #[.int .i64 t278, .int .i64 t279, .int .i64 t280, .int .i64 t281, .string t282, .int .i64 t283, .int .u32 t284, .slice Ao38 t285.length co38] 48 (0, 0)) (kv BK289.out) k_ hn_)), Or.elim hk_ (fun hs_ => hs_.2) (fun hn_ => (Kd.freshB (g := gb301) (o := .cells #[.int .i64 t290, .int .i64 t291, .int .i64 t292, .int .i64 t293, .string t294, .int .i64 t295, .int .u32 t296, .slice Ao45 t297.length co45] 48 (0, 0)) (kv BK301.out) k_ hn_))⟩)) (below_size (by repeat (first | (with_reducible first | exact HB.out | apply below_alloc | apply pw_below_drewN | apply below_drew1 | refine below_set ?_ GE289.out | refine below_set ?_ GE301.out) | exact HB.out)))); have n5_ := Aside0.mk (blk_below (kv BK289.out) hb); have n6_ := Aside0.mk (blk_below (kv BK301.out) hb); have n7_ := Aside0.mk (below_step (by repeat (first | (with_reducible first | exact HB.out | apply below_alloc | apply pw_below_drewN | apply below_drew1 | refine below_set ?_ GE289.out | refine below_set ?_ GE301.out) | exact HB.out)) hb); clear HO_9; clear HO_12; clear HO_290007; clear HO_302007; clear BK289; clear BK301; clear HB; have HO_9 := n0_; have HO_12 := n1_; have HO_290007 := n2_; have HO_302007 := n3_; have HO311 := n4_; have BK289 := n5_; have BK301 := n6_; have HB := n7_; clear n0_ n1_ n2_ n3_ n4_ n5_ n6_ n7_; (try clear hb); (try clear hb2); (try clear hk); (try clear hi); (try clear ho0); obtain ⟨Ao97, co97, eo97⟩ := Kd.N_slice HO311.out; subst eo97) | (go_at_call 31; (with_reducible refine (deadeyeref07_SameAll.calls kj31 _ _ t309 _ _ t275 false _ ?side1 ?side2 ?side3 ?side4 A82.out).mono ?_); (case side1 => repeat (first | exact (Kd.N_reads' HO311.out).2.2 | (with_reducible refine Kd.C_alloc ?_ _) | (with_reducible refine Kd.C_drewN ?_ _) | (with_reducible refine Kd.C_drew ?_))); (case side2 => exact (Kd.N_reads' HO311.out).2.1); (case side3 => repeat (first | exact (Kd.N_reads' HO_12.out).2.2 | (with_reducible refine Kd.C_alloc ?_ _) | (with_reducible refine Kd.C_drewN ?_ _) | (with_reducible refine Kd.C_drew ?_))); (case side4 => exact (Kd.N_reads' HO_12.out).2.1); rintro e w98 ⟨rfl, hb⟩; have n0_ := Aside0.mk (Kd.N_below (nv HO_9.out) hb); have n1_ := Aside0.mk (Kd.N_below (nv HO_12.out) hb); have n2_ := Aside0.mk (Kd.V_below (vv HO_290007.out) hb); have n3_ := Aside0.mk (Kd.V_below (vv HO_302007.out) hb); have n4_ := Aside0.mk (Kd.N_below (nv HO311.out) hb); have n5_ := Aside0.mk (blk_below (kv BK289.out) hb); have n6_ := Aside0.mk (blk_below (kv BK301.out) hb); have n7_ := Aside0.mk (below_step (by repeat (first | (with_reducible first | exact HB.out | apply below_alloc | apply pw_below_drewN | apply below_drew1 | refine below_set ?_ GE289.out | refine below_set ?_ GE301.out) | exact HB.out)) hb); clear HO_9; clear HO_12; clear HO_290007; clear HO_302007; clear HO311; clear BK289; clear BK301; clear HB; have HO_9 := n0_; have HO_12 := n1_; have HO_290007 := n2_; have HO_302007 := n3_; have HO311 := n4_; have BK289 := n5_; have BK301 := n6_; have HB := n7_; clear n0_ n1_ n2_ n3_ n4_ n5_ n6_ n7_; (try clear hb); (try clear hb2); (try clear hk); (try clear hi)))
         repeat (go_quiet (first | (go_at_call 24; (with_reducible refine (deadeyelaw10_awake.calls kj31  true _ A79.out).mono ?_); rintro e w95 ⟨rfl, hb⟩; have n0_ := Aside0.mk (Kd.N_below (nv HO_9.out) hb); have n1_ := Aside0.mk (Kd.N_below (nv HO_12.out) hb); have n2_ := Aside0.mk (Kd.V_below (vv HO_290007.out) hb); have n3_ := Aside0.mk (Kd.V_below (vv HO_302007.out) hb); have n4_ := Aside0.mk (blk_below (kv BK289.out) hb); have n5_ := Aside0.mk (blk_below (kv BK301.out) hb); have n6_ := Aside0.mk (below_step (by repeat (first | (with_reducible first | exact HB.out | apply below_alloc | apply pw_below_drewN | apply below_drew1 | refine below_set ?_ GE289.out | refine below_set ?_ GE301.out) | exact HB.out)) hb); clear HO_9; clear HO_12; clear HO_290007; clear HO_302007; clear BK289; clear BK301; clear HB; have HO_9 := n0_; have HO_12 := n1_; have HO_290007 := n2_; have HO_302007 := n3_; have BK289 := n4_; have BK301 := n5_; have HB := n6_; clear n0_ n1_ n2_ n3_ n4_ n5_ n6_; (try clear hb); (try clear hb2); (try clear hk); (try clear hi)) | (go_at_call 32; (with_reducible refine (keys_Live.calls (fun k_ => (k_ ≠ gb289 ∧ k_ ≠ gb301)) _ _ t275 a1 t309 _ ?side1 A81.out).mono ?_); (case side1 => exact Kd.N_V (HO_12.out)); rintro e w96 ⟨v310, rfl, ho0, hb⟩; have n0_ := Aside0.mk (Kd.N_elder' (nv HO_9.out) (Kd.N_base ho0) hb); have n1_ := Aside0.mk (Kd.N_elder' (nv HO_12.out) (Kd.N_base ho0) hb); have n2_ := Aside0.mk (Kd.V_elder' (vv HO_290007.out) (Kd.N_base ho0) hb); have n3_ := Aside0.mk (Kd.V_elder' (vv HO_302007.out) (Kd.N_base ho0) hb); have n4_ := Aside0.mk (Kd.N_lower (Kd.N_mono (ok' := fun k_ => k_ ≠ gb289 ∧ k_ ≠ gb301) ho0 (fun k_ hk_ => ⟨Or.elim hk_ (fun hs_ => hs_.1) (fun hn_ => (Kd.freshB (g := gb289) (o := .cells #[.int .i64 t278, .int .i64 t279, .int .i64 t280, .int .i64 t281, .string t282, .int .i64 t283, .int .u32 t284, .slice Ao38 t285.length co38] 48 (0, 0)) (kv BK289.out) k_ hn_)), Or.elim hk_ (fun hs_ => hs_.2) (fun hn_ => (Kd.freshB (g := gb301) (o := .cells #[.int .i64 t290, .int .i64 t291, .int .i64 t292, .int .i64 t293, .string t294, .int .i64 t295, .int .u32 t296, .slice Ao45 t297.length co45] 48 (0, 0)) (kv BK301.out) k_ hn_))⟩)) (below_size (by repeat (first | (with_reducible first | exact HB.out | apply below_alloc | apply pw_below_drewN | apply below_drew1 | refine below_set ?_ GE289.out | refine below_set ?_ GE301.out) | exact HB.out)))); have n5_ := Aside0.mk (blk_below (kv BK289.out) hb); have n6_ := Aside0.mk (blk_below (kv BK301.out) hb); have n7_ := Aside0.mk (below_step (by repeat (first | (with_reducible first | exact HB.out | apply below_alloc | apply pw_below_drewN | apply below_drew1 | refine below_set ?_ GE289.out | refine below_set ?_ GE301.out) | exact HB.out)) hb); clear HO_9; clear HO_12; clear HO_290007; clear HO_302007; clear BK289; clear BK301; clear HB; have HO_9 := n0_; have HO_12 := n1_; have HO_290007 := n2_; have HO_302007 := n3_; have HO311 := n4_; have BK289 := n5_; have BK301 := n6_; have HB := n7_; clear n0_ n1_ n2_ n3_ n4_ n5_ n6_ n7_; (try clear hb); (try clear hb2); (try clear hk); (try clear hi); (try clear ho0); obtain ⟨Ao97, co97, eo97⟩ := Kd.N_slice HO311.out; subst eo97) | (go_at_call 31; (with_reducible refine (deadeyeref07_SameAll.calls kj31 _ _ t309 _ _ t275 false _ ?side1 ?side2 ?side3 ?side4 A82.out).mono ?_); (case side1 => repeat (first | exact (Kd.N_reads' HO311.out).2.2 | (with_reducible refine Kd.C_alloc ?_ _) | (with_reducible refine Kd.C_drewN ?_ _) | (with_reducible refine Kd.C_drew ?_))); (case side2 => exact (Kd.N_reads' HO311.out).2.1); (case side3 => repeat (first | exact (Kd.N_reads' HO_12.out).2.2 | (with_reducible refine Kd.C_alloc ?_ _) | (with_reducible refine Kd.C_drewN ?_ _) | (with_reducible refine Kd.C_drew ?_))); (case side4 => exact (Kd.N_reads' HO_12.out).2.1); rintro e w98 ⟨rfl, hb⟩; have n0_ := Aside0.mk (Kd.N_below (nv HO_9.out) hb); have n1_ := Aside0.mk (Kd.N_below (nv HO_12.out) hb); have n2_ := Aside0.mk (Kd.V_below (vv HO_290007.out) hb); have n3_ := Aside0.mk (Kd.V_below (vv HO_302007.out) hb); have n4_ := Aside0.mk (Kd.N_below (nv HO311.out) hb); have n5_ := Aside0.mk (blk_below (kv BK289.out) hb); have n6_ := Aside0.mk (blk_below (kv BK301.out) hb); have n7_ := Aside0.mk (below_step (by repeat (first | (with_reducible first | exact HB.out | apply below_alloc | apply pw_below_drewN | apply below_drew1 | refine below_set ?_ GE289.out | refine below_set ?_ GE301.out) | exact HB.out)) hb); clear HO_9; clear HO_12; clear HO_290007; clear HO_302007; clear HO311; clear BK289; clear BK301; clear HB; have HO_9 := n0_; have HO_12 := n1_; have HO_290007 := n2_; have HO_302007 := n3_; have HO311 := n4_; have BK289 := n5_; have BK301 := n6_; have HB := n7_; clear n0_ n1_ n2_ n3_ n4_ n5_ n6_ n7_; (try clear hb); (try clear hb2); (try clear hk); (try clear hi))); try go_wp2_with (first | (go_at_call 24; (with_reducible refine (deadeyelaw10_awake.calls kj31  true _ A79.out).mono ?_); rintro e w95 ⟨rfl, hb⟩; have n0_ := Aside0.mk (Kd.N_below (nv HO_9.out) hb); have n1_ := Aside0.mk (Kd.N_below (nv HO_12.out) hb); have n2_ := Aside0.mk (Kd.V_below (vv HO_290007.out) hb); have n3_ := Aside0.mk (Kd.V_below (vv HO_302007.out) hb); have n4_ := Aside0.mk (blk_below (kv BK289.out) hb); have n5_ := Aside0.mk (blk_below (kv BK301.out) hb); have n6_ := Aside0.mk (below_step (by repeat (first | (with_reducible first | exact HB.out | apply below_alloc | apply pw_below_drewN | apply below_drew1 | refine below_set ?_ GE289.out | refine below_set ?_ GE301.out) | exact HB.out)) hb); clear HO_9; clear HO_12; clear HO_290007; clear HO_302007; clear BK289; clear BK301; clear HB; have HO_9 := n0_; have HO_12 := n1_; have HO_290007 := n2_; have HO_302007 := n3_; have BK289 := n4_; have BK301 := n5_; have HB := n6_; clear n0_ n1_ n2_ n3_ n4_ n5_ n6_; (try clear hb); (try clear hb2); (try clear hk); (try clear hi)) | (go_at_call 32; (with_reducible refine (keys_Live.calls (fun k_ => (k_ ≠ gb289 ∧ k_ ≠ gb301)) _ _ t275 a1 t309 _ ?side1 A81.out).mono ?_); (case side1 => exact Kd.N_V (HO_12.out)); rintro e w96 ⟨v310, rfl, ho0, hb⟩; have n0_ := Aside0.mk (Kd.N_elder' (nv HO_9.out) (Kd.N_base ho0) hb); have n1_ := Aside0.mk (Kd.N_elder' (nv HO_12.out) (Kd.N_base ho0) hb); have n2_ := Aside0.mk (Kd.V_elder' (vv HO_290007.out) (Kd.N_base ho0) hb); have n3_ := Aside0.mk (Kd.V_elder' (vv HO_302007.out) (Kd.N_base ho0) hb); have n4_ := Aside0.mk (Kd.N_lower (Kd.N_mono (ok' := fun k_ => k_ ≠ gb289 ∧ k_ ≠ gb301) ho0 (fun k_ hk_ => ⟨Or.elim hk_ (fun hs_ => hs_.1) (fun hn_ => (Kd.freshB (g := gb289) (o := .cells #[.int .i64 t278, .int .i64 t279, .int .i64 t280, .int .i64 t281, .string t282, .int .i64 t283, .int .u32 t284, .slice Ao38 t285.length co38] 48 (0, 0)) (kv BK289.out) k_ hn_)), Or.elim hk_ (fun hs_ => hs_.2) (fun hn_ => (Kd.freshB (g := gb301) (o := .cells #[.int .i64 t290, .int .i64 t291, .int .i64 t292, .int .i64 t293, .string t294, .int .i64 t295, .int .u32 t296, .slice Ao45 t297.length co45] 48 (0, 0)) (kv BK301.out) k_ hn_))⟩)) (below_size (by repeat (first | (with_reducible first | exact HB.out | apply below_alloc | apply pw_below_drewN | apply below_drew1 | refine below_set ?_ GE289.out | refine below_set ?_ GE301.out) | exact HB.out)))); have n5_ := Aside0.mk (blk_below (kv BK289.out) hb); have n6_ := Aside0.mk (blk_below (kv BK301.out) hb); have n7_ := Aside0.mk (below_step (by repeat (first | (with_reducible first | exact HB.out | apply below_alloc | apply pw_below_drewN | apply below_drew1 | refine below_set ?_ GE289.out | refine below_set ?_ GE301.out) | exact HB.out)) hb); clear HO_9; clear HO_12; clear HO_290007; clear HO_302007; clear BK289; clear BK301; clear HB; have HO_9 := n0_; have HO_12 := n1_; have HO_290007 := n2_; have HO_302007 := n3_; have HO311 := n4_; have BK289 := n5_; have BK301 := n6_; have HB := n7_; clear n0_ n1_ n2_ n3_ n4_ n5_ n6_ n7_; (try clear hb); (try clear hb2); (try clear hk); (try clear hi); (try clear ho0); obtain ⟨Ao97, co97, eo97⟩ := Kd.N_slice HO311.out; subst eo97) | (go_at_call 31; (with_reducible refine (deadeyeref07_SameAll.calls kj31 _ _ t309 _ _ t275 false _ ?side1 ?side2 ?side3 ?side4 A82.out).mono ?_); (case side1 => repeat (first | exact (Kd.N_reads' HO311.out).2.2 | (with_reducible refine Kd.C_alloc ?_ _) | (with_reducible refine Kd.C_drewN ?_ _) | (with_reducible refine Kd.C_drew ?_))); (case side2 => exact (Kd.N_reads' HO311.out).2.1); (case side3 => repeat (first | exact (Kd.N_reads' HO_12.out).2.2 | (with_reducible refine Kd.C_alloc ?_ _) | (with_reducible refine Kd.C_drewN ?_ _) | (with_reducible refine Kd.C_drew ?_))); (case side4 => exact (Kd.N_reads' HO_12.out).2.1); rintro e w98 ⟨rfl, hb⟩; have n0_ := Aside0.mk (Kd.N_below (nv HO_9.out) hb); have n1_ := Aside0.mk (Kd.N_below (nv HO_12.out) hb); have n2_ := Aside0.mk (Kd.V_below (vv HO_290007.out) hb); have n3_ := Aside0.mk (Kd.V_below (vv HO_302007.out) hb); have n4_ := Aside0.mk (Kd.N_below (nv HO311.out) hb); have n5_ := Aside0.mk (blk_below (kv BK289.out) hb); have n6_ := Aside0.mk (blk_below (kv BK301.out) hb); have n7_ := Aside0.mk (below_step (by repeat (first | (with_reducible first | exact HB.out | apply below_alloc | apply pw_below_drewN | apply below_drew1 | refine below_set ?_ GE289.out | refine below_set ?_ GE301.out) | exact HB.out)) hb); clear HO_9; clear HO_12; clear HO_290007; clear HO_302007; clear HO311; clear BK289; clear BK301; clear HB; have HO_9 := n0_; have HO_12 := n1_; have HO_290007 := n2_; have HO_302007 := n3_; have HO311 := n4_; have BK289 := n5_; have BK301 := n6_; have HB := n7_; clear n0_ n1_ n2_ n3_ n4_ n5_ n6_ n7_; (try clear hb); (try clear hb2); (try clear hk); (try clear hi))))
         go_ret
         exact ⟨by first | rfl | (simp [errW_none, errW_some] <;> rfl) | (simp [*, errW_none, errW_some] <;> rfl), by repeat (first | (with_reducible first | exact HB.out | apply below_alloc | apply pw_below_drewN | apply below_drew1 | refine below_set ?_ GE289.out | refine below_set ?_ GE301.out) | exact HB.out)⟩
       ·replace c80 := Bool.eq_false_iff.mpr c80
        subst c80
        have H1 : (some false) = some r := by rw [if_neg (show ¬ (false = true) by decide)] at H; exact H
        clear H
        have H := H1
        clear H1
        obtain rfl := Option.some.inj H
        go_wp2_with (first | (go_at_call 24; (with_reducible refine (deadeyelaw10_awake.calls kj31  false _ A79.out).mono ?_); rintro e w99 ⟨rfl, hb⟩; have n0_ := Aside0.mk (Kd.N_below (nv HO_9.out) hb); have n1_ := Aside0.mk (Kd.N_below (nv HO_12.out) hb); have n2_ := Aside0.mk (Kd.V_below (vv HO_290007.out) hb); have n3_ := Aside0.mk (Kd.V_below (vv HO_302007.out) hb); have n4_ := Aside0.mk (blk_below (kv BK289.out) hb); have n5_ := Aside0.mk (blk_below (kv BK301.out) hb); have n6_ := Aside0.mk (below_step (by repeat (first | (with_reducible first | exact HB.out | apply below_alloc | apply pw_below_drewN | apply below_drew1 | refine below_set ?_ GE289.out | refine below_set ?_ GE301.out) | exact HB.out)) hb); clear HO_9; clear HO_12; clear HO_290007; clear HO_302007; clear BK289; clear BK301; clear HB; have HO_9 := n0_; have HO_12 := n1_; have HO_290007 := n2_; have HO_302007 := n3_; have BK289 := n4_; have BK301 := n5_; have HB := n6_; clear n0_ n1_ n2_ n3_ n4_ n5_ n6_; (try clear hb); (try clear hb2); (try clear hk); (try clear hi)))
        repeat (go_quiet (first | (go_at_call 24; (with_reducible refine (deadeyelaw10_awake.calls kj31  false _ A79.out).mono ?_); rintro e w99 ⟨rfl, hb⟩; have n0_ := Aside0.mk (Kd.N_below (nv HO_9.out) hb); have n1_ := Aside0.mk (Kd.N_below (nv HO_12.out) hb); have n2_ := Aside0.mk (Kd.V_below (vv HO_290007.out) hb); have n3_ := Aside0.mk (Kd.V_below (vv HO_302007.out) hb); have n4_ := Aside0.mk (blk_below (kv BK289.out) hb); have n5_ := Aside0.mk (blk_below (kv BK301.out) hb); have n6_ := Aside0.mk (below_step (by repeat (first | (with_reducible first | exact HB.out | apply below_alloc | apply pw_below_drewN | apply below_drew1 | refine below_set ?_ GE289.out | refine below_set ?_ GE301.out) | exact HB.out)) hb); clear HO_9; clear HO_12; clear HO_290007; clear HO_302007; clear BK289; clear BK301; clear HB; have HO_9 := n0_; have HO_12 := n1_; have HO_290007 := n2_; have HO_302007 := n3_; have BK289 := n4_; have BK301 := n5_; have HB := n6_; clear n0_ n1_ n2_ n3_ n4_ n5_ n6_; (try clear hb); (try clear hb2); (try clear hk); (try clear hi))); try go_wp2_with (first | (go_at_call 24; (with_reducible refine (deadeyelaw10_awake.calls kj31  false _ A79.out).mono ?_); rintro e w99 ⟨rfl, hb⟩; have n0_ := Aside0.mk (Kd.N_below (nv HO_9.out) hb); have n1_ := Aside0.mk (Kd.N_below (nv HO_12.out) hb); have n2_ := Aside0.mk (Kd.V_below (vv HO_290007.out) hb); have n3_ := Aside0.mk (Kd.V_below (vv HO_302007.out) hb); have n4_ := Aside0.mk (blk_below (kv BK289.out) hb); have n5_ := Aside0.mk (blk_below (kv BK301.out) hb); have n6_ := Aside0.mk (below_step (by repeat (first | (with_reducible first | exact HB.out | apply below_alloc | apply pw_below_drewN | apply below_drew1 | refine below_set ?_ GE289.out | refine below_set ?_ GE301.out) | exact HB.out)) hb); clear HO_9; clear HO_12; clear HO_290007; clear HO_302007; clear BK289; clear BK301; clear HB; have HO_9 := n0_; have HO_12 := n1_; have HO_290007 := n2_; have HO_302007 := n3_; have BK289 := n4_; have BK301 := n5_; have HB := n6_; clear n0_ n1_ n2_ n3_ n4_ n5_ n6_; (try clear hb); (try clear hb2); (try clear hk); (try clear hi))))
        go_ret
        exact ⟨by first | rfl | (simp [errW_none, errW_some] <;> rfl) | (simp [*, errW_none, errW_some] <;> rfl), by repeat (first | (with_reducible first | exact HB.out | apply below_alloc | apply pw_below_drewN | apply below_drew1 | refine below_set ?_ GE289.out | refine below_set ?_ GE301.out) | exact HB.out)⟩

end Go.Proofs.Yteeeiaggkdlolaa.Ky
