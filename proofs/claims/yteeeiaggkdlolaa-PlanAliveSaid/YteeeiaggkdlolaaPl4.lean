-- Lean text written by a program of this session (xp) for this seat's functions
import Derived.Test.YteeeiaggkdlolaaPl0
import Derived.Test.YteeeiaggkdlolaaPl3
import Derived.Test.YteeeiaggkdlolaaPlk
namespace Go.Proofs.Yteeeiaggkdlolaa.Pl
open Go.RowKit Go.Proofs.YteeeiaggkdlolaaW.PrintWords Go.Proofs.YteeeiaggkdlolaaW.PrintLast Go.Proofs.YteeeiaggkdlolaaW.PrintMore
attribute [local go_sem] max2_int min2_int max_two min_two max_three min_three max_four min_four   -- for this text's walks alone
set_option linter.unusedVariables false
set_option linter.unusedSimpArgs false

/-! ### deadeyelaw17_PlanLasts: function 3 -/
def deadeyelaw17_PlanLasts.l0 : Nat → List (S26) → Int → Bool → Int → Option (Bool)
  | 0, _, _, _, _ => none
  | k + 1, x0, x3, x4, x5 => if x5 < (x0.length : Int) then (if x4 = true then (if 0 ≤ x5 then (if ((rd_T26 x0 x5).f1) < x3 then (some false) else (deadeyelaw17_PlanLasts.l0 k x0 x3 true (wrap64 (x5 + 1)))) else (none)) else (if 0 ≤ x5 then (if ((rd_T26 x0 x5).f1) < x3 then (some false) else (deadeyelaw17_PlanLasts.l0 k x0 x3 (((rd_T26 x0 x5).f1) == x3) (wrap64 (x5 + 1)))) else (none))) else ((deadeyelaw17_awake.f k).bind fun t183 => (if t183 = true then (some x4) else (some false)))
def deadeyelaw17_PlanLasts.f (k : Nat) (l0 : List (S26)) : Option (Bool) := if (l0.length : Int) = 0 then ((deadeyelaw17_awake.f k).bind fun t177 => (if t177 = true then ((plan_Last.f l0).bind fun t178 => (some (t178 == 0))) else (some false))) else ((plan_Last.f l0).bind fun t179 => (deadeyelaw17_PlanLasts.l0 k l0 t179 false 0))
theorem deadeyelaw17_PlanLasts.mono_l : ∀ k, (∀ y0 y1 y2 y3, LeO (deadeyelaw17_PlanLasts.l0 k y0 y1 y2 y3) (deadeyelaw17_PlanLasts.l0 (k + 1) y0 y1 y2 y3))
  | 0 => fun _ _ _ _ r h => by simp [deadeyelaw17_PlanLasts.l0] at h
  | k + 1 => by
    have ih0 := deadeyelaw17_PlanLasts.mono_l k
    · intro y0 y1 y2 y3
      unfold deadeyelaw17_PlanLasts.l0
      repeat' first
      | (with_reducible exact ih0 _ _ _ _)
      | (with_reducible exact deadeyelaw17_awake.mono _)
      | (with_reducible exact LeO.refl _)
      | (with_reducible exact LeO.none _)
      | (with_reducible refine LeO.ite ?_ ?_)
      | (with_reducible refine LeO.bind ?_ (fun _ => ?_))
      | exact ih0 _ _ _ _
      | exact deadeyelaw17_awake.mono _
      | exact LeO.none _
      | refine LeO.ite ?_ ?_
      | refine LeO.bind ?_ (fun _ => ?_)
theorem deadeyelaw17_PlanLasts.mono : ∀ a0 k, LeO (deadeyelaw17_PlanLasts.f k a0) (deadeyelaw17_PlanLasts.f (k + 1) a0) := by
  intro a0 k
  have ih0 := deadeyelaw17_PlanLasts.mono_l k
  unfold deadeyelaw17_PlanLasts.f
  repeat' first
      | (with_reducible exact ih0 _ _ _ _)
      | (with_reducible exact deadeyelaw17_awake.mono _)
      | (with_reducible exact LeO.refl _)
      | (with_reducible exact LeO.none _)
      | (with_reducible refine LeO.ite ?_ ?_)
      | (with_reducible refine LeO.bind ?_ (fun _ => ?_))
      | exact ih0 _ _ _ _
      | exact deadeyelaw17_awake.mono _
      | exact LeO.none _
      | refine LeO.ite ?_ ?_
      | refine LeO.bind ?_ (fun _ => ?_)
set_option maxHeartbeats 8000000 in
set_option maxRecDepth 100000 in
theorem deadeyelaw17_PlanLasts.calls (k : Nat) (A0 : Option Addr) (c0 : Nat) (l0 : List (S26)) (r : Bool) (w : World) (hr0 : Kd.C k26 w A0 l0.length l0) (hc0 : l0.length ≤ c0) (h : deadeyelaw17_PlanLasts.f k l0 = some r) :
    Calls Try.prog 3 #[.slice A0 l0.length c0] w fun e w' => e = .returned (.bool r) ∧ Below w.heap.size w w' := by
  have HR0 := Aside0.mk hr0
  have HC0 := Aside0.mk hc0
  clear hr0 hc0
  have HB := Aside0.mk (Below.refl w.heap.size w)
  have H : (if (l0.length : Int) = 0 then ((deadeyelaw17_awake.f k).bind fun t177 => (if t177 = true then ((plan_Last.f l0).bind fun t178 => (some (t178 == 0))) else (some false))) else ((plan_Last.f l0).bind fun t179 => (deadeyelaw17_PlanLasts.l0 k l0 t179 false 0))) = some r := h
  clear h
  by_cases c2 : (l0.length : Int) = 0
  · rw [if_pos c2] at H
    have c2b0 : ((l0.length : Int) == 0) = true := beq_iff_eq.mpr c2
    have c2b1 : ((l0.length : Int) != 0) = false := bne_eq_false_iff_eq.mpr c2
    clear c2
    replace H := Option.bind_eq_some_iff.mp H
    obtain ⟨t177, A30, H⟩ := H
    replace H : (if t177 = true then ((plan_Last.f l0).bind fun t178 => (some (t178 == 0))) else (some false)) = some r := H
    have A3 := Aside0.mk A30
    clear A30
    by_cases c4 : t177 = true
    · subst c4
      have H1 : ((plan_Last.f l0).bind fun t178 => (some (t178 == 0))) = some r := by rw [if_pos rfl] at H; exact H
      clear H
      have H := H1
      clear H1
      replace H := Option.bind_eq_some_iff.mp H
      obtain ⟨t178, A50, H⟩ := H
      replace H : (some (t178 == 0)) = some r := H
      have A5 := Aside0.mk A50
      clear A50
      obtain rfl := Option.some.inj H
      go_enter Try.func3, Try.ntmps3
      go_wp2_with (first | ((with_reducible refine gate_callee (f := 12) rfl ?_); refine goesL_ (some 9) rfl rfl Try.func12 (by kernel_rfl) rfl #[] rfl (by (try simp only [List.map_toArray, List.map_cons, List.map_nil]); first | done | rfl | (simp only [List.length_drop, List.length_take]; rfl)) ?_; (with_reducible refine (deadeyelaw17_awake.calls k  true _ A3.out).mono ?_); rintro e w6 ⟨rfl, hb⟩; refine ⟨_, rfl, ?_⟩; have n0_ := Aside0.mk (below_step (by repeat (first | (with_reducible first | exact HB.out | apply below_alloc | apply pw_below_drewN | apply below_drew1) | exact HB.out)) hb); clear HB; have HB := n0_; clear n0_; (try clear hb); (try clear hb2); (try clear hk); (try clear hi)) | (go_at_call 13; (with_reducible refine (plan_Last.calls _ _ l0 t178 _ ?side1 ?side2 A5.out).mono ?_); (case side1 => repeat (first | exact (Kd.C_below HR0.out HB.out) | (with_reducible refine Kd.C_alloc ?_ _) | (with_reducible refine Kd.C_drewN ?_ _) | (with_reducible refine Kd.C_drew ?_))); (case side2 => exact HC0.out); rintro e w7 ⟨rfl, hb⟩; have n0_ := Aside0.mk (below_step (by repeat (first | (with_reducible first | exact HB.out | apply below_alloc | apply pw_below_drewN | apply below_drew1) | exact HB.out)) hb); clear HB; have HB := n0_; clear n0_; (try clear hb); (try clear hb2); (try clear hk); (try clear hi)))
      go_ret
      exact ⟨by first | rfl | (simp [errW_none, errW_some] <;> rfl) | (simp [*, errW_none, errW_some] <;> rfl), by repeat (first | (with_reducible first | exact HB.out | apply below_alloc | apply pw_below_drewN | apply below_drew1) | exact HB.out)⟩
    · replace c4 := Bool.eq_false_iff.mpr c4
      subst c4
      have H1 : (some false) = some r := by rw [if_neg (show ¬ (false = true) by decide)] at H; exact H
      clear H
      have H := H1
      clear H1
      obtain rfl := Option.some.inj H
      go_enter Try.func3, Try.ntmps3
      go_wp2_with (first | ((with_reducible refine gate_callee (f := 12) rfl ?_); refine goesL_ (some 9) rfl rfl Try.func12 (by kernel_rfl) rfl #[] rfl (by (try simp only [List.map_toArray, List.map_cons, List.map_nil]); first | done | rfl | (simp only [List.length_drop, List.length_take]; rfl)) ?_; (with_reducible refine (deadeyelaw17_awake.calls k  false _ A3.out).mono ?_); rintro e w8 ⟨rfl, hb⟩; refine ⟨_, rfl, ?_⟩; have n0_ := Aside0.mk (below_step (by repeat (first | (with_reducible first | exact HB.out | apply below_alloc | apply pw_below_drewN | apply below_drew1) | exact HB.out)) hb); clear HB; have HB := n0_; clear n0_; (try clear hb); (try clear hb2); (try clear hk); (try clear hi)))
      go_ret
      exact ⟨by first | rfl | (simp [errW_none, errW_some] <;> rfl) | (simp [*, errW_none, errW_some] <;> rfl), by repeat (first | (with_reducible first | exact HB.out | apply below_alloc | apply pw_below_drewN | apply below_drew1) | exact HB.out)⟩
  · rw [if_neg c2] at H
    have c2b0 : ((l0.length : Int) == 0) = false := beq_eq_false_iff_ne.mpr c2
    have c2b1 : ((l0.length : Int) != 0) = true := bne_iff_ne.mpr c2
    have c2b2 : ¬ (l0 = []) := fun h_ => c2 (by rw [h_]; rfl)
    replace H := Option.bind_eq_some_iff.mp H
    obtain ⟨t179, A90, H⟩ := H
    replace H : (deadeyelaw17_PlanLasts.l0 k l0 t179 false 0) = some r := H
    have A9 := Aside0.mk A90
    clear A90
    have H' := Aside0.mk H
    clear H
    go_enter Try.func3, Try.ntmps3
    go_wp2_with (first | ((with_reducible refine gate_callee (f := 13) rfl ?_); refine goesL_ (some 16) rfl rfl Try.func13 (by kernel_rfl) rfl #[.slice A0 l0.length c0] rfl (by (try simp only [List.map_toArray, List.map_cons, List.map_nil]); first | done | rfl | (simp only [List.length_drop, List.length_take]; rfl)) ?_; (with_reducible refine (plan_Last.calls _ _ l0 t179 _ ?side1 ?side2 A9.out).mono ?_); (case side1 => repeat (first | exact HR0.out | (with_reducible refine Kd.C_alloc ?_ _) | (with_reducible refine Kd.C_drewN ?_ _) | (with_reducible refine Kd.C_drew ?_))); (case side2 => exact HC0.out); rintro e w10 ⟨rfl, hb⟩; refine ⟨_, rfl, ?_⟩; have n0_ := Aside0.mk (below_step (by repeat (first | (with_reducible first | exact HB.out | apply below_alloc | apply pw_below_drewN | apply below_drew1) | exact HB.out)) hb); clear HB; have HB := n0_; clear n0_; (try clear hb); (try clear hb2); (try clear hk); (try clear hi)))
    go_loopg [4, 5] k (fun kq v4 v5 w' => ∃ (x4_1 : Bool) (x5_1 : Int), v4 = .bool x4_1 ∧ v5 = .int .i64 x5_1 ∧ Aside0 (deadeyelaw17_PlanLasts.l0 kq l0 t179 x4_1 x5_1 = some r) ∧ Aside0 (kq ≤ k) ∧ Aside0 (Below w.heap.size w w'))
    case atStart => exact ⟨(false), (0), (by first | rfl | (simp; done) | (simp [*]; done)), (by first | rfl | (simp; done) | (simp [*]; done)), H', ⟨Nat.le_refl _⟩, ⟨by repeat (first | (with_reducible first | exact HB.out | apply below_alloc | apply pw_below_drewN | apply below_drew1) | exact HB.out)⟩⟩
    case round =>
      clear H'
      try clear c1
      try clear c2
      try clear c2b0
      try clear c2b1
      try clear c2b2
      try clear p2
      try clear c3
      try clear c4
      obtain ⟨x4_1, x5_1, rfl, rfl, HA, HK1, HB⟩ := hrel
      cases gk with
      | zero => exact absurd HA.out (by simp [deadeyelaw17_PlanLasts.l0])
      | succ k1 =>
        have H := HA.out
        clear HA
        simp only [deadeyelaw17_PlanLasts.l0] at H
        by_cases c11 : x5_1 < (l0.length : Int)
        · rw [if_pos c11] at H
          have c11b0 : decide (x5_1 < (l0.length : Int)) = true := decide_eq_true c11
          clear c11
          by_cases c12 : x4_1 = true
          · subst c12
            have H1 : (if 0 ≤ x5_1 then (if ((rd_T26 l0 x5_1).f1) < t179 then (some false) else (deadeyelaw17_PlanLasts.l0 k1 l0 t179 true (wrap64 (x5_1 + 1)))) else (none)) = some r := by rw [if_pos rfl] at H; exact H
            clear H
            have H := H1
            clear H1
            by_cases c13 : 0 ≤ x5_1
            · rw [if_pos c13] at H
              have c13b0 : decide (0 ≤ x5_1) = true := decide_eq_true c13
              clear c13
              by_cases c14 : ((rd_T26 l0 x5_1).f1) < t179
              · rw [if_pos c14] at H
                have c14b0 : decide (((rd_T26 l0 x5_1).f1) < t179) = true := decide_eq_true c14
                clear c14
                obtain rfl := Option.some.inj H
                have p180 : 0 ≤ (x5_1 : Int) := of_decide_eq_true (by first | (with_reducible assumption) | assumption)
                have q180 : x5_1 < (l0.length : Int) := of_decide_eq_true (by first | (with_reducible assumption) | assumption)
                obtain ⟨ad180, e180, hx180_0, hx180_1⟩ := at_T26 HR0.out x5_1 p180 q180
                cases e180
                replace hx180_0 := (HB.out.cell (World.block_lt_of_cell? w _ hx180_0)).trans hx180_0
                replace hx180_1 := (HB.out.cell (World.block_lt_of_cell? w _ hx180_1)).trans hx180_1
                replace p180 := eq_true p180
                replace q180 := eq_true q180
                go_wp2
                go_ret
                exact ⟨by first | rfl | (simp [errW_none, errW_some] <;> rfl) | (simp [*, errW_none, errW_some] <;> rfl), by repeat (first | (with_reducible first | exact HB.out | apply below_alloc | apply pw_below_drewN | apply below_drew1) | exact HB.out)⟩
              · rw [if_neg c14] at H
                have c14b0 : decide (((rd_T26 l0 x5_1).f1) < t179) = false := decide_eq_false c14
                clear c14
                have H' := Aside0.mk H
                clear H
                have p180 : 0 ≤ (x5_1 : Int) := of_decide_eq_true (by first | (with_reducible assumption) | assumption)
                have q180 : x5_1 < (l0.length : Int) := of_decide_eq_true (by first | (with_reducible assumption) | assumption)
                obtain ⟨ad180, e180, hx180_0, hx180_1⟩ := at_T26 HR0.out x5_1 p180 q180
                cases e180
                replace hx180_0 := (HB.out.cell (World.block_lt_of_cell? w _ hx180_0)).trans hx180_0
                replace hx180_1 := (HB.out.cell (World.block_lt_of_cell? w _ hx180_1)).trans hx180_1
                replace p180 := eq_true p180
                replace q180 := eq_true q180
                go_wp2
                go_roundg k1
                case measure => have := HK1.out; omega
                case rel => exact ⟨(true), (wrap64 (x5_1 + 1)), (by first | rfl | (simp; done) | (simp [*]; done)), (by first | rfl | (simp; done) | (simp [*]; done)), H', ⟨by have := HK1.out; omega⟩, ⟨by repeat (first | (with_reducible first | exact HB.out | apply below_alloc | apply pw_below_drewN | apply below_drew1) | exact HB.out)⟩⟩
            · rw [if_neg c13] at H
              exact absurd H (by simp)
          · replace c12 := Bool.eq_false_iff.mpr c12
            subst c12
            have H1 : (if 0 ≤ x5_1 then (if ((rd_T26 l0 x5_1).f1) < t179 then (some false) else (deadeyelaw17_PlanLasts.l0 k1 l0 t179 (((rd_T26 l0 x5_1).f1) == t179) (wrap64 (x5_1 + 1)))) else (none)) = some r := by rw [if_neg (show ¬ (false = true) by decide)] at H; exact H
            clear H
            have H := H1
            clear H1
            by_cases c15 : 0 ≤ x5_1
            · rw [if_pos c15] at H
              have c15b0 : decide (0 ≤ x5_1) = true := decide_eq_true c15
              clear c15
              by_cases c16 : ((rd_T26 l0 x5_1).f1) < t179
              · rw [if_pos c16] at H
                have c16b0 : decide (((rd_T26 l0 x5_1).f1) < t179) = true := decide_eq_true c16
                clear c16
                obtain rfl := Option.some.inj H
                have p181 : 0 ≤ (x5_1 : Int) := of_decide_eq_true (by first | (with_reducible assumption) | assumption)
                have q181 : x5_1 < (l0.length : Int) := of_decide_eq_true (by first | (with_reducible assumption) | assumption)
                obtain ⟨ad181, e181, hx181_0, hx181_1⟩ := at_T26 HR0.out x5_1 p181 q181
                cases e181
                replace hx181_0 := (HB.out.cell (World.block_lt_of_cell? w _ hx181_0)).trans hx181_0
                replace hx181_1 := (HB.out.cell (World.block_lt_of_cell? w _ hx181_1)).trans hx181_1
                replace p181 := eq_true p181
                replace q181 := eq_true q181
                have p182 : 0 ≤ (x5_1 : Int) := of_decide_eq_true (by first | (with_reducible assumption) | assumption)
                have q182 : x5_1 < (l0.length : Int) := of_decide_eq_true (by first | (with_reducible assumption) | assumption)
                obtain ⟨ad182, e182, hx182_0, hx182_1⟩ := at_T26 HR0.out x5_1 p182 q182
                obtain rfl : ad181 = ad182 := (by injection e182)
                replace hx182_0 := (HB.out.cell (World.block_lt_of_cell? w _ hx182_0)).trans hx182_0
                replace hx182_1 := (HB.out.cell (World.block_lt_of_cell? w _ hx182_1)).trans hx182_1
                replace p182 := eq_true p182
                replace q182 := eq_true q182
                go_wp2
                go_ret
                exact ⟨by first | rfl | (simp [errW_none, errW_some] <;> rfl) | (simp [*, errW_none, errW_some] <;> rfl), by repeat (first | (with_reducible first | exact HB.out | apply below_alloc | apply pw_below_drewN | apply below_drew1) | exact HB.out)⟩
              · rw [if_neg c16] at H
                have c16b0 : decide (((rd_T26 l0 x5_1).f1) < t179) = false := decide_eq_false c16
                clear c16
                have H' := Aside0.mk H
                clear H
                have p181 : 0 ≤ (x5_1 : Int) := of_decide_eq_true (by first | (with_reducible assumption) | assumption)
                have q181 : x5_1 < (l0.length : Int) := of_decide_eq_true (by first | (with_reducible assumption) | assumption)
                obtain ⟨ad181, e181, hx181_0, hx181_1⟩ := at_T26 HR0.out x5_1 p181 q181
                cases e181
                replace hx181_0 := (HB.out.cell (World.block_lt_of_cell? w _ hx181_0)).trans hx181_0
                replace hx181_1 := (HB.out.cell (World.block_lt_of_cell? w _ hx181_1)).trans hx181_1
                replace p181 := eq_true p181
                replace q181 := eq_true q181
                have p182 : 0 ≤ (x5_1 : Int) := of_decide_eq_true (by first | (with_reducible assumption) | assumption)
                have q182 : x5_1 < (l0.length : Int) := of_decide_eq_true (by first | (with_reducible assumption) | assumption)
                obtain ⟨ad182, e182, hx182_0, hx182_1⟩ := at_T26 HR0.out x5_1 p182 q182
                obtain rfl : ad181 = ad182 := (by injection e182)
                replace hx182_0 := (HB.out.cell (World.block_lt_of_cell? w _ hx182_0)).trans hx182_0
                replace hx182_1 := (HB.out.cell (World.block_lt_of_cell? w _ hx182_1)).trans hx182_1
                replace p182 := eq_true p182
                replace q182 := eq_true q182
                go_wp2
                go_roundg k1
                case measure => have := HK1.out; omega
                case rel => exact ⟨((((rd_T26 l0 x5_1).f1) == t179)), (wrap64 (x5_1 + 1)), (by first | rfl | (simp; done) | (simp [*]; done)), (by first | rfl | (simp; done) | (simp [*]; done)), H', ⟨by have := HK1.out; omega⟩, ⟨by repeat (first | (with_reducible first | exact HB.out | apply below_alloc | apply pw_below_drewN | apply below_drew1) | exact HB.out)⟩⟩
            · rw [if_neg c15] at H
              exact absurd H (by simp)
        · rw [if_neg c11] at H
          have c11b0 : decide (x5_1 < (l0.length : Int)) = false := decide_eq_false c11
          clear c11
          replace H := Option.bind_eq_some_iff.mp H
          obtain ⟨t183, A170, H⟩ := H
          replace H : (if t183 = true then (some x4_1) else (some false)) = some r := H
          have A17 := Aside0.mk A170
          clear A170
          by_cases c18 : t183 = true
          · subst c18
            have H1 : (some x4_1) = some r := by rw [if_pos rfl] at H; exact H
            clear H
            have H := H1
            clear H1
            obtain rfl := Option.some.inj H
            go_wp2_with (first | ((with_reducible refine gate_callee (f := 12) rfl ?_); refine goesL_ (some 40) rfl rfl Try.func12 (by kernel_rfl) rfl #[] rfl (by (try simp only [List.map_toArray, List.map_cons, List.map_nil]); first | done | rfl | (simp only [List.length_drop, List.length_take]; rfl)) ?_; (with_reducible refine (deadeyelaw17_awake.calls k1  true _ A17.out).mono ?_); rintro e w19 ⟨rfl, hb⟩; refine ⟨_, rfl, ?_⟩; have n0_ := Aside0.mk (below_step (by repeat (first | (with_reducible first | exact HB.out | apply below_alloc | apply pw_below_drewN | apply below_drew1) | exact HB.out)) hb); clear HB; have HB := n0_; clear n0_; (try clear hb); (try clear hb2); (try clear hk); (try clear hi)))
            go_ret
            exact ⟨by first | rfl | (simp [errW_none, errW_some] <;> rfl) | (simp [*, errW_none, errW_some] <;> rfl), by repeat (first | (with_reducible first | exact HB.out | apply below_alloc | apply pw_below_drewN | apply below_drew1) | exact HB.out)⟩
          · replace c18 := Bool.eq_false_iff.mpr c18
            subst c18
            have H1 : (some false) = some r := by rw [if_neg (show ¬ (false = true) by decide)] at H; exact H
            clear H
            have H := H1
            clear H1
            obtain rfl := Option.some.inj H
            go_wp2_with (first | ((with_reducible refine gate_callee (f := 12) rfl ?_); refine goesL_ (some 40) rfl rfl Try.func12 (by kernel_rfl) rfl #[] rfl (by (try simp only [List.map_toArray, List.map_cons, List.map_nil]); first | done | rfl | (simp only [List.length_drop, List.length_take]; rfl)) ?_; (with_reducible refine (deadeyelaw17_awake.calls k1  false _ A17.out).mono ?_); rintro e w20 ⟨rfl, hb⟩; refine ⟨_, rfl, ?_⟩; have n0_ := Aside0.mk (below_step (by repeat (first | (with_reducible first | exact HB.out | apply below_alloc | apply pw_below_drewN | apply below_drew1) | exact HB.out)) hb); clear HB; have HB := n0_; clear n0_; (try clear hb); (try clear hb2); (try clear hk); (try clear hi)))
            go_ret
            exact ⟨by first | rfl | (simp [errW_none, errW_some] <;> rfl) | (simp [*, errW_none, errW_some] <;> rfl), by repeat (first | (with_reducible first | exact HB.out | apply below_alloc | apply pw_below_drewN | apply below_drew1) | exact HB.out)⟩

/-! ### deadeyelaw17_small: function 14 -/
def deadeyelaw17_small.f (l0 : List Int) : Option (List Int) := if (l0.length : Int) > 40 then (if 40 ≤ (l0.length : Int) then (some (l0.take 40)) else (none)) else (some l0)
set_option maxHeartbeats 8000000 in
set_option maxRecDepth 100000 in
theorem deadeyelaw17_small.calls (P0_ : Nat → Prop) (A0 : Option Addr) (c0 : Nat) (l0 : List Int) (r : List Int) (w : World) (hs0 : Kd.V (Kd.int .i64) 3 w w.heap.size (fun k_ => P0_ k_) (.slice A0 l0.length c0) l0) (h : deadeyelaw17_small.f l0 = some r) :
    Calls Try.prog 14 #[.slice A0 l0.length c0] w fun e w' => ∃ v0_ : Value, e = .returned (v0_) ∧ Kd.V (Kd.int .i64) 3 w' w.heap.size (fun k_ => (P0_ k_ ∨ w.heap.size ≤ k_)) v0_ r ∧ Below w.heap.size w w' := by
  have HO0 := Aside0.mk (show Kd.V (Kd.int .i64) 3 w w.heap.size (fun k_ => (P0_ k_ ∨ w.heap.size ≤ k_)) (.slice A0 l0.length c0) l0 from Kd.V_mono hs0 (fun k_ hk => .inl hk))
  have HB := Aside0.mk (Below.refl w.heap.size w)
  have H : (if (l0.length : Int) > 40 then (if 40 ≤ (l0.length : Int) then (some (l0.take 40)) else (none)) else (some l0)) = some r := h
  clear h
  by_cases c2 : (l0.length : Int) > 40
  · rw [if_pos c2] at H
    have c2b0 : decide (40 < (l0.length : Int)) = true := decide_eq_true c2
    have c2b1 : decide (40 < l0.length) = true := decide_eq_true (by omega)
    clear c2
    by_cases c3 : 40 ≤ (l0.length : Int)
    · rw [if_pos c3] at H
      have c3b0 := eq_true c3
      have c3b1 : decide (40 ≤ (l0.length : Int)) = true := decide_eq_true c3
      clear c3
      obtain ⟨y184, hy184⟩ : ∃ y_ : List Int, y_ = (l0.take 40) := ⟨_, rfl⟩
      replace H : (some y184) = some r := by first | (rw [hy184]; with_reducible exact H) | (have H2_ := (Option.bind_some _ _).symm.trans H; rw [hy184]; with_reducible exact H2_) | (have H2_ := (Option.bind_some _ _).symm.trans H; with_reducible exact H2_) | with_reducible exact H | (rw [hy184]; exact H) | exact H
      have Ny184 := Aside0.mk hy184
      clear hy184
      obtain rfl := Option.some.inj H
      have q4 : (40 : Int) ≤ ((l0.length : Int) : Int) := of_decide_eq_true (by first | (with_reducible assumption) | assumption)
      obtain ⟨i04, hi04, _, hsz4, _⟩ := info_parts info3
      have hroom4 : l0.length ≤ c0 := (Kd.V_reads' HO0.out).2.1
      have hC4 : Kd.F (Kd.int .i64) _ _ A0 l0.length l0 := (Kd.V_at (base := w.heap.size) HO0.out).2.2
      have hcut4 := cut_to (P := Try.prog) 28 3 .i64 Try.underlying28 hi04 A0 l0.length c0 40 (by omega) q4 hroom4
      have hr4 := Kd.F_take (m := 40) hC4 (by omega)
      have hy4 : y184.length = (40 : Int).toNat := (by rw [Ny184.out, List.length_take]; omega)
      rw [← Ny184.out] at hr4
      rw [← hy4] at hcut4
      have HO188 := Aside0.mk (show Kd.V (Kd.int .i64) 3 _ w.heap.size _ (.slice A0 y184.length c0) y184 from Kd.V_mk (by omega) hr4)
      have HC188 := Aside0.mk (show y184.length ≤ c0 from by omega)
      clear hr4 hC4 hroom4 hi04 hsz4
      have KY4 := Aside0.mk hy4
      clear hy4
      replace q4 := eq_true q4
      go_enter Try.func14, Try.ntmps14
      go_wp2
      go_ret
      exact ⟨_, by first | rfl | (simp [errW_none, errW_some] <;> rfl) | (simp [*, errW_none, errW_some] <;> rfl), by (with_reducible repeat (first | apply Kd.V_alloc | apply Kd.V_drewN | apply Kd.V_drew)); exact HO188.out, by repeat (first | (with_reducible first | exact HB.out | apply below_alloc | apply pw_below_drewN | apply below_drew1) | exact HB.out)⟩
    · rw [if_neg c3] at H
      exact absurd H (by simp)
  · rw [if_neg c2] at H
    have c2b0 : decide (40 < (l0.length : Int)) = false := decide_eq_false c2
    have c2b1 : decide (40 < l0.length) = false := decide_eq_false (by omega)
    clear c2
    obtain rfl := Option.some.inj H
    go_enter Try.func14, Try.ntmps14
    go_wp2
    go_ret
    exact ⟨_, by first | rfl | (simp [errW_none, errW_some] <;> rfl) | (simp [*, errW_none, errW_some] <;> rfl), by (with_reducible repeat (first | apply Kd.V_alloc | apply Kd.V_drewN | apply Kd.V_drew)); exact HO0.out, by repeat (first | (with_reducible first | exact HB.out | apply below_alloc | apply pw_below_drewN | apply below_drew1) | exact HB.out)⟩

/-! ### deadeyelaw17_told: function 15 -/
def deadeyelaw17_told.l0 : Nat → List (S26) → Int → Int → Option (Bool)
  | 0, _, _, _ => none
  | k + 1, x0, x1, x5 => if x5 < (x0.length : Int) then (if 0 ≤ x5 then (if ((rd_T26 x0 x5).f0) = x1 then (some true) else (deadeyelaw17_told.l0 k x0 x1 (wrap64 (x5 + 1)))) else (none)) else (some false)
def deadeyelaw17_told.f (k : Nat) (l0 : List (S26)) (a1 : Int) : Option (Bool) := deadeyelaw17_told.l0 k l0 a1 0
theorem deadeyelaw17_told.mono_l : ∀ k, (∀ y0 y1 y2, LeO (deadeyelaw17_told.l0 k y0 y1 y2) (deadeyelaw17_told.l0 (k + 1) y0 y1 y2))
  | 0 => fun _ _ _ r h => by simp [deadeyelaw17_told.l0] at h
  | k + 1 => by
    have ih0 := deadeyelaw17_told.mono_l k
    · intro y0 y1 y2
      unfold deadeyelaw17_told.l0
      repeat' first
      | (with_reducible exact ih0 _ _ _)
      | (with_reducible exact LeO.refl _)
      | (with_reducible exact LeO.none _)
      | (with_reducible refine LeO.ite ?_ ?_)
      | (with_reducible refine LeO.bind ?_ (fun _ => ?_))
      | exact ih0 _ _ _
      | exact LeO.none _
      | refine LeO.ite ?_ ?_
      | refine LeO.bind ?_ (fun _ => ?_)
theorem deadeyelaw17_told.mono : ∀ a0 a1 k, LeO (deadeyelaw17_told.f k a0 a1) (deadeyelaw17_told.f (k + 1) a0 a1) := by
  intro a0 a1 k
  have ih0 := deadeyelaw17_told.mono_l k
  unfold deadeyelaw17_told.f
  repeat' first
      | (with_reducible exact ih0 _ _ _)
      | (with_reducible exact LeO.refl _)
      | (with_reducible exact LeO.none _)
      | (with_reducible refine LeO.ite ?_ ?_)
      | (with_reducible refine LeO.bind ?_ (fun _ => ?_))
      | exact ih0 _ _ _
      | exact LeO.none _
      | refine LeO.ite ?_ ?_
      | refine LeO.bind ?_ (fun _ => ?_)
set_option maxHeartbeats 8000000 in
set_option maxRecDepth 100000 in
theorem deadeyelaw17_told.calls (k : Nat) (A0 : Option Addr) (c0 : Nat) (l0 : List (S26)) (a1 : Int) (r : Bool) (w : World) (hr0 : Kd.C k26 w A0 l0.length l0) (hc0 : l0.length ≤ c0) (h : deadeyelaw17_told.f k l0 a1 = some r) :
    Calls Try.prog 15 #[.slice A0 l0.length c0, .int .i64 a1] w fun e w' => e = .returned (.bool r) ∧ Drawn0 w w' := by
  have HR0 := Aside0.mk hr0
  have HC0 := Aside0.mk hc0
  clear hr0 hc0
  have H : (deadeyelaw17_told.l0 k l0 a1 0) = some r := h
  clear h
  have H' := Aside0.mk H
  clear H
  go_enter Try.func15, Try.ntmps15
  go_wp2
  go_loopg [5] k (fun kq v5 w' => ∃ (x5_1 : Int), v5 = .int .i64 x5_1 ∧ Aside0 (deadeyelaw17_told.l0 kq l0 a1 x5_1 = some r) ∧ Aside0 (kq ≤ k) ∧ Drawn0 w w')
  case atStart => exact ⟨(0), (by first | rfl | (simp; done) | (simp [*]; done)), H', ⟨Nat.le_refl _⟩, by repeat (first | exact Drawn0.refl _ | apply Drawn0.step)⟩
  case round =>
    clear H'
    try clear c1
    try clear p2
    obtain ⟨x5_1, rfl, HA, HK1, ⟨m1, rfl⟩⟩ := hrel
    cases gk with
    | zero => exact absurd HA.out (by simp [deadeyelaw17_told.l0])
    | succ k1 =>
      have H := HA.out
      clear HA
      simp only [deadeyelaw17_told.l0] at H
      by_cases c3 : x5_1 < (l0.length : Int)
      · rw [if_pos c3] at H
        have c3b0 : decide (x5_1 < (l0.length : Int)) = true := decide_eq_true c3
        clear c3
        by_cases c4 : 0 ≤ x5_1
        · rw [if_pos c4] at H
          have c4b0 : decide (0 ≤ x5_1) = true := decide_eq_true c4
          clear c4
          by_cases c5 : ((rd_T26 l0 x5_1).f0) = a1
          · rw [if_pos c5] at H
            have c5b0 : (((rd_T26 l0 x5_1).f0) == a1) = true := beq_iff_eq.mpr c5
            have c5b1 : (((rd_T26 l0 x5_1).f0) != a1) = false := bne_eq_false_iff_eq.mpr c5
            clear c5
            obtain rfl := Option.some.inj H
            have p189 : 0 ≤ (x5_1 : Int) := of_decide_eq_true (by first | (with_reducible assumption) | assumption)
            have q189 : x5_1 < (l0.length : Int) := of_decide_eq_true (by first | (with_reducible assumption) | assumption)
            obtain ⟨ad189, e189, hx189_0, hx189_1⟩ := at_T26 HR0.out x5_1 p189 q189
            cases e189
            replace p189 := eq_true p189
            replace q189 := eq_true q189
            go_wp2
            go_ret
            exact ⟨by first | rfl | (simp; done) | (simp [*]; done), by repeat (first | exact Drawn0.refl _ | apply Drawn0.step)⟩
          · rw [if_neg c5] at H
            have c5b0 : (((rd_T26 l0 x5_1).f0) == a1) = false := beq_eq_false_iff_ne.mpr c5
            have c5b1 : (((rd_T26 l0 x5_1).f0) != a1) = true := bne_iff_ne.mpr c5
            have H' := Aside0.mk H
            clear H
            have p189 : 0 ≤ (x5_1 : Int) := of_decide_eq_true (by first | (with_reducible assumption) | assumption)
            have q189 : x5_1 < (l0.length : Int) := of_decide_eq_true (by first | (with_reducible assumption) | assumption)
            obtain ⟨ad189, e189, hx189_0, hx189_1⟩ := at_T26 HR0.out x5_1 p189 q189
            cases e189
            replace p189 := eq_true p189
            replace q189 := eq_true q189
            go_wp2
            go_roundg k1
            case measure => have := HK1.out; omega
            case rel => exact ⟨(wrap64 (x5_1 + 1)), (by first | rfl | (simp; done) | (simp [*]; done)), H', ⟨by have := HK1.out; omega⟩, by repeat (first | exact Drawn0.refl _ | apply Drawn0.step)⟩
        · rw [if_neg c4] at H
          exact absurd H (by simp)
      · rw [if_neg c3] at H
        have c3b0 : decide (x5_1 < (l0.length : Int)) = false := decide_eq_false c3
        clear c3
        obtain rfl := Option.some.inj H
        go_wp2
        go_ret
        exact ⟨by first | rfl | (simp; done) | (simp [*]; done), by repeat (first | exact Drawn0.refl _ | apply Drawn0.step)⟩

/-! ### deadeyeref10_Pos: function 17 -/
def deadeyeref10_Pos.l0 : Nat → Int → Int → Int → List Int → Option (Int)
  | 0, _, _, _, _ => none
  | k + 1, x1, x5, x191000, x191001 => if x5 < (x191001.length : Int) then (if 0 ≤ x5 then (if (rd x191001 x5) = x1 then (some x5) else (deadeyeref10_Pos.l0 k x1 (wrap64 (x5 + 1)) x191000 x191001)) else (none)) else (some (-1))
def deadeyeref10_Pos.f (k : Nat) (a0_0 : Int) (l0_1 : List Int) (a1 : Int) : Option (Int) := deadeyeref10_Pos.l0 k a1 0 a0_0 l0_1
theorem deadeyeref10_Pos.mono_l : ∀ k, (∀ y0 y1 y2 y3, LeO (deadeyeref10_Pos.l0 k y0 y1 y2 y3) (deadeyeref10_Pos.l0 (k + 1) y0 y1 y2 y3))
  | 0 => fun _ _ _ _ r h => by simp [deadeyeref10_Pos.l0] at h
  | k + 1 => by
    have ih0 := deadeyeref10_Pos.mono_l k
    · intro y0 y1 y2 y3
      unfold deadeyeref10_Pos.l0
      repeat' first
      | (with_reducible exact ih0 _ _ _ _)
      | (with_reducible exact LeO.refl _)
      | (with_reducible exact LeO.none _)
      | (with_reducible refine LeO.ite ?_ ?_)
      | (with_reducible refine LeO.bind ?_ (fun _ => ?_))
      | exact ih0 _ _ _ _
      | exact LeO.none _
      | refine LeO.ite ?_ ?_
      | refine LeO.bind ?_ (fun _ => ?_)
theorem deadeyeref10_Pos.mono : ∀ a0 a1 a2 k, LeO (deadeyeref10_Pos.f k a0 a1 a2) (deadeyeref10_Pos.f (k + 1) a0 a1 a2) := by
  intro a0 a1 a2 k
  have ih0 := deadeyeref10_Pos.mono_l k
  unfold deadeyeref10_Pos.f
  repeat' first
      | (with_reducible exact ih0 _ _ _ _)
      | (with_reducible exact LeO.refl _)
      | (with_reducible exact LeO.none _)
      | (with_reducible refine LeO.ite ?_ ?_)
      | (with_reducible refine LeO.bind ?_ (fun _ => ?_))
      | exact ih0 _ _ _ _
      | exact LeO.none _
      | refine LeO.ite ?_ ?_
      | refine LeO.bind ?_ (fun _ => ?_)
set_option maxHeartbeats 8000000 in
set_option maxRecDepth 100000 in
theorem deadeyeref10_Pos.calls (k : Nat) (a0_0 : Int) (A0_1 : Option Addr) (c0_1 : Nat) (l0_1 : List Int) (a1 : Int) (r : Int) (w : World) (hr0_1 : Kd.C (Kd.int .i64) w A0_1 l0_1.length l0_1) (hc0_1 : l0_1.length ≤ c0_1) (h : deadeyeref10_Pos.f k a0_0 l0_1 a1 = some r) :
    Calls Try.prog 17 #[.agg #[.int .i64 a0_0, .slice A0_1 l0_1.length c0_1], .int .i64 a1] w fun e w' => e = .returned (.int .i64 r) ∧ Below w.heap.size w w' := by
  have hu30 := Try.underlying30
  have HR0_1 := Aside0.mk hr0_1
  have HC0_1 := Aside0.mk hc0_1
  clear hr0_1 hc0_1
  have HB := Aside0.mk (Below.refl w.heap.size w)
  have H : (deadeyeref10_Pos.l0 k a1 0 a0_0 l0_1) = some r := h
  clear h
  have H' := Aside0.mk H
  clear H
  go_enter Try.func17, Try.ntmps17
  go_wp2_with (first | ((with_reducible refine gate_dst (N := 2) rfl ?_); refine box_event ?hg (N := 2) ?hd (cs := #[.int .i64 a0_0, .slice A0_1 l0_1.length c0_1]) (t := 30) ?hr ?_; (case hd => rfl); (case hg => rfl); (case hr => first | (go_simp; done) | (go_simp; rfl)); intro gb190 hg w3 hbox hb; have n0_ := Aside0.mk (below_step (by repeat (first | (with_reducible first | exact HB.out | apply below_alloc | apply pw_below_drewN | apply below_drew1) | exact HB.out)) hb); have n1_ := Aside0.mk (hbox); have n2_ := Aside0.mk ((by rw [hg]; exact (below_size (by repeat (first | (with_reducible first | exact HB.out | apply below_alloc | apply pw_below_drewN | apply below_drew1) | exact HB.out))) : w.heap.size ≤ gb190)); have n3_ := Aside0.mk ((by rw [hg]; exact (below_size (by repeat (first | (with_reducible first | exact HB.out | apply below_alloc | apply pw_below_drewN | apply below_drew1) | exact HB.out))) : w.heap.size ≤ gb190)); clear HB; have HB := n0_; have BK190 := n1_; have GW190 := n2_; have GE190 := n3_; clear n0_ n1_ n2_ n3_; clear hb hbox hg))
  go_loopg [5] k (fun kq v5 w' => ∃ (x5_1 : Int), v5 = .int .i64 x5_1 ∧ Aside0 (deadeyeref10_Pos.l0 kq a1 x5_1 a0_0 l0_1 = some r) ∧ Aside0 (kq ≤ k) ∧ Aside0 (w'.heap[gb190]? = some (.cells #[.int .i64 a0_0, (.slice A0_1 l0_1.length c0_1)] 30 (0, 0))) ∧ Aside0 (Below w.heap.size w w'))
  case atStart => exact ⟨(0), (by first | rfl | (simp; done) | (simp [*]; done)), H', ⟨Nat.le_refl _⟩, ⟨by (with_reducible repeat (first | refine blk_drewN ?_ _ | refine blk_drew ?_ | refine blk_alloc ?_ _)); exact BK190.out⟩, ⟨by repeat (first | (with_reducible first | exact HB.out | apply below_alloc | apply pw_below_drewN | apply below_drew1 | refine below_set ?_ GE190.out) | exact HB.out)⟩⟩
  case round =>
    clear H'
    try clear c1
    try clear p2
    obtain ⟨x5_1, rfl, HA, HK1, BK190, HB⟩ := hrel
    cases gk with
    | zero => exact absurd HA.out (by simp [deadeyeref10_Pos.l0])
    | succ k1 =>
      have H := HA.out
      clear HA
      simp only [deadeyeref10_Pos.l0] at H
      by_cases c4 : x5_1 < (l0_1.length : Int)
      · rw [if_pos c4] at H
        have c4b0 : decide (x5_1 < (l0_1.length : Int)) = true := decide_eq_true c4
        clear c4
        by_cases c5 : 0 ≤ x5_1
        · rw [if_pos c5] at H
          have c5b0 : decide (0 ≤ x5_1) = true := decide_eq_true c5
          clear c5
          by_cases c6 : (rd l0_1 x5_1) = a1
          · rw [if_pos c6] at H
            have c6b0 : ((rd l0_1 x5_1) == a1) = true := beq_iff_eq.mpr c6
            have c6b1 : ((rd l0_1 x5_1) != a1) = false := bne_eq_false_iff_eq.mpr c6
            clear c6
            obtain rfl := Option.some.inj H
            have hcz7_0 : wr.cell? ⟨gb190, 0, none⟩ = some (.int .i64 a0_0) := (blk_cell BK190.out 0).trans rfl
            have hcz7_1 : wr.cell? ⟨gb190, 1, none⟩ = some (.slice A0_1 l0_1.length c0_1) := (blk_cell BK190.out 1).trans rfl
            have hfz7_0 := blk_frozen BK190.out 0
            have hfz7_1 := blk_frozen BK190.out 1
            have p191 : 0 ≤ (x5_1 : Int) := of_decide_eq_true (by first | (with_reducible assumption) | assumption)
            have q191 : x5_1 < (l0_1.length : Int) := of_decide_eq_true (by first | (with_reducible assumption) | assumption)
            obtain ⟨ad191, e191, hx191_0⟩ := Kd.at_int HR0_1.out x5_1 p191 q191
            cases e191
            replace hx191_0 := (HB.out.cell (World.block_lt_of_cell? w _ hx191_0)).trans hx191_0
            replace p191 := eq_true p191
            replace q191 := eq_true q191
            go_wp2
            go_ret
            exact ⟨by first | rfl | (simp [errW_none, errW_some] <;> rfl) | (simp [*, errW_none, errW_some] <;> rfl), by repeat (first | (with_reducible first | exact HB.out | apply below_alloc | apply pw_below_drewN | apply below_drew1 | refine below_set ?_ GE190.out) | exact HB.out)⟩
          · rw [if_neg c6] at H
            have c6b0 : ((rd l0_1 x5_1) == a1) = false := beq_eq_false_iff_ne.mpr c6
            have c6b1 : ((rd l0_1 x5_1) != a1) = true := bne_iff_ne.mpr c6
            have H' := Aside0.mk H
            clear H
            have hcz8_0 : wr.cell? ⟨gb190, 0, none⟩ = some (.int .i64 a0_0) := (blk_cell BK190.out 0).trans rfl
            have hcz8_1 : wr.cell? ⟨gb190, 1, none⟩ = some (.slice A0_1 l0_1.length c0_1) := (blk_cell BK190.out 1).trans rfl
            have hfz8_0 := blk_frozen BK190.out 0
            have hfz8_1 := blk_frozen BK190.out 1
            have p191 : 0 ≤ (x5_1 : Int) := of_decide_eq_true (by first | (with_reducible assumption) | assumption)
            have q191 : x5_1 < (l0_1.length : Int) := of_decide_eq_true (by first | (with_reducible assumption) | assumption)
            obtain ⟨ad191, e191, hx191_0⟩ := Kd.at_int HR0_1.out x5_1 p191 q191
            cases e191
            replace hx191_0 := (HB.out.cell (World.block_lt_of_cell? w _ hx191_0)).trans hx191_0
            replace p191 := eq_true p191
            replace q191 := eq_true q191
            go_wp2
            go_roundg k1
            case measure => have := HK1.out; omega
            case rel => exact ⟨(wrap64 (x5_1 + 1)), (by first | rfl | (simp; done) | (simp [*]; done)), H', ⟨by have := HK1.out; omega⟩, ⟨by (with_reducible repeat (first | refine blk_drewN ?_ _ | refine blk_drew ?_ | refine blk_alloc ?_ _)); exact BK190.out⟩, ⟨by repeat (first | (with_reducible first | exact HB.out | apply below_alloc | apply pw_below_drewN | apply below_drew1 | refine below_set ?_ GE190.out) | exact HB.out)⟩⟩
        · rw [if_neg c5] at H
          exact absurd H (by simp)
      · rw [if_neg c4] at H
        have c4b0 : decide (x5_1 < (l0_1.length : Int)) = false := decide_eq_false c4
        clear c4
        obtain rfl := Option.some.inj H
        have hcz9_0 : wr.cell? ⟨gb190, 0, none⟩ = some (.int .i64 a0_0) := (blk_cell BK190.out 0).trans rfl
        have hcz9_1 : wr.cell? ⟨gb190, 1, none⟩ = some (.slice A0_1 l0_1.length c0_1) := (blk_cell BK190.out 1).trans rfl
        have hfz9_0 := blk_frozen BK190.out 0
        have hfz9_1 := blk_frozen BK190.out 1
        go_wp2
        go_ret
        exact ⟨by first | rfl | (simp [errW_none, errW_some] <;> rfl) | (simp [*, errW_none, errW_some] <;> rfl), by repeat (first | (with_reducible first | exact HB.out | apply below_alloc | apply pw_below_drewN | apply below_drew1 | refine below_set ?_ GE190.out) | exact HB.out)⟩

end Go.Proofs.Yteeeiaggkdlolaa.Pl
