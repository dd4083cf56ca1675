-- Lean text written by a program of this session (xp) for this seat's functions
import Derived.Test.YteeeiaggkdlolaaKy0
namespace Go.Proofs.Yteeeiaggkdlolaa.Ky
open Go.RowKit Go.Proofs.YteeeiaggkdlolaaW.PrintWords Go.Proofs.YteeeiaggkdlolaaW.PrintLast Go.Proofs.YteeeiaggkdlolaaW.PrintMore
attribute [local go_sem] max2_int min2_int max_two min_two max_three min_three max_four min_four   -- for this text's walks alone
set_option linter.unusedVariables false
set_option linter.unusedSimpArgs false

theorem rise_aP0 {wc : World} {okp : Nat → Prop} {e base : Nat} (y : S48) {A : Option Addr} {c : Nat} (h : (Kd.int .u8).V e wc base okp (.slice A y.f7.length c) y.f7) : k48.FK wc okp (⟨y.f0, y.f1, y.f2, y.f3, y.f4, y.f5, y.f6, y.f7⟩ : S48) [.int .i64 y.f0, .int .i64 y.f1, .int .i64 y.f2, .int .i64 y.f3, .string y.f4, .int .i64 y.f5, .int .u32 y.f6, .slice A y.f7.length c] :=
  k48_mkF _ _ (⟨y.f0, y.f1, y.f2, y.f3, y.f4, y.f5, y.f6, y.f7⟩ : S48) (Kd.V_reads' h).2.1 (Kd.V_F h)
theorem rise_aP1 {wc : World} {okp : Nat → Prop} {e base : Nat} (y : S48) {A : Option Addr} {c : Nat} (h : (Kd.int .u8).V e wc base okp (.slice A y.f7.length c) y.f7) (nq : Nat) : k48.FK (wc.drewN nq) okp (⟨y.f0, y.f1, y.f2, y.f3, y.f4, y.f5, y.f6, y.f7⟩ : S48) [.int .i64 y.f0, .int .i64 y.f1, .int .i64 y.f2, .int .i64 y.f3, .string y.f4, .int .i64 y.f5, .int .u32 y.f6, .slice A y.f7.length c] :=
  k48_mkF _ _ (⟨y.f0, y.f1, y.f2, y.f3, y.f4, y.f5, y.f6, y.f7⟩ : S48) (Kd.V_reads' h).2.1 (Kd.V_F (Kd.V_drewN h nq))

/-! ### deadeyelaw10_rising: function 30 -/
mutual
def deadeyelaw10_rising.l0 : Nat → List (S48) → List (S48) → Int → Option ((List (S48)))
  | 0, _, _, _ => none
  | k + 1, x0, x3, x4 => if x4 < (x0.length : Int) then (deadeyelaw10_rising.j1 k x0 x3 x4 (decide ((x3.length : Int) < 60))) else (deadeyelaw10_rising.j1 k x0 x3 x4 false)
def deadeyelaw10_rising.j1 : Nat → List (S48) → List (S48) → Int → Bool → Option ((List (S48)))
  | 0, _, _, _, _ => none
  | k + 1, x0, x3, x4, x14 => if x14 = true then (if (x3.length : Int) = 0 then (if 0 ≤ x4 then (if x4 < (x0.length : Int) then (if x3.length < 1599289640401 then (deadeyelaw10_rising.l0 k x0 (x3 ++ [(⟨(rd_T48 x0 x4).f0, (rd_T48 x0 x4).f1, (rd_T48 x0 x4).f2, (rd_T48 x0 x4).f3, (rd_T48 x0 x4).f4, (rd_T48 x0 x4).f5, (rd_T48 x0 x4).f6, (rd_T48 x0 x4).f7⟩ : S48)]) (wrap64 (x4 + 1))) else (none)) else (none)) else (none)) else (if 0 ≤ x4 then (if x4 < (x0.length : Int) then (if 0 ≤ (wrap64 ((x3.length : Int) - 1)) then (if (wrap64 ((x3.length : Int) - 1)) < (x3.length : Int) then (if ((rd_T48 x0 x4).f0) > ((rd_T48 x3 (wrap64 ((x3.length : Int) - 1))).f0) then (if x3.length < 1599289640401 then (deadeyelaw10_rising.l0 k x0 (x3 ++ [(⟨(rd_T48 x0 x4).f0, (rd_T48 x0 x4).f1, (rd_T48 x0 x4).f2, (rd_T48 x0 x4).f3, (rd_T48 x0 x4).f4, (rd_T48 x0 x4).f5, (rd_T48 x0 x4).f6, (rd_T48 x0 x4).f7⟩ : S48)]) (wrap64 (x4 + 1))) else (none)) else (deadeyelaw10_rising.l0 k x0 x3 (wrap64 (x4 + 1)))) else (none)) else (none)) else (none)) else (none))) else (some x3)
end
def deadeyelaw10_rising.f (k : Nat) (l0 : List (S48)) : Option ((List (S48))) := deadeyelaw10_rising.l0 k l0 (([] : List (S48))) 0
theorem deadeyelaw10_rising.mono_l : ∀ k, (∀ y0 y1 y2, LeO (deadeyelaw10_rising.l0 k y0 y1 y2) (deadeyelaw10_rising.l0 (k + 1) y0 y1 y2)) ∧ (∀ y0 y1 y2 y3, LeO (deadeyelaw10_rising.j1 k y0 y1 y2 y3) (deadeyelaw10_rising.j1 (k + 1) y0 y1 y2 y3))
  | 0 => ⟨fun _ _ _ r h => by simp [deadeyelaw10_rising.l0] at h, fun _ _ _ _ r h => by simp [deadeyelaw10_rising.j1] at h⟩
  | k + 1 => by
    obtain ⟨ih0, ih1⟩ := deadeyelaw10_rising.mono_l k
    refine ⟨?_, ?_⟩
    · intro y0 y1 y2
      unfold deadeyelaw10_rising.l0
      repeat' first
      | (with_reducible exact ih0 _ _ _)
      | (with_reducible exact ih1 _ _ _ _)
      | (with_reducible exact LeO.refl _)
      | (with_reducible exact LeO.none _)
      | (with_reducible refine LeO.ite ?_ ?_)
      | (with_reducible refine LeO.bind ?_ (fun _ => ?_))
      | exact ih0 _ _ _
      | exact ih1 _ _ _ _
      | exact LeO.none _
      | refine LeO.ite ?_ ?_
      | refine LeO.bind ?_ (fun _ => ?_)
    · intro y0 y1 y2 y3
      unfold deadeyelaw10_rising.j1
      repeat' first
      | (with_reducible exact ih0 _ _ _)
      | (with_reducible exact ih1 _ _ _ _)
      | (with_reducible exact LeO.refl _)
      | (with_reducible exact LeO.none _)
      | (with_reducible refine LeO.ite ?_ ?_)
      | (with_reducible refine LeO.bind ?_ (fun _ => ?_))
      | exact ih0 _ _ _
      | exact ih1 _ _ _ _
      | exact LeO.none _
      | refine LeO.ite ?_ ?_
      | refine LeO.bind ?_ (fun _ => ?_)
theorem deadeyelaw10_rising.mono : ∀ a0 k, LeO (deadeyelaw10_rising.f k a0) (deadeyelaw10_rising.f (k + 1) a0) := by
  intro a0 k
  obtain ⟨ih0, ih1⟩ := deadeyelaw10_rising.mono_l k
  unfold deadeyelaw10_rising.f
  repeat' first
      | (with_reducible exact ih0 _ _ _)
      | (with_reducible exact ih1 _ _ _ _)
      | (with_reducible exact LeO.refl _)
      | (with_reducible exact LeO.none _)
      | (with_reducible refine LeO.ite ?_ ?_)
      | (with_reducible refine LeO.bind ?_ (fun _ => ?_))
      | exact ih0 _ _ _
      | exact ih1 _ _ _ _
      | exact LeO.none _
      | refine LeO.ite ?_ ?_
      | refine LeO.bind ?_ (fun _ => ?_)
set_option maxHeartbeats 8000000 in
set_option maxRecDepth 100000 in
theorem deadeyelaw10_rising.calls (k : Nat) (P0_ : Nat → Prop) (A0 : Option Addr) (c0 : Nat) (l0 : List (S48)) (r : List (S48)) (w : World) (hs0 : Kd.V k48 48 w w.heap.size (fun k_ => P0_ k_) (.slice A0 l0.length c0) l0) (h : deadeyelaw10_rising.f k l0 = some r) :
    Calls Try.prog 30 #[.slice A0 l0.length c0] w fun e w' => ∃ v0_ : Value, e = .returned (v0_) ∧ Kd.N k48 48 w' w.heap.size (fun k_ => (P0_ k_ ∨ w.heap.size ≤ k_)) v0_ r ∧ Below w.heap.size w w' := by
  have hu48 := Try.underlying48
  have HO0 := Aside0.mk (show Kd.V k48 48 w w.heap.size (fun k_ => (P0_ k_ ∨ w.heap.size ≤ k_)) (.slice A0 l0.length c0) l0 from Kd.V_mono hs0 (fun k_ hk => .inl hk))
  have HB := Aside0.mk (Below.refl w.heap.size w)
  have H : (deadeyelaw10_rising.l0 k l0 (([] : List (S48))) 0) = some r := h
  clear h
  obtain ⟨y200, hy200⟩ : ∃ y_ : List (S48), y_ = (([] : List (S48))) := ⟨_, rfl⟩
  replace H : (deadeyelaw10_rising.l0 k l0 y200 0) = some r := by first | (rw [hy200]; with_reducible exact H) | (have H2_ := (Option.bind_some _ _).symm.trans H; rw [hy200]; with_reducible exact H2_) | (have H2_ := (Option.bind_some _ _).symm.trans H; with_reducible exact H2_) | with_reducible exact H | (rw [hy200]; exact H) | exact H
  have Ny200 := Aside0.mk hy200
  clear hy200
  have H' := Aside0.mk H
  clear H
  go_enter Try.func30, Try.ntmps30
  go_wp2_with (first | ((with_reducible refine gate_dst (N := 5) rfl ?_); (try (refine gate_guard (by rfl) ?_; dsimp only)); refine Kd.N_lit k48 _ 48 ?hg (N' := 5) ?hd (xs := ([] : List (S48))) (inner := []) (ok := (fun k_ => (P0_ k_ ∨ w.heap.size ≤ k_))) (okp := (fun k_ => (P0_ k_ ∨ w.heap.size ≤ k_))) ?hr ?hp (fun _ hk => hk) ((show ∀ k_, w.heap.size ≤ k_ → (fun k_ => (P0_ k_ ∨ w.heap.size ≤ k_)) k_ from fun k_ hk => (.inr (Nat.le_trans (below_size (by repeat (first | (with_reducible first | exact HB.out | apply below_alloc | apply pw_below_drewN | apply below_drew1) | exact HB.out))) hk))) _ (Nat.le_refl _)) (Below.refl _ _) (Nat.le_refl _) (by simp) ?_; (case hd => rfl); (case hg => rfl); (case hr => first | (go_simp; done) | (go_simp; rfl)); (case hp => exact (Reps.none _ _)); intro v201 w2 ho3 hb hg_ hnew_; clear hg_ hnew_; (first | rw [← Ny200.out] at ho3 | (simp only [Int.reduceToNat] at ho3; rw [← Ny200.out] at ho3)); have n0_ := Aside0.mk (Kd.V_elder' (by (with_reducible repeat (first | apply Kd.V_alloc | apply Kd.V_drewN | apply Kd.V_drew)); exact HO0.out) (Kd.N_base ho3) hb); have n1_ := Aside0.mk (Kd.N_lower ho3 (below_size (by repeat (first | (with_reducible first | exact HB.out | apply below_alloc | apply pw_below_drewN | apply below_drew1) | exact HB.out)))); have n2_ := Aside0.mk (below_step (by repeat (first | (with_reducible first | exact HB.out | apply below_alloc | apply pw_below_drewN | apply below_drew1) | exact HB.out)) hb); clear HO0; clear HB; have HO0 := n0_; have HO202 := n1_; have HB := n2_; clear n0_ n1_ n2_; clear hb ho3))
  repeat (go_quiet (first | ((with_reducible refine gate_dst (N := 5) rfl ?_); (try (refine gate_guard (by rfl) ?_; dsimp only)); refine Kd.N_lit k48 _ 48 ?hg (N' := 5) ?hd (xs := ([] : List (S48))) (inner := []) (ok := (fun k_ => (P0_ k_ ∨ w.heap.size ≤ k_))) (okp := (fun k_ => (P0_ k_ ∨ w.heap.size ≤ k_))) ?hr ?hp (fun _ hk => hk) ((show ∀ k_, w.heap.size ≤ k_ → (fun k_ => (P0_ k_ ∨ w.heap.size ≤ k_)) k_ from fun k_ hk => (.inr (Nat.le_trans (below_size (by repeat (first | (with_reducible first | exact HB.out | apply below_alloc | apply pw_below_drewN | apply below_drew1) | exact HB.out))) hk))) _ (Nat.le_refl _)) (Below.refl _ _) (Nat.le_refl _) (by simp) ?_; (case hd => rfl); (case hg => rfl); (case hr => first | (go_simp; done) | (go_simp; rfl)); (case hp => exact (Reps.none _ _)); intro v201 w2 ho3 hb hg_ hnew_; clear hg_ hnew_; (first | rw [← Ny200.out] at ho3 | (simp only [Int.reduceToNat] at ho3; rw [← Ny200.out] at ho3)); have n0_ := Aside0.mk (Kd.V_elder' (by (with_reducible repeat (first | apply Kd.V_alloc | apply Kd.V_drewN | apply Kd.V_drew)); exact HO0.out) (Kd.N_base ho3) hb); have n1_ := Aside0.mk (Kd.N_lower ho3 (below_size (by repeat (first | (with_reducible first | exact HB.out | apply below_alloc | apply pw_below_drewN | apply below_drew1) | exact HB.out)))); have n2_ := Aside0.mk (below_step (by repeat (first | (with_reducible first | exact HB.out | apply below_alloc | apply pw_below_drewN | apply below_drew1) | exact HB.out)) hb); clear HO0; clear HB; have HO0 := n0_; have HO202 := n1_; have HB := n2_; clear n0_ n1_ n2_; clear hb ho3)); try go_wp2_with (first | ((with_reducible refine gate_dst (N := 5) rfl ?_); (try (refine gate_guard (by rfl) ?_; dsimp only)); refine Kd.N_lit k48 _ 48 ?hg (N' := 5) ?hd (xs := ([] : List (S48))) (inner := []) (ok := (fun k_ => (P0_ k_ ∨ w.heap.size ≤ k_))) (okp := (fun k_ => (P0_ k_ ∨ w.heap.size ≤ k_))) ?hr ?hp (fun _ hk => hk) ((show ∀ k_, w.heap.size ≤ k_ → (fun k_ => (P0_ k_ ∨ w.heap.size ≤ k_)) k_ from fun k_ hk => (.inr (Nat.le_trans (below_size (by repeat (first | (with_reducible first | exact HB.out | apply below_alloc | apply pw_below_drewN | apply below_drew1) | exact HB.out))) hk))) _ (Nat.le_refl _)) (Below.refl _ _) (Nat.le_refl _) (by simp) ?_; (case hd => rfl); (case hg => rfl); (case hr => first | (go_simp; done) | (go_simp; rfl)); (case hp => exact (Reps.none _ _)); intro v201 w2 ho3 hb hg_ hnew_; clear hg_ hnew_; (first | rw [← Ny200.out] at ho3 | (simp only [Int.reduceToNat] at ho3; rw [← Ny200.out] at ho3)); have n0_ := Aside0.mk (Kd.V_elder' (by (with_reducible repeat (first | apply Kd.V_alloc | apply Kd.V_drewN | apply Kd.V_drew)); exact HO0.out) (Kd.N_base ho3) hb); have n1_ := Aside0.mk (Kd.N_lower ho3 (below_size (by repeat (first | (with_reducible first | exact HB.out | apply below_alloc | apply pw_below_drewN | apply below_drew1) | exact HB.out)))); have n2_ := Aside0.mk (below_step (by repeat (first | (with_reducible first | exact HB.out | apply below_alloc | apply pw_below_drewN | apply below_drew1) | exact HB.out)) hb); clear HO0; clear HB; have HO0 := n0_; have HO202 := n1_; have HB := n2_; clear n0_ n1_ n2_; clear hb ho3)))
  go_loopg [3, 4] k (fun kq v3 v4 w' => ∃ (x3_1 : List (S48)) (x4_1 : Int), v4 = .int .i64 x4_1 ∧ Aside0 (deadeyelaw10_rising.l0 kq l0 x3_1 x4_1 = some r) ∧ Aside0 (kq ≤ k) ∧ Aside0 (Kd.V k48 48 w' w.heap.size (fun k_ => (P0_ k_ ∨ w.heap.size ≤ k_) ∧ some k_ ≠ (v3 : Value).ownBlock) (.slice A0 l0.length c0) l0) ∧ Aside0 (Kd.N k48 48 w' w.heap.size (fun k_ => (P0_ k_ ∨ w.heap.size ≤ k_)) v3 x3_1) ∧ Aside0 (Below w.heap.size w w'))
  case atStart => exact ⟨(y200), (0), (by first | rfl | (simp; done) | (simp [*]; done)), H', ⟨Nat.le_refl _⟩, ⟨by (with_reducible repeat (first | apply Kd.V_alloc | apply Kd.V_drewN | apply Kd.V_drew)); exact HO0.out⟩, ⟨by (with_reducible repeat (first | apply Kd.N_alloc | apply Kd.N_drewN | apply Kd.N_drew)); exact HO202.out⟩, ⟨by repeat (first | (with_reducible first | exact HB.out | apply below_alloc | apply pw_below_drewN | apply below_drew1) | exact HB.out)⟩⟩
  case round =>
    clear H'
    try clear p2
    try clear c3
    obtain ⟨x3_1, x4_1, rfl, HA, HK1, HO_0, HO_3, HB⟩ := hrel
    cases gk with
    | zero => exact absurd HA.out (by simp [deadeyelaw10_rising.l0])
    | succ k1 =>
      have H := HA.out
      clear HA
      simp only [deadeyelaw10_rising.l0] at H
      have HC4 := Aside0.mk H
      clear H
      go_upto_region 3 with (fail)
      repeat (go_quiet (fail); go_upto_region 3 with (fail))
      go_cut [14] (fun v14 wc => ∃ (kq : Nat) (x14_3 : Bool), v14 = .bool x14_3 ∧ Aside0 (deadeyelaw10_rising.j1 kq l0 x3_1 x4_1 x14_3 = some r) ∧ Aside0 (kq ≤ k1) ∧ Aside0 (Kd.V k48 48 wc w.heap.size (fun k_ => (P0_ k_ ∨ w.heap.size ≤ k_) ∧ some k_ ≠ (u3 : Value).ownBlock) (.slice A0 l0.length c0) l0) ∧ Aside0 (Kd.N k48 48 wc w.heap.size (fun k_ => (P0_ k_ ∨ w.heap.size ≤ k_)) u3 x3_1) ∧ Aside0 (Below w.heap.size w wc))
      case first =>
        have H := HC4.out
        clear HC4
        by_cases c5 : x4_1 < (l0.length : Int)
        · rw [if_pos c5] at H
          have c5b0 : decide (x4_1 < (l0.length : Int)) = true := decide_eq_true c5
          clear c5
          (first | rw [c5b0] | (simp only [i64_w, i32_w]; rw [c5b0]) | skip)
          have H' := Aside0.mk H
          clear H
          obtain ⟨Ao6, co6, eo6⟩ := Kd.N_slice HO_3.out
          subst eo6
          go_wp2
          repeat (go_quiet (fail); try go_wp2)
          go_meet
          case rel => exact ⟨_, (decide ((x3_1.length : Int) < 60)), (by first | rfl | (simp; done) | (simp [*]; done)), H', ⟨by have := HK1.out; first | omega | exact Nat.le_refl _⟩, ⟨by (with_reducible repeat (first | apply Kd.V_alloc | apply Kd.V_drewN | apply Kd.V_drew)); exact HO_0.out⟩, ⟨by (with_reducible repeat (first | apply Kd.N_alloc | apply Kd.N_drewN | apply Kd.N_drew)); exact HO_3.out⟩, ⟨by repeat (first | (with_reducible first | exact HB.out | apply below_alloc | apply pw_below_drewN | apply below_drew1) | exact HB.out)⟩⟩
        · rw [if_neg c5] at H
          have c5b0 : decide (x4_1 < (l0.length : Int)) = false := decide_eq_false c5
          clear c5
          (first | rw [c5b0] | (simp only [i64_w, i32_w]; rw [c5b0]) | skip)
          have H' := Aside0.mk H
          clear H
          go_wp2
          repeat (go_quiet (fail); try go_wp2)
          go_meet
          case rel => exact ⟨_, (false), (by first | rfl | (simp; done) | (simp [*]; done)), H', ⟨by have := HK1.out; first | omega | exact Nat.le_refl _⟩, ⟨by (with_reducible repeat (first | apply Kd.V_alloc | apply Kd.V_drewN | apply Kd.V_drew)); exact HO_0.out⟩, ⟨by (with_reducible repeat (first | apply Kd.N_alloc | apply Kd.N_drewN | apply Kd.N_drew)); exact HO_3.out⟩, ⟨by repeat (first | (with_reducible first | exact HB.out | apply below_alloc | apply pw_below_drewN | apply below_drew1) | exact HB.out)⟩⟩
      case rest =>
        clear HC4
        try clear p2
        try clear c3
        try clear c5
        try clear c5b0
        try clear p2
        obtain ⟨kq, x14_3, rfl, HA, HJ3, HO_0, HO_3, HB⟩ := hcut
        cases kq with
        | zero => exact absurd HA.out (by simp [deadeyelaw10_rising.j1])
        | succ kj3 =>
          have H := HA.out
          clear HA
          simp only [deadeyelaw10_rising.j1] at H
          by_cases c7 : x14_3 = true
          · subst c7
            have H1 : (if (x3_1.length : Int) = 0 then (if 0 ≤ x4_1 then (if x4_1 < (l0.length : Int) then (if x3_1.length < 1599289640401 then (deadeyelaw10_rising.l0 kj3 l0 (x3_1 ++ [(⟨(rd_T48 l0 x4_1).f0, (rd_T48 l0 x4_1).f1, (rd_T48 l0 x4_1).f2, (rd_T48 l0 x4_1).f3, (rd_T48 l0 x4_1).f4, (rd_T48 l0 x4_1).f5, (rd_T48 l0 x4_1).f6, (rd_T48 l0 x4_1).f7⟩ : S48)]) (wrap64 (x4_1 + 1))) else (none)) else (none)) else (none)) else (if 0 ≤ x4_1 then (if x4_1 < (l0.length : Int) then (if 0 ≤ (wrap64 ((x3_1.length : Int) - 1)) then (if (wrap64 ((x3_1.length : Int) - 1)) < (x3_1.length : Int) then (if ((rd_T48 l0 x4_1).f0) > ((rd_T48 x3_1 (wrap64 ((x3_1.length : Int) - 1))).f0) then (if x3_1.length < 1599289640401 then (deadeyelaw10_rising.l0 kj3 l0 (x3_1 ++ [(⟨(rd_T48 l0 x4_1).f0, (rd_T48 l0 x4_1).f1, (rd_T48 l0 x4_1).f2, (rd_T48 l0 x4_1).f3, (rd_T48 l0 x4_1).f4, (rd_T48 l0 x4_1).f5, (rd_T48 l0 x4_1).f6, (rd_T48 l0 x4_1).f7⟩ : S48)]) (wrap64 (x4_1 + 1))) else (none)) else (deadeyelaw10_rising.l0 kj3 l0 x3_1 (wrap64 (x4_1 + 1)))) else (none)) else (none)) else (none)) else (none))) = some r := by rw [if_pos rfl] at H; exact H
            clear H
            have H := H1
            clear H1
            by_cases c8 : (x3_1.length : Int) = 0
            · rw [if_pos c8] at H
              have c8b0 : ((x3_1.length : Int) == 0) = true := beq_iff_eq.mpr c8
              have c8b1 : ((x3_1.length : Int) != 0) = false := bne_eq_false_iff_eq.mpr c8
              clear c8
              by_cases c9 : 0 ≤ x4_1
              · rw [if_pos c9] at H
                have c9b0 : decide (0 ≤ x4_1) = true := decide_eq_true c9
                clear c9
                by_cases c10 : x4_1 < (l0.length : Int)
                · rw [if_pos c10] at H
                  have c10b0 : decide (x4_1 < (l0.length : Int)) = true := decide_eq_true c10
                  clear c10
                  by_cases c11 : x3_1.length < 1599289640401
                  · rw [if_pos c11] at H
                    have LMc11 := Aside0.mk c11
                    clear c11
                    obtain ⟨y204, hy204⟩ : ∃ y_ : List (S48), y_ = (x3_1 ++ [(⟨(rd_T48 l0 x4_1).f0, (rd_T48 l0 x4_1).f1, (rd_T48 l0 x4_1).f2, (rd_T48 l0 x4_1).f3, (rd_T48 l0 x4_1).f4, (rd_T48 l0 x4_1).f5, (rd_T48 l0 x4_1).f6, (rd_T48 l0 x4_1).f7⟩ : S48)]) := ⟨_, rfl⟩
                    replace H : (deadeyelaw10_rising.l0 kj3 l0 y204 (wrap64 (x4_1 + 1))) = some r := by first | (rw [hy204]; with_reducible exact H) | (have H2_ := (Option.bind_some _ _).symm.trans H; rw [hy204]; with_reducible exact H2_) | (have H2_ := (Option.bind_some _ _).symm.trans H; with_reducible exact H2_) | with_reducible exact H | (rw [hy204]; exact H) | exact H
                    have Ny204 := Aside0.mk hy204
                    clear hy204
                    have H' := Aside0.mk H
                    clear H
                    obtain ⟨Ao12, co12, eo12⟩ := Kd.N_slice HO_3.out
                    subst eo12
                    have p203 : 0 ≤ (x4_1 : Int) := of_decide_eq_true (by first | (with_reducible assumption) | assumption)
                    have q203 : x4_1 < (l0.length : Int) := of_decide_eq_true (by first | (with_reducible assumption) | assumption)
                    obtain ⟨ad203, A203_7, c203_7, e203, hx203_0, hx203_1, hx203_2, hx203_3, hx203_4, hx203_5, hx203_6, hx203_7, hl203_7, hi203_7⟩ := at_T48 (Kd.V_reads' HO_0.out).2.2 x4_1 p203 q203
                    cases e203
                    obtain ⟨ce203, hce203, hMe203, hcc203⟩ := Kd.V_get HO_0.out z48 x4_1 p203 (by first | exact q203 | exact of_decide_eq_true (by first | (with_reducible assumption) | assumption) | (have e_ := (Kd.V_reads' HO_0.out).1; omega))
                    obtain ⟨ua203_7, uc203_7, rfl, ul203_7, ge203_7⟩ := k48_openF hMe203
                    have hv203_7 := hcc203 7 _ rfl
                    rw [add_field _ _ 7 (by omega)] at hv203_7
                    replace hv203_7 := Option.some.inj (hv203_7.symm.trans hx203_7)
                    injection hv203_7 with hva_ hvn_ hvc_
                    rw [hva_] at ge203_7
                    rw [hvc_] at ul203_7
                    have HL203_7 := Aside0.mk (show Kd.V (Kd.int .u8) 5 _ w.heap.size _ _ ((rd_T48 l0 x4_1).f7) from Kd.V_mk ul203_7 ge203_7)
                    clear hva_ hvn_ hvc_ ge203_7 ul203_7
                    clear hcc203 hce203
                    have HR203_7 := Aside0.mk hi203_7
                    have HC203_7 := Aside0.mk hl203_7
                    clear hi203_7 hl203_7
                    replace p203 := eq_true p203
                    replace q203 := eq_true q203
                    go_wp2_with (first | ((with_reducible refine gate_builtin (b := .append) (xs := #[.tmp 35, .tmp 40]) rfl ?_); (try (refine gate_guard (by rfl) ?_; dsimp only)); at_builtin; refine Kd.N_append k48 (w0 := w) w.heap.size rfl (.tmp 35) (.tmp 40) 44 48 (.agg #[(.int .i64 0), (.int .i64 0), (.int .i64 0), (.int .i64 0), (.string ⟨#[]⟩), (.int .i64 0), (.int .u32 0), (.slice none 0 0)]) 88 rfl Try.underlying44 info48 rfl (by decide) (by omega) (.slice Ao12 x3_1.length co12) x3_1 (⟨(rd_T48 l0 x4_1).f0, (rd_T48 l0 x4_1).f1, (rd_T48 l0 x4_1).f2, (rd_T48 l0 x4_1).f3, (rd_T48 l0 x4_1).f4, (rd_T48 l0 x4_1).f5, (rd_T48 l0 x4_1).f6, (rd_T48 l0 x4_1).f7⟩ : S48) [.int .i64 ((rd_T48 l0 x4_1).f0), .int .i64 ((rd_T48 l0 x4_1).f1), .int .i64 ((rd_T48 l0 x4_1).f2), .int .i64 ((rd_T48 l0 x4_1).f3), .string ((rd_T48 l0 x4_1).f4), .int .i64 ((rd_T48 l0 x4_1).f5), .int .u32 ((rd_T48 l0 x4_1).f6), .slice A203_7 ((rd_T48 l0 x4_1).f7).length c203_7] (fun k_ => (P0_ k_ ∨ w.heap.size ≤ k_)) (fun k_ => ((fun k_ => (P0_ k_ ∨ w.heap.size ≤ k_))) k_ ∧ some k_ ≠ (.slice Ao12 x3_1.length co12 : Value).ownBlock) rfl rfl ?aP (fun _ hk => hk) ?aF ?aO ?aB ?aS ?aL ?_; (case aP => first | exact rise_aP1 (rd_T48 l0 x4_1) HL203_7.out _ | exact rise_aP0 (rd_T48 l0 x4_1) HL203_7.out); (case aB => exact (by repeat (first | (with_reducible first | exact HB.out | apply below_alloc | apply pw_below_drewN | apply below_drew1) | exact HB.out))); (case aF => exact (fun k_ hk => (.inr (Nat.le_trans (below_size (by repeat (first | (with_reducible first | exact HB.out | apply below_alloc | apply pw_below_drewN | apply below_drew1) | exact HB.out))) hk)))); (case aO => exact (by (with_reducible repeat (first | apply Kd.N_alloc | apply Kd.N_drewN | apply Kd.N_drew)); exact HO_3.out)); (case aS => exact (below_size (by repeat (first | (with_reducible first | exact HB.out | apply below_alloc | apply pw_below_drewN | apply below_drew1) | exact HB.out)))); (case aL => have := LMc11.out; omega); intro v205 w13 ho hb hg hat; rw [← Ny204.out] at ho; have n0_ := Aside0.mk (Kd.V_afterv (ok := (fun k_ => (P0_ k_ ∨ w.heap.size ≤ k_))) (by (with_reducible repeat (first | apply Kd.V_alloc | apply Kd.V_drewN | apply Kd.V_drew)); exact HO_0.out) hg hat); have n1_ := Aside0.mk (Kd.V_afterv (ok := (fun k_ => (P0_ k_ ∨ w.heap.size ≤ k_))) (by (with_reducible repeat (first | apply Kd.V_alloc | apply Kd.V_drewN | apply Kd.V_drew)); exact HL203_7.out) hg hat); have n2_ := Aside0.mk (hb); have n3_ := Aside0.mk (ho); clear HO_0; clear HL203_7; clear HB; clear HO_3; have HO_0 := n0_; have HL203_7 := n1_; have HB := n2_; have HO206 := n3_; clear n0_ n1_ n2_ n3_; clear ho hb hg hat))
                    repeat (go_quiet (first | ((with_reducible refine gate_builtin (b := .append) (xs := #[.tmp 35, .tmp 40]) rfl ?_); (try (refine gate_guard (by rfl) ?_; dsimp only)); at_builtin; refine Kd.N_append k48 (w0 := w) w.heap.size rfl (.tmp 35) (.tmp 40) 44 48 (.agg #[(.int .i64 0), (.int .i64 0), (.int .i64 0), (.int .i64 0), (.string ⟨#[]⟩), (.int .i64 0), (.int .u32 0), (.slice none 0 0)]) 88 rfl Try.underlying44 info48 rfl (by decide) (by omega) (.slice Ao12 x3_1.length co12) x3_1 (⟨(rd_T48 l0 x4_1).f0, (rd_T48 l0 x4_1).f1, (rd_T48 l0 x4_1).f2, (rd_T48 l0 x4_1).f3, (rd_T48 l0 x4_1).f4, (rd_T48 l0 x4_1).f5, (rd_T48 l0 x4_1).f6, (rd_T48 l0 x4_1).f7⟩ : S48) [.int .i64 ((rd_T48 l0 x4_1).f0), .int .i64 ((rd_T48 l0 x4_1).f1), .int .i64 ((rd_T48 l0 x4_1).f2), .int .i64 ((rd_T48 l0 x4_1).f3), .string ((rd_T48 l0 x4_1).f4), .int .i64 ((rd_T48 l0 x4_1).f5), .int .u32 ((rd_T48 l0 x4_1).f6), .slice A203_7 ((rd_T48 l0 x4_1).f7).length c203_7] (fun k_ => (P0_ k_ ∨ w.heap.size ≤ k_)) (fun k_ => ((fun k_ => (P0_ k_ ∨ w.heap.size ≤ k_))) k_ ∧ some k_ ≠ (.slice Ao12 x3_1.length co12 : Value).ownBlock) rfl rfl ?aP (fun _ hk => hk) ?aF ?aO ?aB ?aS ?aL ?_; (case aP => first | exact rise_aP1 (rd_T48 l0 x4_1) HL203_7.out _ | exact rise_aP0 (rd_T48 l0 x4_1) HL203_7.out); (case aB => exact (by repeat (first | (with_reducible first | exact HB.out | apply below_alloc | apply pw_below_drewN | apply below_drew1) | exact HB.out))); (case aF => exact (fun k_ hk => (.inr (Nat.le_trans (below_size (by repeat (first | (with_reducible first | exact HB.out | apply below_alloc | apply pw_below_drewN | apply below_drew1) | exact HB.out))) hk)))); (case aO => exact (by (with_reducible repeat (first | apply Kd.N_alloc | apply Kd.N_drewN | apply Kd.N_drew)); exact HO_3.out)); (case aS => exact (below_size (by repeat (first | (with_reducible first | exact HB.out | apply below_alloc | apply pw_below_drewN | apply below_drew1) | exact HB.out)))); (case aL => have := LMc11.out; omega); intro v205 w13 ho hb hg hat; rw [← Ny204.out] at ho; have n0_ := Aside0.mk (Kd.V_afterv (ok := (fun k_ => (P0_ k_ ∨ w.heap.size ≤ k_))) (by (with_reducible repeat (first | apply Kd.V_alloc | apply Kd.V_drewN | apply Kd.V_drew)); exact HO_0.out) hg hat); have n1_ := Aside0.mk (Kd.V_afterv (ok := (fun k_ => (P0_ k_ ∨ w.heap.size ≤ k_))) (by (with_reducible repeat (first | apply Kd.V_alloc | apply Kd.V_drewN | apply Kd.V_drew)); exact HL203_7.out) hg hat); have n2_ := Aside0.mk (hb); have n3_ := Aside0.mk (ho); clear HO_0; clear HL203_7; clear HB; clear HO_3; have HO_0 := n0_; have HL203_7 := n1_; have HB := n2_; have HO206 := n3_; clear n0_ n1_ n2_ n3_; clear ho hb hg hat)); try go_wp2_with (first | ((with_reducible refine gate_builtin (b := .append) (xs := #[.tmp 35, .tmp 40]) rfl ?_); (try (refine gate_guard (by rfl) ?_; dsimp only)); at_builtin; refine Kd.N_append k48 (w0 := w) w.heap.size rfl (.tmp 35) (.tmp 40) 44 48 (.agg #[(.int .i64 0), (.int .i64 0), (.int .i64 0), (.int .i64 0), (.string ⟨#[]⟩), (.int .i64 0), (.int .u32 0), (.slice none 0 0)]) 88 rfl Try.underlying44 info48 rfl (by decide) (by omega) (.slice Ao12 x3_1.length co12) x3_1 (⟨(rd_T48 l0 x4_1).f0, (rd_T48 l0 x4_1).f1, (rd_T48 l0 x4_1).f2, (rd_T48 l0 x4_1).f3, (rd_T48 l0 x4_1).f4, (rd_T48 l0 x4_1).f5, (rd_T48 l0 x4_1).f6, (rd_T48 l0 x4_1).f7⟩ : S48) [.int .i64 ((rd_T48 l0 x4_1).f0), .int .i64 ((rd_T48 l0 x4_1).f1), .int .i64 ((rd_T48 l0 x4_1).f2), .int .i64 ((rd_T48 l0 x4_1).f3), .string ((rd_T48 l0 x4_1).f4), .int .i64 ((rd_T48 l0 x4_1).f5), .int .u32 ((rd_T48 l0 x4_1).f6), .slice A203_7 ((rd_T48 l0 x4_1).f7).length c203_7] (fun k_ => (P0_ k_ ∨ w.heap.size ≤ k_)) (fun k_ => ((fun k_ => (P0_ k_ ∨ w.heap.size ≤ k_))) k_ ∧ some k_ ≠ (.slice Ao12 x3_1.length co12 : Value).ownBlock) rfl rfl ?aP (fun _ hk => hk) ?aF ?aO ?aB ?aS ?aL ?_; (case aP => first | exact rise_aP1 (rd_T48 l0 x4_1) HL203_7.out _ | exact rise_aP0 (rd_T48 l0 x4_1) HL203_7.out); (case aB => exact (by repeat (first | (with_reducible first | exact HB.out | apply below_alloc | apply pw_below_drewN | apply below_drew1) | exact HB.out))); (case aF => exact (fun k_ hk => (.inr (Nat.le_trans (below_size (by repeat (first | (with_reducible first | exact HB.out | apply below_alloc | apply pw_below_drewN | apply below_drew1) | exact HB.out))) hk)))); (case aO => exact (by (with_reducible repeat (first | apply Kd.N_alloc | apply Kd.N_drewN | apply Kd.N_drew)); exact HO_3.out)); (case aS => exact (below_size (by repeat (first | (with_reducible first | exact HB.out | apply below_alloc | apply pw_below_drewN | apply below_drew1) | exact HB.out)))); (case aL => have := LMc11.out; omega); intro v205 w13 ho hb hg hat; rw [← Ny204.out] at ho; have n0_ := Aside0.mk (Kd.V_afterv (ok := (fun k_ => (P0_ k_ ∨ w.heap.size ≤ k_))) (by (with_reducible repeat (first | apply Kd.V_alloc | apply Kd.V_drewN | apply Kd.V_drew)); exact HO_0.out) hg hat); have n1_ := Aside0.mk (Kd.V_afterv (ok := (fun k_ => (P0_ k_ ∨ w.heap.size ≤ k_))) (by (with_reducible repeat (first | apply Kd.V_alloc | apply Kd.V_drewN | apply Kd.V_drew)); exact HL203_7.out) hg hat); have n2_ := Aside0.mk (hb); have n3_ := Aside0.mk (ho); clear HO_0; clear HL203_7; clear HB; clear HO_3; have HO_0 := n0_; have HL203_7 := n1_; have HB := n2_; have HO206 := n3_; clear n0_ n1_ n2_ n3_; clear ho hb hg hat)))
                    go_roundg kj3
                    case measure => have := HK1.out; have := HJ3.out; omega
                    case rel => exact ⟨(y204), (wrap64 (x4_1 + 1)), (by first | rfl | (simp; done) | (simp [*]; done)), H', ⟨by have := HK1.out; have := HJ3.out; omega⟩, ⟨by (with_reducible repeat (first | apply Kd.V_alloc | apply Kd.V_drewN | apply Kd.V_drew)); exact HO_0.out⟩, ⟨by (with_reducible repeat (first | apply Kd.N_alloc | apply Kd.N_drewN | apply Kd.N_drew)); exact HO206.out⟩, ⟨by repeat (first | (with_reducible first | exact HB.out | apply below_alloc | apply pw_below_drewN | apply below_drew1) | exact HB.out)⟩⟩
                  · rw [if_neg c11] at H
                    exact absurd H (by simp)
                · rw [if_neg c10] at H
                  exact absurd H (by simp)
              · rw [if_neg c9] at H
                exact absurd H (by simp)
            · rw [if_neg c8] at H
              have c8b0 : ((x3_1.length : Int) == 0) = false := beq_eq_false_iff_ne.mpr c8
              have c8b1 : ((x3_1.length : Int) != 0) = true := bne_iff_ne.mpr c8
              have c8b2 : ¬ (x3_1 = []) := fun h_ => c8 (by rw [h_]; rfl)
              by_cases c14 : 0 ≤ x4_1
              · rw [if_pos c14] at H
                have c14b0 : decide (0 ≤ x4_1) = true := decide_eq_true c14
                clear c14
                by_cases c15 : x4_1 < (l0.length : Int)
                · rw [if_pos c15] at H
                  have c15b0 : decide (x4_1 < (l0.length : Int)) = true := decide_eq_true c15
                  clear c15
                  obtain ⟨ji16, hji16⟩ : ∃ j_ : Int, (wrap64 ((x3_1.length : Int) - 1)) = j_ := ⟨_, rfl⟩
                  replace H : (if 0 ≤ (ji16) then (if (ji16) < (x3_1.length : Int) then (if ((rd_T48 l0 x4_1).f0) > ((rd_T48 x3_1 (ji16)).f0) then (if x3_1.length < 1599289640401 then (deadeyelaw10_rising.l0 kj3 l0 (x3_1 ++ [(⟨(rd_T48 l0 x4_1).f0, (rd_T48 l0 x4_1).f1, (rd_T48 l0 x4_1).f2, (rd_T48 l0 x4_1).f3, (rd_T48 l0 x4_1).f4, (rd_T48 l0 x4_1).f5, (rd_T48 l0 x4_1).f6, (rd_T48 l0 x4_1).f7⟩ : S48)]) (wrap64 (x4_1 + 1))) else (none)) else (deadeyelaw10_rising.l0 kj3 l0 x3_1 (wrap64 (x4_1 + 1)))) else (none)) else (none)) = some r := by first | (rw [hji16] at H; exact H) | (simp only [hji16] at H ⊢; exact H)
                  have hji16w : (IntKind.i64.wrap ((x3_1.length : Int) - 1)) = ji16 := (i64_w _).trans hji16
                  by_cases c17 : 0 ≤ (ji16)
                  · rw [if_pos c17] at H
                    have c17b0 : decide (0 ≤ (ji16)) = true := decide_eq_true c17
                    clear c17
                    by_cases c18 : (ji16) < (x3_1.length : Int)
                    · rw [if_pos c18] at H
                      have c18b0 : decide ((ji16) < (x3_1.length : Int)) = true := decide_eq_true c18
                      clear c18
                      by_cases c19 : ((rd_T48 l0 x4_1).f0) > ((rd_T48 x3_1 (ji16)).f0)
                      · rw [if_pos c19] at H
                        have c19b0 : decide (((rd_T48 x3_1 (ji16)).f0) < ((rd_T48 l0 x4_1).f0)) = true := decide_eq_true c19
                        clear c19
                        by_cases c20 : x3_1.length < 1599289640401
                        · rw [if_pos c20] at H
                          have LMc20 := Aside0.mk c20
                          clear c20
                          obtain ⟨y210, hy210⟩ : ∃ y_ : List (S48), y_ = (x3_1 ++ [(⟨(rd_T48 l0 x4_1).f0, (rd_T48 l0 x4_1).f1, (rd_T48 l0 x4_1).f2, (rd_T48 l0 x4_1).f3, (rd_T48 l0 x4_1).f4, (rd_T48 l0 x4_1).f5, (rd_T48 l0 x4_1).f6, (rd_T48 l0 x4_1).f7⟩ : S48)]) := ⟨_, rfl⟩
                          replace H : (deadeyelaw10_rising.l0 kj3 l0 y210 (wrap64 (x4_1 + 1))) = some r := by first | (rw [hy210]; with_reducible exact H) | (have H2_ := (Option.bind_some _ _).symm.trans H; rw [hy210]; with_reducible exact H2_) | (have H2_ := (Option.bind_some _ _).symm.trans H; with_reducible exact H2_) | with_reducible exact H | (rw [hy210]; exact H) | exact H
                          have Ny210 := Aside0.mk hy210
                          clear hy210
                          have H' := Aside0.mk H
                          clear H
                          obtain ⟨Ao21, co21, eo21⟩ := Kd.N_slice HO_3.out
                          subst eo21
                          have p207 : 0 ≤ (x4_1 : Int) := of_decide_eq_true (by first | (with_reducible assumption) | assumption)
                          have q207 : x4_1 < (l0.length : Int) := of_decide_eq_true (by first | (with_reducible assumption) | assumption)
                          obtain ⟨ad207, A207_7, c207_7, e207, hx207_0, hx207_1, hx207_2, hx207_3, hx207_4, hx207_5, hx207_6, hx207_7, hl207_7, hi207_7⟩ := at_T48 (Kd.V_reads' HO_0.out).2.2 x4_1 p207 q207
                          cases e207
                          obtain ⟨ce207, hce207, hMe207, hcc207⟩ := Kd.V_get HO_0.out z48 x4_1 p207 (by first | exact q207 | exact of_decide_eq_true (by first | (with_reducible assumption) | assumption) | (have e_ := (Kd.V_reads' HO_0.out).1; omega))
                          obtain ⟨ua207_7, uc207_7, rfl, ul207_7, ge207_7⟩ := k48_openF hMe207
                          have hv207_7 := hcc207 7 _ rfl
                          rw [add_field _ _ 7 (by omega)] at hv207_7
                          replace hv207_7 := Option.some.inj (hv207_7.symm.trans hx207_7)
                          injection hv207_7 with hva_ hvn_ hvc_
                          rw [hva_] at ge207_7
                          rw [hvc_] at ul207_7
                          have HL207_7 := Aside0.mk (show Kd.V (Kd.int .u8) 5 _ w.heap.size _ _ ((rd_T48 l0 x4_1).f7) from Kd.V_mk ul207_7 ge207_7)
                          clear hva_ hvn_ hvc_ ge207_7 ul207_7
                          clear hcc207 hce207
                          have HR207_7 := Aside0.mk hi207_7
                          have HC207_7 := Aside0.mk hl207_7
                          clear hi207_7 hl207_7
                          replace p207 := eq_true p207
                          replace q207 := eq_true q207
                          have p208 : 0 ≤ ((ji16) : Int) := of_decide_eq_true (by first | (with_reducible assumption) | assumption)
                          have q208 : (ji16) < (x3_1.length : Int) := of_decide_eq_true (by first | (with_reducible assumption) | assumption)
                          obtain ⟨ad208, A208_7, c208_7, e208, hx208_0, hx208_1, hx208_2, hx208_3, hx208_4, hx208_5, hx208_6, hx208_7, hl208_7, hi208_7⟩ := at_T48 (Kd.N_reads' HO_3.out).2.2 (ji16) p208 q208
                          cases e208
                          obtain ⟨ce208, hce208, hMe208, hcc208⟩ := Kd.N_get HO_3.out z48 (ji16) p208 (by first | exact q208 | exact of_decide_eq_true (by first | (with_reducible assumption) | assumption) | (have e_ := (Kd.N_reads' HO_3.out).1; omega))
                          obtain ⟨ua208_7, uc208_7, rfl, ul208_7, ge208_7⟩ := k48_openF hMe208
                          have hv208_7 := hcc208 7 _ rfl
                          rw [add_field _ _ 7 (by omega)] at hv208_7
                          replace hv208_7 := Option.some.inj (hv208_7.symm.trans hx208_7)
                          injection hv208_7 with hva_ hvn_ hvc_
                          rw [hva_] at ge208_7
                          rw [hvc_] at ul208_7
                          have HL208_7 := Aside0.mk (show Kd.V (Kd.int .u8) 5 _ w.heap.size _ _ ((rd_T48 x3_1 (ji16)).f7) from Kd.V_mk ul208_7 ge208_7)
                          clear hva_ hvn_ hvc_ ge208_7 ul208_7
                          clear hcc208 hce208
                          have HR208_7 := Aside0.mk hi208_7
                          have HC208_7 := Aside0.mk hl208_7
                          clear hi208_7 hl208_7
                          replace p208 := eq_true p208
                          replace q208 := eq_true q208
                          have p209 : 0 ≤ (x4_1 : Int) := of_decide_eq_true (by first | (with_reducible assumption) | assumption)
                          have q209 : x4_1 < (l0.length : Int) := of_decide_eq_true (by first | (with_reducible assumption) | assumption)
                          obtain ⟨ad209, A209_7, c209_7, e209, hx209_0, hx209_1, hx209_2, hx209_3, hx209_4, hx209_5, hx209_6, hx209_7, hl209_7, hi209_7⟩ := at_T48 (Kd.V_reads' HO_0.out).2.2 x4_1 p209 q209
                          obtain rfl : ad207 = ad209 := (by injection e209)
                          obtain ⟨ce209, hce209, hMe209, hcc209⟩ := Kd.V_get HO_0.out z48 x4_1 p209 (by first | exact q209 | exact of_decide_eq_true (by first | (with_reducible assumption) | assumption) | (have e_ := (Kd.V_reads' HO_0.out).1; omega))
                          obtain ⟨ua209_7, uc209_7, rfl, ul209_7, ge209_7⟩ := k48_openF hMe209
                          have hv209_7 := hcc209 7 _ rfl
                          rw [add_field _ _ 7 (by omega)] at hv209_7
                          replace hv209_7 := Option.some.inj (hv209_7.symm.trans hx209_7)
                          injection hv209_7 with hva_ hvn_ hvc_
                          rw [hva_] at ge209_7
                          rw [hvc_] at ul209_7
                          have HL209_7 := Aside0.mk (show Kd.V (Kd.int .u8) 5 _ w.heap.size _ _ ((rd_T48 l0 x4_1).f7) from Kd.V_mk ul209_7 ge209_7)
                          clear hva_ hvn_ hvc_ ge209_7 ul209_7
                          clear hcc209 hce209
                          have HR209_7 := Aside0.mk hi209_7
                          have HC209_7 := Aside0.mk hl209_7
                          clear hi209_7 hl209_7
                          replace p209 := eq_true p209
                          replace q209 := eq_true q209
                          have ea_ := Option.some.inj (hx207_7.symm.trans hx209_7)
                          injection ea_ with ea_ en_ ec_
                          subst ea_
                          subst ec_
                          clear en_
                          go_wp2_with (first | ((with_reducible refine gate_builtin (b := .append) (xs := #[.tmp 35, .tmp 40]) rfl ?_); (try (refine gate_guard (by rfl) ?_; dsimp only)); at_builtin; refine Kd.N_append k48 (w0 := w) w.heap.size rfl (.tmp 35) (.tmp 40) 44 48 (.agg #[(.int .i64 0), (.int .i64 0), (.int .i64 0), (.int .i64 0), (.string ⟨#[]⟩), (.int .i64 0), (.int .u32 0), (.slice none 0 0)]) 88 rfl Try.underlying44 info48 rfl (by decide) (by omega) (.slice (some ad208) x3_1.length co21) x3_1 (⟨(rd_T48 l0 x4_1).f0, (rd_T48 l0 x4_1).f1, (rd_T48 l0 x4_1).f2, (rd_T48 l0 x4_1).f3, (rd_T48 l0 x4_1).f4, (rd_T48 l0 x4_1).f5, (rd_T48 l0 x4_1).f6, (rd_T48 l0 x4_1).f7⟩ : S48) [.int .i64 ((rd_T48 l0 x4_1).f0), .int .i64 ((rd_T48 l0 x4_1).f1), .int .i64 ((rd_T48 l0 x4_1).f2), .int .i64 ((rd_T48 l0 x4_1).f3), .string ((rd_T48 l0 x4_1).f4), .int .i64 ((rd_T48 l0 x4_1).f5), .int .u32 ((rd_T48 l0 x4_1).f6), .slice A207_7 ((rd_T48 l0 x4_1).f7).length c207_7] (fun k_ => (P0_ k_ ∨ w.heap.size ≤ k_)) (fun k_ => ((fun k_ => (P0_ k_ ∨ w.heap.size ≤ k_))) k_ ∧ some k_ ≠ (.slice (some ad208) x3_1.length co21 : Value).ownBlock) rfl rfl ?aP (fun _ hk => hk) ?aF ?aO ?aB ?aS ?aL ?_; (case aP => first | exact rise_aP1 (rd_T48 l0 x4_1) HL209_7.out _ | exact rise_aP0 (rd_T48 l0 x4_1) HL209_7.out); (case aB => exact (by repeat (first | (with_reducible first | exact HB.out | apply below_alloc | apply pw_below_drewN | apply below_drew1) | exact HB.out))); (case aF => exact (fun k_ hk => (.inr (Nat.le_trans (below_size (by repeat (first | (with_reducible first | exact HB.out | apply below_alloc | apply pw_below_drewN | apply below_drew1) | exact HB.out))) hk)))); (case aO => exact (by (with_reducible repeat (first | apply Kd.N_alloc | apply Kd.N_drewN | apply Kd.N_drew)); exact HO_3.out)); (case aS => exact (below_size (by repeat (first | (with_reducible first | exact HB.out | apply below_alloc | apply pw_below_drewN | apply below_drew1) | exact HB.out)))); (case aL => have := LMc20.out; omega); intro v211 w22 ho hb hg hat; rw [← Ny210.out] at ho; have n0_ := Aside0.mk (Kd.V_afterv (ok := (fun k_ => (P0_ k_ ∨ w.heap.size ≤ k_))) (by (with_reducible repeat (first | apply Kd.V_alloc | apply Kd.V_drewN | apply Kd.V_drew)); exact HO_0.out) hg hat); have n1_ := Aside0.mk (Kd.V_afterv (ok := (fun k_ => (P0_ k_ ∨ w.heap.size ≤ k_))) (by (with_reducible repeat (first | apply Kd.V_alloc | apply Kd.V_drewN | apply Kd.V_drew)); exact HL207_7.out) hg hat); have n2_ := Aside0.mk (Kd.V_afterv (ok := (fun k_ => (P0_ k_ ∨ w.heap.size ≤ k_))) (by (with_reducible repeat (first | apply Kd.V_alloc | apply Kd.V_drewN | apply Kd.V_drew)); exact HL208_7.out) hg hat); have n3_ := Aside0.mk (Kd.V_afterv (ok := (fun k_ => (P0_ k_ ∨ w.heap.size ≤ k_))) (by (with_reducible repeat (first | apply Kd.V_alloc | apply Kd.V_drewN | apply Kd.V_drew)); exact HL209_7.out) hg hat); have n4_ := Aside0.mk (hb); have n5_ := Aside0.mk (ho); clear HO_0; clear HL207_7; clear HL208_7; clear HL209_7; clear HB; clear HO_3; have HO_0 := n0_; have HL207_7 := n1_; have HL208_7 := n2_; have HL209_7 := n3_; have HB := n4_; have HO212 := n5_; clear n0_ n1_ n2_ n3_ n4_ n5_; clear ho hb hg hat))
                          repeat (go_quiet (first | ((with_reducible refine gate_builtin (b := .append) (xs := #[.tmp 35, .tmp 40]) rfl ?_); (try (refine gate_guard (by rfl) ?_; dsimp only)); at_builtin; refine Kd.N_append k48 (w0 := w) w.heap.size rfl (.tmp 35) (.tmp 40) 44 48 (.agg #[(.int .i64 0), (.int .i64 0), (.int .i64 0), (.int .i64 0), (.string ⟨#[]⟩), (.int .i64 0), (.int .u32 0), (.slice none 0 0)]) 88 rfl Try.underlying44 info48 rfl (by decide) (by omega) (.slice (some ad208) x3_1.length co21) x3_1 (⟨(rd_T48 l0 x4_1).f0, (rd_T48 l0 x4_1).f1, (rd_T48 l0 x4_1).f2, (rd_T48 l0 x4_1).f3, (rd_T48 l0 x4_1).f4, (rd_T48 l0 x4_1).f5, (rd_T48 l0 x4_1).f6, (rd_T48 l0 x4_1).f7⟩ : S48) [.int .i64 ((rd_T48 l0 x4_1).f0), .int .i64 ((rd_T48 l0 x4_1).f1), .int .i64 ((rd_T48 l0 x4_1).f2), .int .i64 ((rd_T48 l0 x4_1).f3), .string ((rd_T48 l0 x4_1).f4), .int .i64 ((rd_T48 l0 x4_1).f5), .int .u32 ((rd_T48 l0 x4_1).f6), .slice A207_7 ((rd_T48 l0 x4_1).f7).length c207_7] (fun k_ => (P0_ k_ ∨ w.heap.size ≤ k_)) (fun k_ => ((fun k_ => (P0_ k_ ∨ w.heap.size ≤ k_))) k_ ∧ some k_ ≠ (.slice (some ad208) x3_1.length co21 : Value).ownBlock) rfl rfl ?aP (fun _ hk => hk) ?aF ?aO ?aB ?aS ?aL ?_; (case aP => first | exact rise_aP1 (rd_T48 l0 x4_1) HL209_7.out _ | exact rise_aP0 (rd_T48 l0 x4_1) HL209_7.out); (case aB => exact (by repeat (first | (with_reducible first | exact HB.out | apply below_alloc | apply pw_below_drewN | apply below_drew1) | exact HB.out))); (case aF => exact (fun k_ hk => (.inr (Nat.le_trans (below_size (by repeat (first | (with_reducible first | exact HB.out | apply below_alloc | apply pw_below_drewN | apply below_drew1) | exact HB.out))) hk)))); (case aO => exact (by (with_reducible repeat (first | apply Kd.N_alloc | apply Kd.N_drewN | apply Kd.N_drew)); exact HO_3.out)); (case aS => exact (below_size (by repeat (first | (with_reducible first | exact HB.out | apply below_alloc | apply pw_below_drewN | apply below_drew1) | exact HB.out)))); (case aL => have := LMc20.out; omega); intro v211 w22 ho hb hg hat; rw [← Ny210.out] at ho; have n0_ := Aside0.mk (Kd.V_afterv (ok := (fun k_ => (P0_ k_ ∨ w.heap.size ≤ k_))) (by (with_reducible repeat (first | apply Kd.V_alloc | apply Kd.V_drewN | apply Kd.V_drew)); exact HO_0.out) hg hat); have n1_ := Aside0.mk (Kd.V_afterv (ok := (fun k_ => (P0_ k_ ∨ w.heap.size ≤ k_))) (by (with_reducible repeat (first | apply Kd.V_alloc | apply Kd.V_drewN | apply Kd.V_drew)); exact HL207_7.out) hg hat); have n2_ := Aside0.mk (Kd.V_afterv (ok := (fun k_ => (P0_ k_ ∨ w.heap.size ≤ k_))) (by (with_reducible repeat (first | apply Kd.V_alloc | apply Kd.V_drewN | apply Kd.V_drew)); exact HL208_7.out) hg hat); have n3_ := Aside0.mk (Kd.V_afterv (ok := (fun k_ => (P0_ k_ ∨ w.heap.size ≤ k_))) (by (with_reducible repeat (first | apply Kd.V_alloc | apply Kd.V_drewN | apply Kd.V_drew)); exact HL209_7.out) hg hat); have n4_ := Aside0.mk (hb); have n5_ := Aside0.mk (ho); clear HO_0; clear HL207_7; clear HL208_7; clear HL209_7; clear HB; clear HO_3; have HO_0 := n0_; have HL207_7 := n1_; have HL208_7 := n2_; have HL209_7 := n3_; have HB := n4_; have HO212 := n5_; clear n0_ n1_ n2_ n3_ n4_ n5_; clear ho hb hg hat)); try go_wp2_with (first | ((with_reducible refine gate_builtin (b := .append) (xs := #[.tmp 35, .tmp 40]) rfl ?_); (try (refine gate_guard (by rfl) ?_; dsimp only)); at_builtin; refine Kd.N_append k48 (w0 := w) w.heap.size rfl (.tmp 35) (.tmp 40) 44 48 (.agg #[(.int .i64 0), (.int .i64 0), (.int .i64 0), (.int .i64 0), (.string ⟨#[]⟩), (.int .i64 0), (.int .u32 0), (.slice none 0 0)]) 88 rfl Try.underlying44 info48 rfl (by decide) (by omega) (.slice (some ad208) x3_1.length co21) x3_1 (⟨(rd_T48 l0 x4_1).f0, (rd_T48 l0 x4_1).f1, (rd_T48 l0 x4_1).f2, (rd_T48 l0 x4_1).f3, (rd_T48 l0 x4_1).f4, (rd_T48 l0 x4_1).f5, (rd_T48 l0 x4_1).f6, (rd_T48 l0 x4_1).f7⟩ : S48) [.int .i64 ((rd_T48 l0 x4_1).f0), .int .i64 ((rd_T48 l0 x4_1).f1), .int .i64 ((rd_T48 l0 x4_1).f2), .int .i64 ((rd_T48 l0 x4_1).f3), .string ((rd_T48 l0 x4_1).f4), .int .i64 ((rd_T48 l0 x4_1).f5), .int .u32 ((rd_T48 l0 x4_1).f6), .slice A207_7 ((rd_T48 l0 x4_1).f7).length c207_7] (fun k_ => (P0_ k_ ∨ w.heap.size ≤ k_)) (fun k_ => ((fun k_ => (P0_ k_ ∨ w.heap.size ≤ k_))) k_ ∧ some k_ ≠ (.slice (some ad208) x3_1.length co21 : Value).ownBlock) rfl rfl ?aP (fun _ hk => hk) ?aF ?aO ?aB ?aS ?aL ?_; (case aP => first | exact rise_aP1 (rd_T48 l0 x4_1) HL209_7.out _ | exact rise_aP0 (rd_T48 l0 x4_1) HL209_7.out); (case aB => exact (by repeat (first | (with_reducible first | exact HB.out | apply below_alloc | apply pw_below_drewN | apply below_drew1) | exact HB.out))); (case aF => exact (fun k_ hk => (.inr (Nat.le_trans (below_size (by repeat (first | (with_reducible first | exact HB.out | apply below_alloc | apply pw_below_drewN | apply below_drew1) | exact HB.out))) hk)))); (case aO => exact (by (with_reducible repeat (first | apply Kd.N_alloc | apply Kd.N_drewN | apply Kd.N_drew)); exact HO_3.out)); (case aS => exact (below_size (by repeat (first | (with_reducible first | exact HB.out | apply below_alloc | apply pw_below_drewN | apply below_drew1) | exact HB.out)))); (case aL => have := LMc20.out; omega); intro v211 w22 ho hb hg hat; rw [← Ny210.out] at ho; have n0_ := Aside0.mk (Kd.V_afterv (ok := (fun k_ => (P0_ k_ ∨ w.heap.size ≤ k_))) (by (with_reducible repeat (first | apply Kd.V_alloc | apply Kd.V_drewN | apply Kd.V_drew)); exact HO_0.out) hg hat); have n1_ := Aside0.mk (Kd.V_afterv (ok := (fun k_ => (P0_ k_ ∨ w.heap.size ≤ k_))) (by (with_reducible repeat (first | apply Kd.V_alloc | apply Kd.V_drewN | apply Kd.V_drew)); exact HL207_7.out) hg hat); have n2_ := Aside0.mk (Kd.V_afterv (ok := (fun k_ => (P0_ k_ ∨ w.heap.size ≤ k_))) (by (with_reducible repeat (first | apply Kd.V_alloc | apply Kd.V_drewN | apply Kd.V_drew)); exact HL208_7.out) hg hat); have n3_ := Aside0.mk (Kd.V_afterv (ok := (fun k_ => (P0_ k_ ∨ w.heap.size ≤ k_))) (by (with_reducible repeat (first | apply Kd.V_alloc | apply Kd.V_drewN | apply Kd.V_drew)); exact HL209_7.out) hg hat); have n4_ := Aside0.mk (hb); have n5_ := Aside0.mk (ho); clear HO_0; clear HL207_7; clear HL208_7; clear HL209_7; clear HB; clear HO_3; have HO_0 := n0_; have HL207_7 := n1_; have HL208_7 := n2_; have HL209_7 := n3_; have HB := n4_; have HO212 := n5_; clear n0_ n1_ n2_ n3_ n4_ n5_; clear ho hb hg hat)))
                          go_roundg kj3
                          case measure => have := HK1.out; have := HJ3.out; omega
                          case rel => exact ⟨(y210), (wrap64 (x4_1 + 1)), (by first | rfl | (simp; done) | (simp [*]; done)), H', ⟨by have := HK1.out; have := HJ3.out; omega⟩, ⟨by (with_reducible repeat (first | apply Kd.V_alloc | apply Kd.V_drewN | apply Kd.V_drew)); exact HO_0.out⟩, ⟨by (with_reducible repeat (first | apply Kd.N_alloc | apply Kd.N_drewN | apply Kd.N_drew)); exact HO212.out⟩, ⟨by repeat (first | (with_reducible first | exact HB.out | apply below_alloc | apply pw_below_drewN | apply below_drew1) | exact HB.out)⟩⟩
                        · rw [if_neg c20] at H
                          exact absurd H (by simp)
                      · rw [if_neg c19] at H
                        have c19b0 : decide (((rd_T48 x3_1 (ji16)).f0) < ((rd_T48 l0 x4_1).f0)) = false := decide_eq_false c19
                        clear c19
                        have H' := Aside0.mk H
                        clear H
                        obtain ⟨Ao23, co23, eo23⟩ := Kd.N_slice HO_3.out
                        subst eo23
                        have p207 : 0 ≤ (x4_1 : Int) := of_decide_eq_true (by first | (with_reducible assumption) | assumption)
                        have q207 : x4_1 < (l0.length : Int) := of_decide_eq_true (by first | (with_reducible assumption) | assumption)
                        obtain ⟨ad207, A207_7, c207_7, e207, hx207_0, hx207_1, hx207_2, hx207_3, hx207_4, hx207_5, hx207_6, hx207_7, hl207_7, hi207_7⟩ := at_T48 (Kd.V_reads' HO_0.out).2.2 x4_1 p207 q207
                        cases e207
                        obtain ⟨ce207, hce207, hMe207, hcc207⟩ := Kd.V_get HO_0.out z48 x4_1 p207 (by first | exact q207 | exact of_decide_eq_true (by first | (with_reducible assumption) | assumption) | (have e_ := (Kd.V_reads' HO_0.out).1; omega))
                        obtain ⟨ua207_7, uc207_7, rfl, ul207_7, ge207_7⟩ := k48_openF hMe207
                        have hv207_7 := hcc207 7 _ rfl
                        rw [add_field _ _ 7 (by omega)] at hv207_7
                        replace hv207_7 := Option.some.inj (hv207_7.symm.trans hx207_7)
                        injection hv207_7 with hva_ hvn_ hvc_
                        rw [hva_] at ge207_7
                        rw [hvc_] at ul207_7
                        have HL207_7 := Aside0.mk (show Kd.V (Kd.int .u8) 5 _ w.heap.size _ _ ((rd_T48 l0 x4_1).f7) from Kd.V_mk ul207_7 ge207_7)
                        clear hva_ hvn_ hvc_ ge207_7 ul207_7
                        clear hcc207 hce207
                        have HR207_7 := Aside0.mk hi207_7
                        have HC207_7 := Aside0.mk hl207_7
                        clear hi207_7 hl207_7
                        replace p207 := eq_true p207
                        replace q207 := eq_true q207
                        have p208 : 0 ≤ ((ji16) : Int) := of_decide_eq_true (by first | (with_reducible assumption) | assumption)
                        have q208 : (ji16) < (x3_1.length : Int) := of_decide_eq_true (by first | (with_reducible assumption) | assumption)
                        obtain ⟨ad208, A208_7, c208_7, e208, hx208_0, hx208_1, hx208_2, hx208_3, hx208_4, hx208_5, hx208_6, hx208_7, hl208_7, hi208_7⟩ := at_T48 (Kd.N_reads' HO_3.out).2.2 (ji16) p208 q208
                        cases e208
                        obtain ⟨ce208, hce208, hMe208, hcc208⟩ := Kd.N_get HO_3.out z48 (ji16) p208 (by first | exact q208 | exact of_decide_eq_true (by first | (with_reducible assumption) | assumption) | (have e_ := (Kd.N_reads' HO_3.out).1; omega))
                        obtain ⟨ua208_7, uc208_7, rfl, ul208_7, ge208_7⟩ := k48_openF hMe208
                        have hv208_7 := hcc208 7 _ rfl
                        rw [add_field _ _ 7 (by omega)] at hv208_7
                        replace hv208_7 := Option.some.inj (hv208_7.symm.trans hx208_7)
                        injection hv208_7 with hva_ hvn_ hvc_
                        rw [hva_] at ge208_7
                        rw [hvc_] at ul208_7
                        have HL208_7 := Aside0.mk (show Kd.V (Kd.int .u8) 5 _ w.heap.size _ _ ((rd_T48 x3_1 (ji16)).f7) from Kd.V_mk ul208_7 ge208_7)
                        clear hva_ hvn_ hvc_ ge208_7 ul208_7
                        clear hcc208 hce208
                        have HR208_7 := Aside0.mk hi208_7
                        have HC208_7 := Aside0.mk hl208_7
                        clear hi208_7 hl208_7
                        replace p208 := eq_true p208
                        replace q208 := eq_true q208
                        go_wp2
                        repeat (go_quiet (fail); try go_wp2)
                        go_roundg kj3
                        case measure => have := HK1.out; have := HJ3.out; omega
                        case rel => exact ⟨(x3_1), (wrap64 (x4_1 + 1)), (by first | rfl | (simp; done) | (simp [*]; done)), H', ⟨by have := HK1.out; have := HJ3.out; omega⟩, ⟨by (with_reducible repeat (first | apply Kd.V_alloc | apply Kd.V_drewN | apply Kd.V_drew)); exact HO_0.out⟩, ⟨by (with_reducible repeat (first | apply Kd.N_alloc | apply Kd.N_drewN | apply Kd.N_drew)); exact HO_3.out⟩, ⟨by repeat (first | (with_reducible first | exact HB.out | apply below_alloc | apply pw_below_drewN | apply below_drew1) | exact HB.out)⟩⟩
                    · rw [if_neg c18] at H
                      exact absurd H (by simp)
                  · rw [if_neg c17] at H
                    exact absurd H (by simp)
                · rw [if_neg c15] at H
                  exact absurd H (by simp)
              · rw [if_neg c14] at H
                exact absurd H (by simp)
          · replace c7 := Bool.eq_false_iff.mpr c7
            subst c7
            have H1 : (some x3_1) = some r := by rw [if_neg (show ¬ (false = true) by decide)] at H; exact H
            clear H
            have H := H1
            clear H1
            obtain rfl := Option.some.inj H
            go_wp2
            repeat (go_quiet (fail); try go_wp2)
            go_ret
            exact ⟨_, by first | rfl | (simp [errW_none, errW_some] <;> rfl) | (simp [*, errW_none, errW_some] <;> rfl), by (with_reducible repeat (first | apply Kd.N_alloc | apply Kd.N_drewN | apply Kd.N_drew)); exact HO_3.out, by repeat (first | (with_reducible first | exact HB.out | apply below_alloc | apply pw_below_drewN | apply below_drew1) | exact HB.out)⟩

end Go.Proofs.Yteeeiaggkdlolaa.Ky
