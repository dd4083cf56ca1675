/- PlanAlive: whatever the input, the law answers true and leaves its arguments as they were. Condition: none. -/
import Derived.Test.YteeeiaggkdlolaaBr
import Derived.Test.YteeeiaggkdlolaaPlwd
import Derived.WalkKit
import Derived.ProofKit
import Derived.OpenShut
import Derived.ShutString
import Derived.ChangeOld
import Derived.Below
import Derived.SizedLaws
namespace Go.Proofs.Yteeeiaggkdlolaa.planAlive
open Go.ChangeShapes Go.WideShapes Go.ChangeAt Go.RowKit Go.Proofs.YteeeiaggkdlolaaW.PrintWords
set_option linter.unusedVariables false
theorem own : ownKnob Try.prog.godebug = none := by kernel_rfl
theorem laidOut : laidOutB Try.prog = true := by kernel_rfl
def G3 : Int → Prop := fun x => (Lit.int .i64 x).wf = true
def s3 : Int → Nat := fun _ => 1
theorem r3 : Br.Rdr Try.prog 3 (Kd.int .i64) G3 s3 := Br.Rdr.int Try.underlying3 (by kernel_rfl)
def G28 : List Int → Prop := fun l => l.length ≤ maxLen ∧ ∀ x ∈ l, G3 x
def s28 : List Int → Nat := fun l => (l.map s3).sum + 1
theorem r28 : Br.Rdr Try.prog 28 (Kd.slice 3 (Kd.int .i64)) G28 s28 := Br.Rdr.slice Try.underlying28 (by kernel_rfl) r3
def G5 : Int → Prop := fun x => (Lit.int .u8 x).wf = true
def s5 : Int → Nat := fun _ => 1
theorem r5 : Br.Rdr Try.prog 5 (Kd.int .u8) G5 s5 := Br.Rdr.int Try.underlying5 (by kernel_rfl)
def G26 : Pl.S26 → Prop := fun x => G3 x.f0 ∧ (G3 x.f1)
def s26 : Pl.S26 → Nat := fun x => s3 x.f0 + (s3 x.f1)
theorem r26 : Br.Rdr Try.prog 26 Pl.k26 G26 s26 := (Br.Rdr.struct Try.underlying26 (by kernel_rfl) (Br.RdrF.cons r3 (by rfl) (Br.RdrF.last r3))).iso _ (fun p => ⟨p.1, p.2⟩) (fun _ => rfl)
def G22 : List Pl.S26 → Prop := fun l => l.length ≤ maxLen ∧ ∀ x ∈ l, G26 x
def s22 : List Pl.S26 → Nat := fun l => (l.map s26).sum + 1
theorem r22 : Br.Rdr Try.prog 22 (Kd.slice 26 Pl.k26) G22 s22 := Br.Rdr.slice Try.underlying22 (by kernel_rfl) r26
set_option maxRecDepth 100000 in
theorem lifted (os : Os) (started : os.Started) (H : Type) (enc : TypeId × Value → H) :
    ReturnsInHanded {} Try.checked os 6 .any (Rows.planAliveSpec.pre6 enc Try.prog Try.f6 Rows.planAliveRow.domain false) (Rows.planAliveSpec.post enc Try.prog Try.f6 false true false false) := by
  refine returnsInHanded_of_change_sized (C := Try.checked) own started (by kernel_rfl) Try.func6
    (ChangeSpec.witness6 (enc := enc) (C := Try.checked) false ⟨#[], #[.agg #[.int .i64 0, .slice none 0 0], .int .u8 0, .slice none 0 0, .slice none 0 0], []⟩ 8 (by kernel_rfl) (by kernel_rfl) (by kernel_rfl) (by kernel_rfl)) ?_
  intro W base args ds gs before hval0 hW hcnd hsz0 _
  have hval : ∀ (j : Nat) t v, Try.f6.params[j]? = some t → args[j]? = some v → Value.okWide Try.prog W .any base t v := hval0
  have hW' := hW
  obtain ⟨p, q, hA0, hV, rfl, hfz, hnd⟩ := hW
  have hA : DataW.TrodAll enc Try.prog W 0 (fun _ => true) true Try.f6.params.toList args.toList ds p := hA0
  rw [Try.params6] at hA hval
  obtain ⟨v0, vs0, d0, ds0, p0, q0, hargs, rfl, rfl, h0, t0⟩ := trodAll_cons hA
  obtain ⟨v1, vs1, d1, ds1, p1, q1, rfl, rfl, rfl, h1, t1⟩ := trodAll_cons t0
  obtain ⟨v2, vs2, d2, ds2, p2, q2, rfl, rfl, rfl, h2, t2⟩ := trodAll_cons t1
  obtain ⟨v3, vs3, d3, ds3, p3, q3, rfl, rfl, rfl, h3, t3⟩ := trodAll_cons t2
  obtain ⟨rfl, rfl, rfl⟩ := trodAll_nil t3
  obtain rfl : args = #[v0, v1, v2, v3] := by cases args; simp_all
  obtain ⟨rfl, rfl⟩ := trodVars_none hV
  have k0 := h0
  have lt0 : ∀ x ∈ p0, x.block < W.heap.size := by obtain ⟨m, hm⟩ := k0; exact DataW.trod_lt m _ _ _ hm
  have k1 := h1
  have lt1 : ∀ x ∈ p1, x.block < W.heap.size := by obtain ⟨m, hm⟩ := k1; exact DataW.trod_lt m _ _ _ hm
  have k2 := h2
  have lt2 : ∀ x ∈ p2, x.block < W.heap.size := by obtain ⟨m, hm⟩ := k2; exact DataW.trod_lt m _ _ _ hm
  have k3 := h3
  have lt3 : ∀ x ∈ p3, x.block < W.heap.size := by obtain ⟨m, hm⟩ := k3; exact DataW.trod_lt m _ _ _ hm
  obtain ⟨n0, f0⟩ := h0
  obtain ⟨x0, K0, G0, B0⟩ := (Br.Rdr.struct Try.underlying30 (by kernel_rfl) (Br.RdrF.cons r3 (by rfl) (Br.RdrF.last r28))).read f0
  obtain ⟨cs0_0, ct0_0, ee0_0, K0_0, K0_1⟩ := Br.FK_pair K0
  obtain rfl := Foot.now K0_0
  obtain ⟨A0_1, c0_1, rfl, l0_1, C0_1, V0_1⟩ := Br.FK_row K0_1
  obtain rfl := Br.agg_of Try.underlying30 (hval 0 30 v0 rfl rfl) ee0_0
  obtain ⟨n1, f1⟩ := h1
  obtain ⟨x1, K1, G1, B1⟩ := r5.read f1
  obtain rfl := Br.int_of Try.underlying5 (hval 1 5 v1 rfl rfl) (Foot.now K1)
  obtain ⟨n2, f2⟩ := h2
  obtain ⟨x2, K2, G2, B2⟩ := r22.read f2
  obtain ⟨A2, c2, e2, l2, C2, V2⟩ := Br.FK_row K2
  obtain rfl := Br.slice_of Try.underlying22 (hval 2 22 v2 rfl rfl) e2
  obtain ⟨n3, f3⟩ := h3
  obtain ⟨x3, K3, G3, B3⟩ := r28.read f3
  obtain ⟨A3, c3, e3, l3, C3, V3⟩ := Br.FK_row K3
  obtain rfl := Br.slice_of Try.underlying28 (hval 3 28 v3 rfl rfl) e3
  clear hA0 hval0
  obtain ⟨k, hk⟩ := Pl.PlanAlive_true x0.1 x1 G1 x0.2 x2 x3
  refine (Pl.deadeyelaw17_PlanAlive.calls k x0.1 (fun _ => True) A0_1 c0_1 x0.2 x1 (fun _ => True) A2 c2 x2 (fun _ => True) A3 c3 x3 true W (V0_1 _) (V2 _) (V3 _) hk).mono fun e W' ⟨he, bel⟩ => ?_
  subst he
  exact ⟨_, rfl, _, _, _, [], _, [], hW', trodAll_mk1 (shut_bool Try.underlying4 _), (trodAll_cons_mk (Below.trod laidOut (by kernel_rfl) (of_decide_eq_true (by kernel_rfl)) k0 bel lt0) (trodAll_cons_mk (Below.trod laidOut (by kernel_rfl) (of_decide_eq_true (by kernel_rfl)) k1 bel lt1) (trodAll_cons_mk (Below.trod laidOut (by kernel_rfl) (of_decide_eq_true (by kernel_rfl)) k2 bel lt2) (trodAll_cons_mk (Below.trod laidOut (by kernel_rfl) (of_decide_eq_true (by kernel_rfl)) k3 bel lt3) trodAll_mk0)))), rfl, bel.frame _, fun h => by cases h⟩
theorem over : Rows.planAliveRow.holds Try.pinned (OpenSpec.ofChange Rows.planAliveSpec) :=
  OpenClaim.holds_of_wide 6 Try.f6 rfl rfl rfl rfl rfl rfl rfl ⟨rfl, rfl, rfl, rfl, rfl⟩ rfl rfl rfl rfl rfl (by kernel_rfl) Try.func6 (by kernel_rfl)
    (of_decide_eq_true (by kernel_rfl)) (by unfold Func.isWrapper; first | (rw [if_pos (by decide +kernel)]; kernel_rfl) | (rw [if_neg (by decide +kernel)]; exact ⟨rfl, rfl⟩))
    (fun os started H enc _ => lifted os started H enc)
theorem proved : Rows.PlanAliveSaid := over
#print axioms proved
end Go.Proofs.Yteeeiaggkdlolaa.planAlive
namespace Go.Proofs.Yteeeiaggkdlolaa
/-- The row, under a short name, for the claim. -/
theorem planAlive_holds : Rows.PlanAliveSaid := planAlive.proved
end Go.Proofs.Yteeeiaggkdlolaa
