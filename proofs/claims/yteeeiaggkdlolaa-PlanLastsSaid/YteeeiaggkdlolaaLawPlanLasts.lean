/- PlanLasts: whatever the input, the law answers true and leaves its arguments as they were. Condition: none. -/
import Derived.Test.YteeeiaggkdlolaaBr
import Derived.Test.YteeeiaggkdlolaaPlwa
import Derived.WalkKit
import Derived.ProofKit
import Derived.OpenShut
import Derived.ShutString
import Derived.ChangeOld
import Derived.Below
import Derived.SizedLaws
namespace Go.Proofs.Yteeeiaggkdlolaa.planLasts
open Go.ChangeShapes Go.WideShapes Go.ChangeAt Go.RowKit Go.Proofs.YteeeiaggkdlolaaW.PrintWords
set_option linter.unusedVariables false
theorem own : ownKnob Try.prog.godebug = none := by kernel_rfl
theorem laidOut : laidOutB Try.prog = true := by kernel_rfl
def G3 : Int → Prop := fun x => (Lit.int .i64 x).wf = true
def s3 : Int → Nat := fun _ => 1
theorem r3 : Br.Rdr Try.prog 3 (Kd.int .i64) G3 s3 := Br.Rdr.int Try.underlying3 (by kernel_rfl)
def G26 : Pl.S26 → Prop := fun x => G3 x.f0 ∧ (G3 x.f1)
def s26 : Pl.S26 → Nat := fun x => s3 x.f0 + (s3 x.f1)
theorem r26 : Br.Rdr Try.prog 26 Pl.k26 G26 s26 := (Br.Rdr.struct Try.underlying26 (by kernel_rfl) (Br.RdrF.cons r3 (by rfl) (Br.RdrF.last r3))).iso _ (fun p => ⟨p.1, p.2⟩) (fun _ => rfl)
def G22 : List Pl.S26 → Prop := fun l => l.length ≤ maxLen ∧ ∀ x ∈ l, G26 x
def s22 : List Pl.S26 → Nat := fun l => (l.map s26).sum + 1
theorem r22 : Br.Rdr Try.prog 22 (Kd.slice 26 Pl.k26) G22 s22 := Br.Rdr.slice Try.underlying22 (by kernel_rfl) r26
set_option maxRecDepth 100000 in
theorem lifted (os : Os) (started : os.Started) (H : Type) (enc : TypeId × Value → H) :
    ReturnsInHanded {} Try.checked os 3 .any (Rows.planLastsSpec.pre6 enc Try.prog Try.f3 Rows.planLastsRow.domain false) (Rows.planLastsSpec.post enc Try.prog Try.f3 false true false false) := by
  refine returnsInHanded_of_change_sized (C := Try.checked) own started (by kernel_rfl) Try.func3
    (ChangeSpec.witness6 (enc := enc) (C := Try.checked) false ⟨#[], #[.slice none 0 0], []⟩ 8 (by kernel_rfl) (by kernel_rfl) (by kernel_rfl) (by kernel_rfl)) ?_
  intro W base args ds gs before hval0 hW hcnd hsz0 _
  have hval : ∀ (j : Nat) t v, Try.f3.params[j]? = some t → args[j]? = some v → Value.okWide Try.prog W .any base t v := hval0
  have hW' := hW
  obtain ⟨p, q, hA0, hV, rfl, hfz, hnd⟩ := hW
  have hA : DataW.TrodAll enc Try.prog W 0 (fun _ => true) true Try.f3.params.toList args.toList ds p := hA0
  rw [Try.params3] at hA hval
  obtain ⟨v0, vs0, d0, ds0, p0, q0, hargs, rfl, rfl, h0, t0⟩ := trodAll_cons hA
  obtain ⟨rfl, rfl, rfl⟩ := trodAll_nil t0
  obtain rfl : args = #[v0] := by cases args; simp_all
  obtain ⟨rfl, rfl⟩ := trodVars_none hV
  have k0 := h0
  have lt0 : ∀ x ∈ p0, x.block < W.heap.size := by obtain ⟨m, hm⟩ := k0; exact DataW.trod_lt m _ _ _ hm
  obtain ⟨n0, f0⟩ := h0
  obtain ⟨x0, K0, G0, B0⟩ := r22.read f0
  obtain ⟨A0, c0, e0, l0, C0, V0⟩ := Br.FK_row K0
  obtain rfl := Br.slice_of Try.underlying22 (hval 0 22 v0 rfl rfl) e0
  clear hA0 hval0
  obtain ⟨k, hk⟩ := Pl.PlanLasts_true x0 (by have := G0.1; simp only [maxLen] at this; omega)
  refine (Pl.deadeyelaw17_PlanLasts.calls k A0 c0 x0 true W C0 l0 hk).mono fun e W' ⟨he, bel⟩ => ?_
  subst he
  exact ⟨_, rfl, _, _, _, [], _, [], hW', trodAll_mk1 (shut_bool Try.underlying4 _), (trodAll_cons_mk (Below.trod laidOut (by kernel_rfl) (of_decide_eq_true (by kernel_rfl)) k0 bel lt0) trodAll_mk0), rfl, bel.frame _, fun h => by cases h⟩
theorem over : Rows.planLastsRow.holds Try.pinned (OpenSpec.ofChange Rows.planLastsSpec) :=
  OpenClaim.holds_of_wide 3 Try.f3 rfl rfl rfl rfl rfl rfl rfl ⟨rfl, rfl, rfl, rfl, rfl⟩ rfl rfl rfl rfl rfl (by kernel_rfl) Try.func3 (by kernel_rfl)
    (of_decide_eq_true (by kernel_rfl)) (by unfold Func.isWrapper; first | (rw [if_pos (by decide +kernel)]; kernel_rfl) | (rw [if_neg (by decide +kernel)]; exact ⟨rfl, rfl⟩))
    (fun os started H enc _ => lifted os started H enc)
theorem proved : Rows.PlanLastsSaid := over
#print axioms proved
end Go.Proofs.Yteeeiaggkdlolaa.planLasts
namespace Go.Proofs.Yteeeiaggkdlolaa
/-- The row, under a short name, for the claim. -/
theorem planLasts_holds : Rows.PlanLastsSaid := planLasts.proved
end Go.Proofs.Yteeeiaggkdlolaa
