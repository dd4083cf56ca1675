/- KeysAgain: whatever the input, the law answers true and leaves its arguments as they were. Condition: the arguments are of bulk at most 1048576. -/
import Derived.Test.YteeeiaggkdlolaaBr
import Derived.Test.YteeeiaggkdlolaaKva
import Derived.WalkKit
import Derived.ProofKit
import Derived.OpenShut
import Derived.ShutString
import Derived.ChangeOld
import Derived.Below
import Derived.SizedLaws
import Derived.JoinedCond
namespace Go.Proofs.Yteeeiaggkdlolaa.keysAgainUpto
open Go.ChangeShapes Go.WideShapes Go.ChangeAt Go.RowKit Go.Proofs.YteeeiaggkdlolaaW.PrintWords
set_option linter.unusedVariables false
theorem own : ownKnob Try.prog.godebug = none := by kernel_rfl
theorem laidOut : laidOutB Try.prog = true := by kernel_rfl
def G3 : Int → Prop := fun x => (Lit.int .i64 x).wf = true
def s3 : Int → Nat := fun _ => 1
theorem r3 : Br.Rdr Try.prog 3 (Kd.int .i64) G3 s3 := Br.Rdr.int Try.underlying3 (by kernel_rfl)
def G9 : ByteArray → Prop := fun s => s.size ≤ maxLen
def s9 : ByteArray → Nat := fun s => s.size + 1
theorem r9 : Br.Rdr Try.prog 9 Kd.string G9 s9 := Br.Rdr.string Try.underlying9 (by kernel_rfl)
def G45 : Int → Prop := fun x => (Lit.int .u32 x).wf = true
def s45 : Int → Nat := fun _ => 1
theorem r45 : Br.Rdr Try.prog 45 (Kd.int .u32) G45 s45 := Br.Rdr.int Try.underlying45 (by kernel_rfl)
def G5 : Int → Prop := fun x => (Lit.int .u8 x).wf = true
def s5 : Int → Nat := fun _ => 1
theorem r5 : Br.Rdr Try.prog 5 (Kd.int .u8) G5 s5 := Br.Rdr.int Try.underlying5 (by kernel_rfl)
def G46 : List Int → Prop := fun l => l.length ≤ maxLen ∧ ∀ x ∈ l, G5 x
def s46 : List Int → Nat := fun l => (l.map s5).sum + 1
theorem r46 : Br.Rdr Try.prog 46 (Kd.slice 5 (Kd.int .u8)) G46 s46 := Br.Rdr.slice Try.underlying46 (by kernel_rfl) r5
def G48 : Ky.S48 → Prop := fun x => G3 x.f0 ∧ (G3 x.f1 ∧ (G3 x.f2 ∧ (G3 x.f3 ∧ (G9 x.f4 ∧ (G3 x.f5 ∧ (G45 x.f6 ∧ (G46 x.f7)))))))
def s48 : Ky.S48 → Nat := fun x => s3 x.f0 + (s3 x.f1 + (s3 x.f2 + (s3 x.f3 + (s9 x.f4 + (s3 x.f5 + (s45 x.f6 + (s46 x.f7)))))))
theorem r48 : Br.Rdr Try.prog 48 Ky.k48 G48 s48 := (Br.Rdr.struct Try.underlying48 (by kernel_rfl) (Br.RdrF.cons r3 (by rfl) (Br.RdrF.cons r3 (by rfl) (Br.RdrF.cons r3 (by rfl) (Br.RdrF.cons r3 (by rfl) (Br.RdrF.cons r9 (by rfl) (Br.RdrF.cons r3 (by rfl) (Br.RdrF.cons r45 (by rfl) (Br.RdrF.last r46))))))))).iso _ (fun p => ⟨p.1, p.2.1, p.2.2.1, p.2.2.2.1, p.2.2.2.2.1, p.2.2.2.2.2.1, p.2.2.2.2.2.2.1, p.2.2.2.2.2.2.2⟩) (fun _ => rfl)
def G44 : List Ky.S48 → Prop := fun l => l.length ≤ maxLen ∧ ∀ x ∈ l, G48 x
def s44 : List Ky.S48 → Nat := fun l => (l.map s48).sum + 1
theorem r44 : Br.Rdr Try.prog 44 (Kd.slice 48 Ky.k48) G44 s44 := Br.Rdr.slice Try.underlying44 (by kernel_rfl) r48
set_option maxRecDepth 100000 in
theorem lifted (os : Os) (started : os.Started) (H : Type) (enc : TypeId × Value → H) (F : Stop.Interp) :
    ReturnsInHanded {} Try.checked os 10 .any ((Rows.OpenSpec.upto Rows.keysAgainSpec).pre6 enc Try.prog Try.f10 Rows.keysAgainUptoRow.domain false) (((Rows.OpenSpec.upto Rows.keysAgainSpec).at F).post enc Try.prog Try.f10 false true false false) := by
  refine returnsInHanded_of_cond (C := Try.checked) (s := Rows.OpenSpec.upto Rows.keysAgainSpec) (k := Rows.uptoSmall) rfl own started (by kernel_rfl) Try.func10
    (OpenSpec.witness (enc := enc) (C := Try.checked) (s := Rows.OpenSpec.upto Rows.keysAgainSpec) (k := Rows.uptoSmall) rfl false ⟨#[], #[.slice none 0 0, .int .i64 0, .string ByteArray.empty, .int .u8 0], []⟩ 8 (by kernel_rfl) (by kernel_rfl) (by kernel_rfl) (by kernel_rfl)
      (x := ([.nil, .lit (.int .i64 0), .lit (.string []), .lit (.int .u8 0)], [], [])) (by kernel_rfl) rfl (by kernel_rfl)) ?_
  intro W base args ds gs before hval0 hW _ hk0 _
  have hval : ∀ (j : Nat) t v, Try.f10.params[j]? = some t → args[j]? = some v → Value.okWide Try.prog W .any base t v := hval0
  have hW' := hW
  obtain ⟨p, q, hA0, hV, rfl, hfz, hnd⟩ := hW
  have hA : DataW.TrodAll enc Try.prog W 0 (fun _ => true) true Try.f10.params.toList args.toList ds p := hA0
  rw [Try.params10] at hA hval
  obtain ⟨v0, vs0, d0, ds0, p0, q0, hargs, rfl, rfl, h0, t0⟩ := trodAll_cons hA
  obtain ⟨v1, vs1, d1, ds1, p1, q1, rfl, rfl, rfl, h1, t1⟩ := trodAll_cons t0
  obtain ⟨v2, vs2, d2, ds2, p2, q2, rfl, rfl, rfl, h2, t2⟩ := trodAll_cons t1
  obtain ⟨v3, vs3, d3, ds3, p3, q3, rfl, rfl, rfl, h3, t3⟩ := trodAll_cons t2
  obtain ⟨rfl, rfl, rfl⟩ := trodAll_nil t3
  obtain rfl : args = #[v0, v1, v2, v3] := by cases args; simp_all
  obtain ⟨rfl, rfl⟩ := trodVars_none hV
  have hk1 : Rows.uptoSmall H [d0, d1, d2, d3] = true := by simpa only [List.append_nil] using hk0
  have hbulk : Rows.uptoBulkAll [d0, d1, d2, d3] ≤ 1048576 := of_decide_eq_true hk1
  simp only [Rows.uptoBulkAll] at hbulk
  have k0 := h0
  have lt0 : ∀ x ∈ p0, x.block < W.heap.size := by obtain ⟨m, hm⟩ := k0; exact DataW.trod_lt m _ _ _ hm
  have k1 := h1
  have lt1 : ∀ x ∈ p1, x.block < W.heap.size := by obtain ⟨m, hm⟩ := k1; exact DataW.trod_lt m _ _ _ hm
  have k2 := h2
  have lt2 : ∀ x ∈ p2, x.block < W.heap.size := by obtain ⟨m, hm⟩ := k2; exact DataW.trod_lt m _ _ _ hm
  have k3 := h3
  have lt3 : ∀ x ∈ p3, x.block < W.heap.size := by obtain ⟨m, hm⟩ := k3; exact DataW.trod_lt m _ _ _ hm
  obtain ⟨n0, f0⟩ := h0
  obtain ⟨x0, K0, G0, B0⟩ := r44.read f0
  obtain ⟨A0, c0, e0, l0, C0, V0⟩ := Br.FK_row K0
  obtain rfl := Br.slice_of Try.underlying44 (hval 0 44 v0 rfl rfl) e0
  obtain ⟨n1, f1⟩ := h1
  obtain ⟨x1, K1, G1, B1⟩ := r3.read f1
  obtain rfl := Br.int_of Try.underlying3 (hval 1 3 v1 rfl rfl) (Foot.now K1)
  obtain ⟨n2, f2⟩ := h2
  obtain ⟨x2, K2, G2, B2⟩ := r9.read f2
  obtain rfl := Br.string_of Try.underlying9 (hval 2 9 v2 rfl rfl) (Foot.now K2)
  obtain ⟨n3, f3⟩ := h3
  obtain ⟨x3, K3, G3, B3⟩ := r5.read f3
  obtain rfl := Br.int_of Try.underlying5 (hval 3 5 v3 rfl rfl) (Foot.now K3)
  have U0 : s44 x0 ≤ Rows.uptoBulk d0 := B0
  have U1 : s3 x1 ≤ Rows.uptoBulk d1 := B1
  have U2 : s9 x2 ≤ Rows.uptoBulk d2 := B2
  have U3 : s5 x3 ≤ Rows.uptoBulk d3 := B3
  have hsz : s44 x0 + s3 x1 + s9 x2 + s5 x3 ≤ 1048576 := by omega
  clear hA0 hval0
  obtain ⟨k, hk⟩ := Ky.KeysAgain_true x0 x1 x2 x3 (show (x0.map Ky.sz48).sum ≤ 1048576 from by have h_ : (x0.map s48).sum + 1 ≤ 1048576 := (by have h2_ : s44 x0 ≤ 1048576 := (by omega); exact h2_); exact Nat.le_of_succ_le h_) (fun e he => (G0.2 e he).2.1)
  refine (Ky.deadeyelaw10_KeysAgain.calls k A0 c0 x0 x1 x2 x3 true W C0 l0 hk).mono fun e W' ⟨he, bel⟩ => ?_
  subst he
  exact ⟨_, rfl, _, _, _, [], _, [], hW', trodAll_mk1 (shut_bool Try.underlying4 _), (trodAll_cons_mk (Below.trod laidOut (by kernel_rfl) (of_decide_eq_true (by kernel_rfl)) k0 bel lt0) (trodAll_cons_mk (Below.trod laidOut (by kernel_rfl) (of_decide_eq_true (by kernel_rfl)) k1 bel lt1) (trodAll_cons_mk (Below.trod laidOut (by kernel_rfl) (of_decide_eq_true (by kernel_rfl)) k2 bel lt2) (trodAll_cons_mk (Below.trod laidOut (by kernel_rfl) (of_decide_eq_true (by kernel_rfl)) k3 bel lt3) trodAll_mk0)))), rfl, bel.frame _, fun h => by cases h⟩
theorem over : Rows.keysAgainUptoRow.holds Try.pinned (Rows.OpenSpec.upto Rows.keysAgainSpec) :=
  OpenClaim.holds_of_cond 10 Try.f10 rfl rfl rfl rfl rfl rfl rfl ⟨rfl, rfl, rfl, rfl, rfl⟩ rfl rfl rfl rfl rfl (by kernel_rfl) Try.func10 (by kernel_rfl)
    (of_decide_eq_true (by kernel_rfl)) (by unfold Func.isWrapper; first | (rw [if_pos (by decide +kernel)]; kernel_rfl) | (rw [if_neg (by decide +kernel)]; exact ⟨rfl, rfl⟩))
    (fun os started H enc _ F => lifted os started H enc F)
theorem proved : Rows.KeysAgainUptoSaid := over
#print axioms proved
end Go.Proofs.Yteeeiaggkdlolaa.keysAgainUpto
namespace Go.Proofs.Yteeeiaggkdlolaa
/-- The row, under a short name, for the claim. -/
theorem keysAgainUpto_holds : Rows.KeysAgainUptoSaid := keysAgainUpto.proved
end Go.Proofs.Yteeeiaggkdlolaa
