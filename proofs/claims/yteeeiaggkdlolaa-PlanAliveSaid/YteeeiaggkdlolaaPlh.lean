/- plan.told and plan.Last over slices of Reply: what they answer, walked by hand. -/
import Derived.Test.YteeeiaggkdlolaaPl0
namespace Go.Proofs.Yteeeiaggkdlolaa.Pl
open Go.RowKit Go.Proofs.YteeeiaggkdlolaaW.PrintWords Go.Proofs.YteeeiaggkdlolaaW.PrintLast Go.Proofs.YteeeiaggkdlolaaW.PrintMore
set_option linter.unusedVariables false
set_option linter.unusedSimpArgs false

/-- The closure of told. -/
theorem told_closure (x0 x1 node : Int) (B : Nat) (W : World) (hc : W.cell? ⟨B, 0, none⟩ = some (.int .i64 node)) :
    Calls Try.prog 51 #[.agg #[.int .i64 x0, .int .i64 x1], .pointer (some ⟨B, 0, none⟩)] W fun e w' => e = .returned (.bool (x0 == node)) ∧ Below W.heap.size W w' := by
  have hB := World.block_lt_of_cell? W _ hc
  have hne : B ≠ W.heap.size := Nat.ne_of_lt hB
  go_enter Try.func51, Try.ntmps51
  go_wp2
  go_ret
  exact ⟨rfl, (Below.refl _ _).alloc (Nat.le_refl _) _⟩

theorem pw_cell_below' {B : Nat} {w w1 : World} (h : Below w.heap.size w w1) {v : Value} (hc : w.cell? ⟨B, 0, none⟩ = some v) : w1.cell? ⟨B, 0, none⟩ = some v := pw_cell_below h hc
def firstOf (p : Int → Bool) : List S26 → Nat → Int
  | [], _ => -1
  | x :: xs, k => if p x.f0 then (k : Int) else firstOf p xs (k + 1)
theorem firstOf_any (p : Int → Bool) : ∀ (l : List S26) (k : Nat), decide (0 ≤ firstOf p l k) = l.any fun x => p x.f0
  | [], _ => rfl
  | x :: xs, k => by
    unfold firstOf
    cases h : p x.f0 with
    | true => simp [h]
    | false => simp only [List.any_cons, h, Bool.false_or, Bool.false_eq_true, if_false]; exact firstOf_any p xs (k + 1)

set_option maxHeartbeats 1000000 in
theorem indexFunc_told (A0 : Option Addr) (c0 : Nat) (l0 : List (S26)) (node : Int) (B : Nat) (w : World) (hr0 : Kd.C k26 w A0 l0.length l0) (hc0 : l0.length ≤ c0) (hc : w.cell? ⟨B, 0, none⟩ = some (.int .i64 node)) :
    Calls Try.prog 61 #[.slice A0 l0.length c0, .func (.func 51) #[] #[.pointer (some ⟨B, 0, none⟩)]] w fun e w' => e = .returned (.int .i64 (firstOf (· == node) l0 0)) ∧ Below w.heap.size w w' := by
  have hlen := hr0.2.1
  have HR := Aside0.mk hr0
  have HC := Aside0.mk hc
  clear hr0 hc
  go_enter Try.func61, Try.ntmps61
  go_wp2
  go_loopw [8] (fun i wr => ∃ k : Nat, k ≤ l0.length ∧ i = .int .i64 k ∧ Aside0 (firstOf (· == node) l0 0 = firstOf (· == node) (l0.drop k) k) ∧ Aside0 (Below w.heap.size w wr)) (fun i _ => l0.length - (intOf i).toNat)
  case atStart => exact ⟨0, Nat.zero_le _, rfl, ⟨rfl⟩, ⟨Below.refl _ _⟩⟩
  case round =>
    obtain ⟨k, hk, rfl, HF, HB⟩ := hrel
    by_cases hlt : k < l0.length
    · obtain ⟨ad, e, hx0, hx1⟩ := at_T26 (Kd.C_below HR.out HB.out) (k : Int) (by omega) (by omega)
      cases e
      simp only [Int.toNat_natCast] at hx0 hx1
      have hstep : firstOf (· == node) (l0.drop k) k = if (rd_T26 l0 k).f0 == node then (k : Int) else firstOf (· == node) (l0.drop (k + 1)) (k + 1) := by
        rw [List.drop_eq_getElem_cons hlt]
        simp only [firstOf, rd_T26, Int.toNat_natCast, List.getD_eq_getElem?_getD, List.getElem?_eq_getElem hlt, Option.getD_some]
      generalize rd_T26 l0 (k : Int) = x at hx0 hx1 hstep
      have hlt' : decide ((k : Int) < (l0.length : Int)) = true := decide_eq_true (by omega)
      have HS := Aside0.mk hstep
      clear hstep
      have HC' := Aside0.mk (pw_cell_below' HB.out HC.out)
      cases hb : (x.f0 == node) with
      | true =>
        have Hb := Aside0.mk hb
        clear hb
        go_wp2_with (go_at_call 51; refine (told_closure x.f0 x.f1 node B _ HC'.out).mono ?_; rw [Hb.out]; rintro e w1 ⟨rfl, hb1⟩)
        go_ret
        refine ⟨?_, HB.out.trans (hb1.mono HB.out.size)⟩
        show Ending.returned (.int .i64 (k : Int)) = _
        rw [HF.out, HS.out, if_pos Hb.out]
      | false =>
        have Hb := Aside0.mk hb
        clear hb
        go_wp2_with (go_at_call 51; refine (told_closure x.f0 x.f1 node B _ HC'.out).mono ?_; rw [Hb.out]; rintro e w1 ⟨rfl, hb1⟩)
        go_roundw
        case rel => exact ⟨k + 1, by omega, by go_num, ⟨by rw [HF.out, HS.out, if_neg (by rw [Hb.out]; decide)]⟩, ⟨HB.out.trans (hb1.mono HB.out.size)⟩⟩
        case measure => simp [intOf]; omega
    · have hlt' : decide ((k : Int) < (l0.length : Int)) = false := decide_eq_false (by omega)
      have HE := Aside0.mk (show firstOf (· == node) l0 0 = -1 by rw [HF.out, List.drop_of_length_le (by omega)]; rfl)
      go_wp2
      go_ret
      exact ⟨by show Ending.returned (.int .i64 (-1)) = _; rw [HE.out], HB.out⟩

set_option maxHeartbeats 1000000 in
theorem containsFunc_told (A0 : Option Addr) (c0 : Nat) (l0 : List (S26)) (node : Int) (B : Nat) (w : World) (hr0 : Kd.C k26 w A0 l0.length l0) (hc0 : l0.length ≤ c0) (hc : w.cell? ⟨B, 0, none⟩ = some (.int .i64 node)) :
    Calls Try.prog 50 #[.slice A0 l0.length c0, .func (.func 51) #[] #[.pointer (some ⟨B, 0, none⟩)]] w fun e w' => e = .returned (.bool (l0.any fun x => x.f0 == node)) ∧ Below w.heap.size w w' := by
  have HR := Aside0.mk hr0
  have HC := Aside0.mk hc
  have HF := Aside0.mk (firstOf_any (· == node) l0 0)
  clear hr0 hc
  go_enter Try.func50, Try.ntmps50
  go_wp2_with (go_at_call 61; refine (indexFunc_told A0 c0 l0 node B _ HR.out hc0 HC.out).mono ?_; rintro e w1 ⟨rfl, hb1⟩)
  go_ret
  exact ⟨by show Ending.returned (.bool (decide (0 ≤ firstOf (· == node) l0 0))) = _; rw [HF.out], hb1⟩

def plan_told.f (l0 : List (S26)) (a1 : Int) : Option (Bool) := some (l0.any fun x => x.f0 == a1)
theorem plan_told.calls (A0 : Option Addr) (c0 : Nat) (l0 : List (S26)) (a1 : Int) (r : Bool) (w : World) (hr0 : Kd.C k26 w A0 l0.length l0) (hc0 : l0.length ≤ c0) (h : plan_told.f l0 a1 = some r) :
    Calls Try.prog 37 #[.slice A0 l0.length c0, .int .i64 a1] w fun e w' => e = .returned (.bool r) ∧ Below w.heap.size w w' := by
  obtain rfl := Option.some.inj h
  clear h
  have HR := Aside0.mk (Kd.C_below hr0 ((Below.refl _ _).alloc (Nat.le_refl _) (.cells #[.int .i64 a1] 3)))
  clear hr0
  go_enter Try.func37, Try.ntmps37
  go_wp2_with (go_at_call 50; refine (containsFunc_told A0 c0 l0 a1 w.heap.size _ HR.out hc0 (by simp)).mono ?_; rintro e w1 ⟨rfl, hb1⟩)
  go_ret
  exact ⟨rfl, ((Below.refl _ w).alloc (Nat.le_refl _) _).trans (hb1.mono (by simp))⟩
end Go.Proofs.Yteeeiaggkdlolaa.Pl
