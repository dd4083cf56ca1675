/- plan.Last over a slice of Reply: the least Last, walked by hand. -/
import Derived.Test.YteeeiaggkdlolaaPlh
namespace Go.Proofs.Yteeeiaggkdlolaa.Pl
open Go.RowKit Go.Proofs.YteeeiaggkdlolaaW.PrintWords Go.Proofs.YteeeiaggkdlolaaW.PrintLast Go.Proofs.YteeeiaggkdlolaaW.PrintMore
set_option linter.unusedVariables false
set_option linter.unusedSimpArgs false

theorem ret_i64 {a b : Int} (h : a = b) : Ending.returned (.int .i64 a) = .returned (.int .i64 b) := by rw [h]
theorem isNaN_int (x : Int) (w : World) : Calls Try.prog 49 #[.int .i64 x] w fun e w' => e = .returned (.bool false) ∧ w = w' := by
  go_enter Try.func49, Try.ntmps49
  go_wp2
  go_ret
  exact ⟨by simp, rfl⟩

def cmpI (x y : Int) : Int := if x < y then -1 else if y < x then 1 else 0
theorem compare_int (x y : Int) (w : World) : Calls Try.prog 36 #[.int .i64 x, .int .i64 y] w fun e w' => e = .returned (.int .i64 (cmpI x y)) ∧ w = w' := by
  rcases Int.lt_trichotomy x y with h | h | h
  · have h1 : decide (x < y) = true := decide_eq_true h
    go_enter Try.func36, Try.ntmps36
    go_wp2_with (go_at_call 49; refine (isNaN_int _ _).mono ?_; rintro e w' ⟨rfl, rfl⟩)
    go_ret
    exact ⟨ret_i64 (by unfold cmpI; rw [if_pos h]), rfl⟩
  · subst h
    have h1 : decide (x < x) = false := decide_eq_false (by omega)
    go_enter Try.func36, Try.ntmps36
    go_wp2_with (go_at_call 49; refine (isNaN_int _ _).mono ?_; rintro e w' ⟨rfl, rfl⟩)
    go_ret
    exact ⟨ret_i64 (by unfold cmpI; rw [if_neg (by omega), if_neg (by omega)]), rfl⟩
  · have h1 : decide (x < y) = false := decide_eq_false (by omega)
    have h2 : decide (y < x) = true := decide_eq_true h
    go_enter Try.func36, Try.ntmps36
    go_wp2_with (go_at_call 49; refine (isNaN_int _ _).mono ?_; rintro e w' ⟨rfl, rfl⟩)
    go_ret
    exact ⟨ret_i64 (by unfold cmpI; rw [if_neg (by omega), if_pos h]), rfl⟩

theorem last_closure (x0 x1 y0 y1 : Int) (W : World) :
    Calls Try.prog 35 #[.agg #[.int .i64 x0, .int .i64 x1], .agg #[.int .i64 y0, .int .i64 y1]] W fun e w' => e = .returned (.int .i64 (cmpI x1 y1)) ∧ Below W.heap.size W w' := by
  go_enter Try.func35, Try.ntmps35
  go_wp2_with (go_at_call 36; refine (compare_int _ _ _).mono ?_; rintro e w' ⟨rfl, rfl⟩)
  go_ret
  exact ⟨rfl, ((Below.refl _ _).alloc (Nat.le_refl _) _).alloc (by simp) _⟩

def minOf : List S26 → S26 → S26
  | [], m => m
  | x :: xs, m => minOf xs (if x.f1 < m.f1 then x else m)

set_option maxHeartbeats 1000000 in
theorem minFunc_last (A0 : Option Addr) (c0 : Nat) (x : S26) (xs : List (S26)) (w : World) (hr0 : Kd.C k26 w A0 (x :: xs).length (x :: xs)) (hc0 : (x :: xs).length ≤ c0) :
    Calls Try.prog 34 #[.slice A0 (x :: xs).length c0, .func (.func 35) #[] #[]] w fun e w' => e = .returned (.agg #[.int .i64 (minOf xs x).f0, .int .i64 (minOf xs x).f1]) ∧ Below w.heap.size w w' := by
  obtain ⟨l, hl⟩ : ∃ l, l = x :: xs := ⟨_, rfl⟩
  rw [← hl] at hr0 hc0 ⊢
  have hlen := hr0.2.1
  have hpos : 1 ≤ l.length := by rw [hl]; simp
  have HL := Aside0.mk hl
  have HR := Aside0.mk hr0
  obtain ⟨ad, e, hx0, hx1⟩ := at_T26 hr0 0 (by omega) (by omega)
  cases e
  have hd : rd_T26 l 0 = x := by rw [hl]; rfl
  rw [hd] at hx0 hx1
  clear hd hr0 hl
  have e0 : ad.add 0 = ad := by unfold Addr.add; simp
  simp only [Int.toNat_zero, Nat.zero_mul, e0] at hx0 hx1
  clear e0
  have hy0 : ∀ o, (w.alloc o).cell? ad = some (.int .i64 x.f0) := fun o => pw_cell_below (below_alloc (Below.refl _ _) o) hx0
  have hy1 : ∀ o, (w.alloc o).cell? ⟨ad.block, ad.off + 1, none⟩ = some (.int .i64 x.f1) := fun o => pw_cell_below (below_alloc (Below.refl _ _) o) hx1
  clear hx0 hx1
  have h1 : decide ((l.length : Int) < 1) = false := decide_eq_false (by omega)
  go_enter Try.func34, Try.ntmps34
  go_wp2
  clear hy0 hy1
  go_loopw [6] (fun i wr => ∃ (k : Nat) (m : S26), 1 ≤ k ∧ k ≤ l.length ∧ i = .int .i64 k ∧ Aside0 (minOf xs x = minOf (l.drop k) m) ∧ Aside0 (Below w.heap.size w wr) ∧ Aside0 (wr.heap[w.heap.size + 1]? = some (.cells #[.int .i64 m.f0, .int .i64 m.f1] 26 (0, 0))) ∧ Aside0 (wr.heap[w.heap.size]? = some (.cells #[.int .i64 0, .int .i64 0] 26 (0, 0)))) (fun i _ => l.length - (intOf i).toNat)
  case atStart =>
    refine ⟨1, x, Nat.le_refl _, hpos, rfl, ⟨by rw [HL.out]; rfl⟩, ⟨((Below.refl _ _).alloc (Nat.le_refl _) _).alloc (by simp) _⟩, ⟨?_⟩, ⟨?_⟩⟩
    · have := heap_alloc_new (w.alloc (.cells #[.int .i64 0, .int .i64 0] 26)) (.cells #[.int .i64 x.f0, .int .i64 x.f1] 26)
      simpa using this
    · exact blk_alloc (heap_alloc_new w _) _
  case round =>
    obtain ⟨k, m, hk1, hk, rfl, HF, HB, HM, HZ⟩ := hrel
    by_cases hlt : k < l.length
    · obtain ⟨ad2, e, hx0, hx1⟩ := at_T26 (Kd.C_below HR.out HB.out) (k : Int) (by omega) (by omega)
      cases e
      simp only [Int.toNat_natCast] at hx0 hx1
      have hstep : minOf (l.drop k) m = minOf (l.drop (k + 1)) (if (rd_T26 l k).f1 < m.f1 then rd_T26 l k else m) := by
        rw [List.drop_eq_getElem_cons hlt]
        simp only [minOf, rd_T26, Int.toNat_natCast, List.getD_eq_getElem?_getD, List.getElem?_eq_getElem hlt, Option.getD_some]
      generalize rd_T26 l (k : Int) = y at hx0 hx1 hstep
      have hlt' : decide ((k : Int) < (l.length : Int)) = true := decide_eq_true (by omega)
      have HS := Aside0.mk hstep
      clear hstep
      have hm0 := blk_cell HM.out 0
      have hm1 := blk_cell HM.out 1
      simp only [List.getElem?_toArray, List.getElem?_cons_zero, List.getElem?_cons_succ] at hm0 hm1
      have hsz := HB.out.size
      by_cases hc : y.f1 < m.f1
      · have HCM := Aside0.mk (show cmpI y.f1 m.f1 = -1 by unfold cmpI; rw [if_pos hc])
        have HX0 := Aside0.mk hx0
        have HX1 := Aside0.mk hx1
        go_wp2
        go_region_with (first | (go_at_call 35; refine (last_closure _ _ _ _ _).mono ?_; rw [HCM.out]; rintro e w1 ⟨rfl, hb1⟩; have HB1 := Aside0.mk hb1; clear hb1))
        all_goals
          have hw1 : Below wr.heap.size wr w1 := below_then (by repeat (first | exact Below.refl _ _ | apply below_drew)) (by simp) HB1.out
          clear hx0 hx1 hm0 hm1
          have hx0 := pw_cell_below hw1 HX0.out
          have hx1 := pw_cell_below hw1 HX1.out
          have hM1 := blk_below HM.out hw1
          have hm0 := blk_cell hM1 0
          have hm1 := blk_cell hM1 1
          have hf0 := blk_frozen hM1 0
          have hf1 := blk_frozen hM1 1
          simp only [List.getElem?_toArray, List.getElem?_cons_zero, List.getElem?_cons_succ] at hm0 hm1
          have HM1 := Aside0.mk hM1
          clear hM1
          have hB1 : Below w.heap.size w w1 := HB.out.trans (hw1.mono hsz)
          have hZ1 := blk_below HZ.out hw1
          clear hw1
          have HB1 := Aside0.mk hB1
          have HZ1 := Aside0.mk hZ1
          clear hB1 hZ1
          go_wp2
          go_roundw
          case rel =>
            refine ⟨k + 1, y, by omega, by omega, by go_num, ⟨by rw [HF.out, HS.out, if_pos hc]⟩, ⟨?_⟩, ⟨?_⟩, ⟨?_⟩⟩
            · exact (HB1.out.setCell (by simp) _).setCell (by simp) _
            · exact blk_set (blk_set HM1.out 0 _) 1 _
            · exact (Below.heap_setCell _ _ _ _ (by simp)).trans ((Below.heap_setCell _ _ _ _ (by simp)).trans HZ1.out)
          case measure => simp [intOf]; omega
      · have HCM := Aside0.mk (show 0 ≤ cmpI y.f1 m.f1 by unfold cmpI; rw [if_neg hc]; split <;> omega)
        obtain ⟨c, hcq⟩ : ∃ c, c = cmpI y.f1 m.f1 := ⟨_, rfl⟩
        rw [← hcq] at HCM
        have HCQ := Aside0.mk hcq
        clear hcq
        have hc0' : decide (c < 0) = false := decide_eq_false (by have := HCM.out; omega)
        go_wp2
        go_region_with (first | (go_at_call 35; refine (last_closure _ _ _ _ _).mono ?_; rw [← HCQ.out]; rintro e w1 ⟨rfl, hb1⟩; have HB1 := Aside0.mk hb1; clear hb1))
        all_goals
          have hw1 : Below wr.heap.size wr w1 := below_then (by repeat (first | exact Below.refl _ _ | apply below_drew)) (by simp) HB1.out
          have HW1 := Aside0.mk hw1
          clear hw1 hx0 hx1 hm0 hm1
          go_wp2
          go_roundw
          case rel => exact ⟨k + 1, m, by omega, by omega, by go_num, ⟨by rw [HF.out, HS.out, if_neg (Int.not_lt.2 hc)]⟩, ⟨HB.out.trans (HW1.out.mono hsz)⟩, ⟨blk_below HM.out HW1.out⟩, ⟨blk_below HZ.out HW1.out⟩⟩
          case measure => simp [intOf]; omega
    · have hlt' : decide ((k : Int) < (l.length : Int)) = false := decide_eq_false (by omega)
      have HE := Aside0.mk (show minOf xs x = m by rw [HF.out, List.drop_of_length_le (by omega)]; rfl)
      have hm0 := blk_cell HM.out 0
      have hm1 := blk_cell HM.out 1
      simp only [List.getElem?_toArray, List.getElem?_cons_zero, List.getElem?_cons_succ] at hm0 hm1
      have hz0 := blk_cell HZ.out 0
      have hz1 := blk_cell HZ.out 1
      have hf0 := blk_frozen HZ.out 0
      have hf1 := blk_frozen HZ.out 1
      simp only [List.getElem?_toArray, List.getElem?_cons_zero, List.getElem?_cons_succ] at hz0 hz1
      have hsz := HB.out.size
      go_wp2
      exact bodyPost_ret (v := .agg #[.int .i64 m.f0, .int .i64 m.f1]) (by simp [results, Try.results34, go_sem, hz0, hz1]) rfl ⟨by rw [HE.out], (HB.out.setCell (by simp) _).setCell (by simp) _⟩

def plan_Last.f (l0 : List (S26)) : Option (Int) := some (match l0 with | [] => 0 | x :: xs => (minOf xs x).f1)
set_option maxHeartbeats 1000000 in
theorem plan_Last.calls (A0 : Option Addr) (c0 : Nat) (l0 : List (S26)) (r : Int) (w : World) (hr0 : Kd.C k26 w A0 l0.length l0) (hc0 : l0.length ≤ c0) (h : plan_Last.f l0 = some r) :
    Calls Try.prog 13 #[.slice A0 l0.length c0] w fun e w' => e = .returned (.int .i64 r) ∧ Below w.heap.size w w' := by
  obtain rfl := Option.some.inj h
  clear h
  cases l0 with
  | nil =>
    go_enter Try.func13, Try.ntmps13
    go_wp2
    go_ret
    exact ⟨rfl, Below.refl _ _⟩
  | cons x xs =>
    have HM := Aside0.mk (minFunc_last A0 c0 x xs w hr0 hc0)
    have hp : (((x :: xs).length : Int) == 0) = false := by rw [List.length_cons, beq_eq_false_iff_ne]; omega
    have hp2 : ((x :: xs).length == 0) = false := by rw [List.length_cons, beq_eq_false_iff_ne]; omega
    clear hr0 hc0
    show Calls Try.prog 13 #[.slice A0 (x :: xs).length c0] w fun e w' => e = .returned (.int .i64 (minOf xs x).f1) ∧ Below w.heap.size w w'
    generalize (x :: xs).length = n at hp hp2 HM ⊢
    generalize minOf xs x = m at HM ⊢
    have hfd : ∀ W : World, (Instr.field 26 (.agg #[.int .i64 m.f0, .int .i64 m.f1]) 1).run Try.prog W = .ok (.int .i64 m.f1) W := fun _ => by kernel_rfl
    go_enter Try.func13, Try.ntmps13
    go_wp2_with (fail)
    refine HM.out.mono ?_
    rintro e w1 ⟨rfl, hb1⟩
    have HB1 := Aside0.mk hb1
    clear hb1 hp hp2 HM
    go_wp2_with (fail)
    go_ret
    exact ⟨rfl, HB1.out⟩
end Go.Proofs.Yteeeiaggkdlolaa.Pl
