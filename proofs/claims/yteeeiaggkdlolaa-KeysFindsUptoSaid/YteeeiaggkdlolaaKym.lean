/- deadeyeref10.Names: the keys that are there, rising: walked by hand (the rows are joined anew at each round). -/
import Derived.Test.YteeeiaggkdlolaaKy2
import Derived.Deep.RegionLaw
namespace Go.Proofs.Yteeeiaggkdlolaa.Ky
open Go.RowKit Go.Proofs.YteeeiaggkdlolaaW.PrintWords Go.Proofs.YteeeiaggkdlolaaW.PrintLast Go.Proofs.YteeeiaggkdlolaaW.PrintMore
set_option linter.unusedVariables false
set_option linter.unusedSimpArgs false
set_option linter.unusedSectionVars false

def rnScan (key : ByteArray) : List ByteArray → Int → Int → Bool → Int × Bool
  | [], _, a, t => (a, t)
  | o :: rest, k, a, t => rnScan key rest (k + 1) (if Op.bytesLess o.toList key.toList = true then k + 1 else a) (t || (o.toList == key.toList))
theorem rnScan_at (key : ByteArray) : ∀ (l : List ByteArray) (k a : Int) (t : Bool), 0 ≤ a → a ≤ k → 0 ≤ (rnScan key l k a t).1 ∧ (rnScan key l k a t).1 ≤ k + l.length
  | [], k, a, t, h0, h1 => ⟨h0, by simpa [rnScan] using h1⟩
  | o :: rest, k, a, t, h0, h1 => by
    have := rnScan_at key rest (k + 1) (if Op.bytesLess o.toList key.toList = true then k + 1 else a) (t || (o.toList == key.toList)) (by split <;> omega) (by split <;> omega)
    simp only [rnScan, List.length_cons]
    omega
def rnStep (l : List S48) (last : Int) (out : List ByteArray) (e : S48) : Option (List ByteArray) :=
  (deadeyeref10_Find.f (l.length + 1) l e.f4 last).bind fun x =>
    if x.2.2.2.2.2.2.2.2 = true ∧ x.2.2.2.1 = 1 then
      (if (rnScan e.f4 out 0 0 false).2 = true then some out else some (out.take (rnScan e.f4 out 0 0 false).1.toNat ++ [e.f4] ++ out.drop (rnScan e.f4 out 0 0 false).1.toNat))
    else some out
def rnGo (l : List S48) (last : Int) : List S48 → List ByteArray → Option (List ByteArray)
  | [], out => some out
  | e :: rest, out => (rnStep l last out e).bind fun o => rnGo l last rest o
def deadeyeref10_Names.f (l0 : List (S48)) (a1 : Int) : Option (List ByteArray) := if l0.length < 1099511627776 then rnGo l0 a1 l0 [] else none

theorem C_one {w : World} {b : Nat} {key : ByteArray} (h : w.heap[b]? = some (.cells #[.string key] 9 (0, 0))) : Kd.C Kd.string w (some ⟨b, 0, none⟩) 1 [key] := by
  refine ⟨rfl, by decide, fun _ => ⟨⟨b, 0, none⟩, rfl, fun j p hj => ?_⟩⟩
  cases j with
  | zero =>
    obtain rfl := Option.some.inj hj
    refine ⟨[.string key], rfl, rfl, fun i u hu => ?_⟩
    cases i with
    | zero => obtain rfl := Option.some.inj hu; have := blk_cell h 0; simpa [Addr.add] using this
    | succ i => cases hu
  | succ j => cases hj
theorem blk_second (W : World) (E K : Obj) : ((W.alloc E).alloc K).heap[W.heap.size + 1]? = some K := by simpa using blk_new (W.alloc E) K
theorem blk_first (W : World) (E K : Obj) : ((W.alloc K).alloc E).heap[W.heap.size]? = some K := blk_alloc (blk_new _ _) _
theorem C_grown {W w1 : World} {b : Nat} {v : Value} {key : ByteArray} (hg : W.grownBy w1 v.ownBlock) (h : W.heap[b]? = some (.cells #[.string key] 9 (0, 0))) (hne : some b ≠ v.ownBlock) : Kd.C Kd.string w1 (some ⟨b, 0, none⟩) 1 [key] := C_one (blk_grown h hg hne)
theorem R_new9 (W : World) (base n : Nat) (hn : n = W.heap.size) (hb : base ≤ W.heap.size) : Kd.string.R 9 (W.alloc (.cells #[] 9)) base (fun _ => True) (.slice (some ⟨n, 0, none⟩) 0 0) [] := by
  subst hn
  exact Kd.R_of_own (enc := Value.string) (xs := []) (own_lit_of W base 9 [] hb (by decide)) (fun _ _ => trivial)
theorem R_append_strs {P : Program} {ops : Array Oper} {o : Oper} {a : Act} {Q : Exit → Act → World → Prop} {Kc : Act → World → Prop} {w0 W : World} (base : Nat) (hw : Region.wanted o (yielded ops a.tmps) = true) (s x : Operand) (t : TypeId) (bytes : Nat)
    (ho : o.op = .call { callee := .builtin .append, args := #[s, x], argTypes := #[t, t] })
    (ht : P.underlying t = some (.slice 9)) (hinfo : (P.info? 9).map (fun i => (i.zero, i.size, i.bytes)) = some (some (.string ⟨#[]⟩), 1, bytes)) (hb0 : 0 < bytes)
    (v : Value) (xs ys : List ByteArray) (A : Option Addr) (m c : Nat) (hs : a.eval s = v) (hx : a.eval x = .slice A m c)
    (HO : Kd.string.R 9 W base (fun _ => True) v xs) (HR : Kd.string.C W A m ys)
    (HB : Below base w0 W) (hbase : base ≤ W.heap.size) (hl : (xs.length + m) * bytes ≤ 140737488355328)
    (h : ∀ v1 w1, Kd.string.R 9 w1 base (fun _ => True) v1 (xs ++ ys) → Below base w0 w1 → W.grownBy w1 v.ownBlock → Kc (a.put o.dst v1) w1) :
    if Region.wanted o (yielded ops a.tmps) = true then Oper.wp P o a W Kc Q else Kc (a.put o.dst undef) W := by
  refine Kd.R_append_rows_step Kd.string (Rr := Kd.string.K W) (w0 := w0) base hw s x t 9 (.string ⟨#[]⟩) bytes ho ht hinfo rfl (by decide) hb0 v xs ys A m c (fun _ => True) (fun k => some k ≠ v.ownBlock) hs hx HO HR (fun x cs hK => hK) (fun k hk => ⟨trivial, hk⟩) (fun _ _ => trivial) HB hbase hl ?_
  intro v1 w1 h1 h2 h3 _
  exact h v1 w1 h1 h2 h3
set_option maxRecDepth 100000 in
set_option maxHeartbeats 8000000 in
theorem deadeyeref10_Names.calls (A0 : Option Addr) (c0 : Nat) (l0 : List (S48)) (a1 : Int) (r : List ByteArray) (w : World) (hr0 : Kd.C k48 w A0 l0.length l0) (hc0 : l0.length ≤ c0) (h : deadeyeref10_Names.f l0 a1 = some r) :
    Calls Try.prog 28 #[.slice A0 l0.length c0, .int .i64 a1] w fun e w' => ∃ v0_ : Value, e = .returned (v0_) ∧ Kd.R Kd.string 9 w' w.heap.size (fun _ => True) v0_ r ∧ Below w.heap.size w w' := by
  unfold deadeyeref10_Names.f at h
  split at h
  case isFalse => cases h
  rename_i hg
  have HL := Aside0.mk hg
  clear hg
  have HR := Aside0.mk hr0
  have hC := hr0.2.1
  clear hr0
  have H := Aside0.mk h
  clear h
  have H0 := Aside0.mk hc0
  go_enter Try.func28, Try.ntmps28
  go_wp2
  go_loopw [5, 6] (fun v i wr => ∃ (k : Nat) (out : List ByteArray) (A : Option Addr) (c : Nat), k ≤ l0.length ∧ i = .int .i64 k ∧ v = .slice A out.length c ∧ Aside0 (rnGo l0 a1 (l0.drop k) out = some r) ∧ Aside0 (out.length ≤ k) ∧ Aside0 (Kd.R Kd.string 9 wr w.heap.size (fun _ => True) (.slice A out.length c) out) ∧ Aside0 (Below w.heap.size w wr)) (fun v i _ => l0.length - (intOf i).toNat)
  case atStart =>
    refine ⟨0, [], _, _, Nat.zero_le _, rfl, rfl, ⟨H.out⟩, ⟨Nat.le_refl _⟩, ⟨Kd.R_of_own (enc := Value.string) (xs := []) (own_lit_of w w.heap.size 9 [] (Nat.le_refl _) (by decide)) (fun _ _ => trivial)⟩, ⟨(Below.refl _ _).alloc (Nat.le_refl _) _⟩⟩
  case round =>
    obtain ⟨k, out, A, c, hk, rfl, rfl, HF, HK, HO, HB⟩ := hrel
    have hoc := (Kd.R_reads' HO.out).2.1
    have hon : out.length < 1099511627776 := by have := HK.out; have := HL.out; omega
    by_cases hlt : k < l0.length
    · obtain ⟨ad, A7, c7, e, hx0, hx1, hx2, hx3, hx4, hx5, hx6, hx7, _, _⟩ := at_T48 (Kd.C_below HR.out HB.out) (k : Int) (by omega) (by omega)
      cases e
      simp only [Int.toNat_natCast] at hx0 hx1 hx2 hx3 hx4 hx5 hx6 hx7
      have hF := HF.out
      rw [List.drop_eq_getElem_cons hlt] at hF
      have hy : l0[k] = rd_T48 l0 k := by simp [rd_T48, List.getD_eq_getElem?_getD, List.getElem?_eq_getElem hlt]
      rw [hy] at hF
      clear hy
      obtain ⟨key, hkey⟩ : ∃ key, key = (rd_T48 l0 (k : Int)).f4 := ⟨_, rfl⟩
      simp only [rnGo, Option.bind_eq_some_iff, rnStep] at hF
      obtain ⟨o2, ⟨⟨f1, f2, f3, f4, f5, f6, f7, f8, f9⟩, hfind, hif⟩, hF⟩ := hF
      rw [← hkey] at hfind hif hx4
      have HKEY := Aside0.mk hkey
      clear hkey hx0 hx1 hx2 hx3 hx5 hx6 hx7
      have HX4 := Aside0.mk hx4
      have HFI := Aside0.mk hfind
      have HIF := Aside0.mk hif
      have HG := Aside0.mk hF
      clear hfind hif hF HF
      have hlt' : decide ((k : Int) < (l0.length : Int)) = true := decide_eq_true (by omega)
      have keep : ∀ (wz : World), (f9 = true ∧ f4 = 1 → False) → Kd.R Kd.string 9 wz w.heap.size (fun _ => True) (.slice A out.length c) out → Below w.heap.size w wz → ∃ (k_1 : Nat) (out_1 : List ByteArray) (A_1 : Option Addr) (c_1 : Nat), k_1 ≤ l0.length ∧ Value.int .i64 ((k : Int) + 1) = .int .i64 k_1 ∧ Value.slice A out.length c = .slice A_1 out_1.length c_1 ∧ Aside0 (rnGo l0 a1 (l0.drop k_1) out_1 = some r) ∧ Aside0 (out_1.length ≤ k_1) ∧ Aside0 (Kd.R Kd.string 9 wz w.heap.size (fun _ => True) (.slice A_1 out_1.length c_1) out_1) ∧ Aside0 (Below w.heap.size w wz) := by
        intro wz hno hR hB
        have hq := HIF.out
        rw [if_neg hno] at hq
        cases hq
        exact ⟨k + 1, out, A, c, by omega, rfl, rfl, ⟨HG.out⟩, ⟨by have := HK.out; omega⟩, ⟨hR⟩, ⟨hB⟩⟩
      have HKEEP := Aside0.mk keep
      clear keep
      by_cases hok : f9 = true ∧ f4 = 1
      case neg =>
        have dn : decide (f9 = true ∧ f4 = 1) = false := decide_eq_false hok
        cases f9 with
        | false =>
          go_wp2_with (first | (go_at_call 23; (with_reducible refine (deadeyeref10_Find.calls (l0.length + 1) (fun k_ => k_ < w.heap.size) _ _ l0 key a1 _ _ _ _ _ _ _ _ _ _ ?side1 HFI.out).mono ?_); (case side1 => exact Kd.V_mk H0.out (Kd.F_below (Kd.C_F k48_heap HR.out) HB.out)); rintro e w6 ⟨v263, rfl, ho0, hb⟩; obtain ⟨Av, cv, rfl, _⟩ := ho0; have HB1 := Aside0.mk (below_step HB.out hb); have HO1 := Aside0.mk (Kd.R_below HO.out hb); clear hb))
          go_roundw
          case rel => exact HKEEP.out _ hok (Kd.R_alloc HO1.out _) (below_alloc HB1.out _)
          case measure => simp [intOf]; omega
        | true =>
          have h4 : (f4 != 1) = true := bne_iff_ne.mpr (fun e => hok ⟨rfl, e⟩)
          go_wp2_with (first | (go_at_call 23; (with_reducible refine (deadeyeref10_Find.calls (l0.length + 1) (fun k_ => k_ < w.heap.size) _ _ l0 key a1 _ _ _ _ _ _ _ _ _ _ ?side1 HFI.out).mono ?_); (case side1 => exact Kd.V_mk H0.out (Kd.F_below (Kd.C_F k48_heap HR.out) HB.out)); rintro e w6 ⟨v263, rfl, ho0, hb⟩; obtain ⟨Av, cv, rfl, _⟩ := ho0; have HB1 := Aside0.mk (below_step HB.out hb); have HO1 := Aside0.mk (Kd.R_below HO.out hb); clear hb))
          go_roundw
          case rel => exact HKEEP.out _ hok (Kd.R_alloc HO1.out _) (below_alloc HB1.out _)
          case measure => simp [intOf]; omega
      case pos =>
        obtain ⟨rfl, rfl⟩ := hok
        have hIF := HIF.out
        rw [if_pos ⟨rfl, rfl⟩] at hIF
        have HIG := Aside0.mk hIF
        clear hIF HKEEP HIF
        go_wp2_with (first | (go_at_call 23; (with_reducible refine (deadeyeref10_Find.calls (l0.length + 1) (fun k_ => k_ < w.heap.size) _ _ l0 key a1 _ _ _ _ _ _ _ _ _ _ ?side1 HFI.out).mono ?_); (case side1 => exact Kd.V_mk H0.out (Kd.F_below (Kd.C_F k48_heap HR.out) HB.out)); rintro e w6 ⟨v263, rfl, ho0, hb⟩; obtain ⟨Av, cv, rfl, _⟩ := ho0; have HB1 := Aside0.mk (below_step HB.out hb); have HO1 := Aside0.mk (Kd.R_below HO.out hb); clear hb))
        go_loopw [9, 10, 11] (fun va vt vi wr2 => ∃ (k2 : Nat) (a : Int) (t : Bool), k2 ≤ out.length ∧ va = .int .i64 a ∧ vt = .bool t ∧ vi = .int .i64 k2 ∧ Aside0 (rnScan key out 0 0 false = rnScan key (out.drop k2) k2 a t) ∧ Aside0 (0 ≤ a ∧ a ≤ k2) ∧ Aside0 (Kd.R Kd.string 9 wr2 w.heap.size (fun _ => True) (.slice A out.length c) out) ∧ Aside0 (Below w.heap.size w wr2)) (fun va vt vi _ => out.length - (intOf vi).toNat)
        case atStart => exact ⟨0, 0, false, Nat.zero_le _, rfl, rfl, rfl, ⟨rfl⟩, ⟨by omega⟩, ⟨Kd.R_alloc HO1.out _⟩, ⟨below_alloc HB1.out _⟩⟩
        case round =>
          obtain ⟨k2, a, t, hk2, rfl, rfl, rfl, HS, HA, HO2, HB2⟩ := hrel
          by_cases hlt2 : k2 < out.length
          · obtain ⟨ad2, e2, hz0⟩ := Kd.at_string (Kd.R_reads' HO2.out).2.2 (k2 : Int) (by omega) (by omega)
            cases e2
            simp only [Int.toNat_natCast] at hz0
            obtain ⟨adk, _, _, ek, _, _, _, _, hx4, _⟩ := at_T48 (Kd.C_below HR.out HB2.out) (k : Int) (by omega) (by omega)
            cases ek
            simp only [Int.toNat_natCast] at hx4
            rw [← HKEY.out] at hx4
            have hS := HS.out
            rw [List.drop_eq_getElem_cons hlt2] at hS
            have hy : out[k2] = rdOf ByteArray.empty out (k2 : Int) := by simp [rdOf, List.getD_eq_getElem?_getD, List.getElem?_eq_getElem hlt2]
            rw [hy] at hS
            clear hy
            generalize rdOf ByteArray.empty out (k2 : Int) = y at hS hz0
            have HS := Aside0.mk hS
            clear hS
            have hlt2' : decide ((k2 : Int) < (out.length : Int)) = true := decide_eq_true (by omega)
            cases c1 : Op.bytesLess y.toList key.toList <;> cases t <;> cases c2 : (y.toList == key.toList)
            · go_wp2
              repeat (go_quiet (fail); try go_wp2)
              go_roundw
              case rel => exact ⟨k2 + 1, a, false, by omega, by go_num, by go_num, by go_num, ⟨by rw [HS.out]; simp only [rnScan]; rw [c1, c2]; simp⟩, ⟨by have := HA.out; omega⟩, ⟨by (with_reducible repeat (first | apply Kd.R_alloc | apply Kd.R_drewN | apply Kd.R_drew)); exact HO2.out⟩, ⟨by repeat (first | (with_reducible first | exact HB2.out | apply below_alloc | apply pw_below_drewN | apply below_drew1) | exact HB2.out)⟩⟩
              case measure => simp [intOf]; omega
            · go_wp2
              repeat (go_quiet (fail); try go_wp2)
              go_roundw
              case rel => exact ⟨k2 + 1, a, true, by omega, by go_num, by go_num, by go_num, ⟨by rw [HS.out]; simp only [rnScan]; rw [c1, c2]; simp⟩, ⟨by have := HA.out; omega⟩, ⟨by (with_reducible repeat (first | apply Kd.R_alloc | apply Kd.R_drewN | apply Kd.R_drew)); exact HO2.out⟩, ⟨by repeat (first | (with_reducible first | exact HB2.out | apply below_alloc | apply pw_below_drewN | apply below_drew1) | exact HB2.out)⟩⟩
              case measure => simp [intOf]; omega
            · go_wp2
              repeat (go_quiet (fail); try go_wp2)
              go_roundw
              case rel => exact ⟨k2 + 1, a, true, by omega, by go_num, by go_num, by go_num, ⟨by rw [HS.out]; simp only [rnScan]; rw [c1, c2]; simp⟩, ⟨by have := HA.out; omega⟩, ⟨by (with_reducible repeat (first | apply Kd.R_alloc | apply Kd.R_drewN | apply Kd.R_drew)); exact HO2.out⟩, ⟨by repeat (first | (with_reducible first | exact HB2.out | apply below_alloc | apply pw_below_drewN | apply below_drew1) | exact HB2.out)⟩⟩
              case measure => simp [intOf]; omega
            · go_wp2
              repeat (go_quiet (fail); try go_wp2)
              go_roundw
              case rel => exact ⟨k2 + 1, a, true, by omega, by go_num, by go_num, by go_num, ⟨by rw [HS.out]; simp only [rnScan]; rw [c1, c2]; simp⟩, ⟨by have := HA.out; omega⟩, ⟨by (with_reducible repeat (first | apply Kd.R_alloc | apply Kd.R_drewN | apply Kd.R_drew)); exact HO2.out⟩, ⟨by repeat (first | (with_reducible first | exact HB2.out | apply below_alloc | apply pw_below_drewN | apply below_drew1) | exact HB2.out)⟩⟩
              case measure => simp [intOf]; omega
            · go_wp2
              repeat (go_quiet (fail); try go_wp2)
              go_roundw
              case rel => exact ⟨k2 + 1, (k2 : Int) + 1, false, by omega, by go_num, by go_num, by go_num, ⟨by rw [HS.out]; simp only [rnScan]; rw [c1, c2]; simp⟩, ⟨by have := HA.out; omega⟩, ⟨by (with_reducible repeat (first | apply Kd.R_alloc | apply Kd.R_drewN | apply Kd.R_drew)); exact HO2.out⟩, ⟨by repeat (first | (with_reducible first | exact HB2.out | apply below_alloc | apply pw_below_drewN | apply below_drew1) | exact HB2.out)⟩⟩
              case measure => simp [intOf]; omega
            · go_wp2
              repeat (go_quiet (fail); try go_wp2)
              go_roundw
              case rel => exact ⟨k2 + 1, (k2 : Int) + 1, true, by omega, by go_num, by go_num, by go_num, ⟨by rw [HS.out]; simp only [rnScan]; rw [c1, c2]; simp⟩, ⟨by have := HA.out; omega⟩, ⟨by (with_reducible repeat (first | apply Kd.R_alloc | apply Kd.R_drewN | apply Kd.R_drew)); exact HO2.out⟩, ⟨by repeat (first | (with_reducible first | exact HB2.out | apply below_alloc | apply pw_below_drewN | apply below_drew1) | exact HB2.out)⟩⟩
              case measure => simp [intOf]; omega
            · go_wp2
              repeat (go_quiet (fail); try go_wp2)
              go_roundw
              case rel => exact ⟨k2 + 1, (k2 : Int) + 1, true, by omega, by go_num, by go_num, by go_num, ⟨by rw [HS.out]; simp only [rnScan]; rw [c1, c2]; simp⟩, ⟨by have := HA.out; omega⟩, ⟨by (with_reducible repeat (first | apply Kd.R_alloc | apply Kd.R_drewN | apply Kd.R_drew)); exact HO2.out⟩, ⟨by repeat (first | (with_reducible first | exact HB2.out | apply below_alloc | apply pw_below_drewN | apply below_drew1) | exact HB2.out)⟩⟩
              case measure => simp [intOf]; omega
            · go_wp2
              repeat (go_quiet (fail); try go_wp2)
              go_roundw
              case rel => exact ⟨k2 + 1, (k2 : Int) + 1, true, by omega, by go_num, by go_num, by go_num, ⟨by rw [HS.out]; simp only [rnScan]; rw [c1, c2]; simp⟩, ⟨by have := HA.out; omega⟩, ⟨by (with_reducible repeat (first | apply Kd.R_alloc | apply Kd.R_drewN | apply Kd.R_drew)); exact HO2.out⟩, ⟨by repeat (first | (with_reducible first | exact HB2.out | apply below_alloc | apply pw_below_drewN | apply below_drew1) | exact HB2.out)⟩⟩
              case measure => simp [intOf]; omega
          · have hlt2' : decide ((k2 : Int) < (out.length : Int)) = false := decide_eq_false (by omega)
            have hS := HS.out
            rw [List.drop_of_length_le (by omega)] at hS
            have hk2' : k2 = out.length := by omega
            have hIF := HIG.out
            rw [hS] at hIF
            simp only [rnScan] at hIF
            have HA' := Aside0.mk (show a.toNat ≤ out.length by have := HA.out; omega)
            cases t with
            | true =>
              have hIF' : out = o2 := by simpa using hIF
              subst hIF'
              go_wp2
              go_roundw
              case rel => exact ⟨k + 1, out, A, c, by omega, by go_num, rfl, ⟨HG.out⟩, ⟨by have := HK.out; omega⟩, ⟨HO2.out⟩, ⟨HB2.out⟩⟩
              case measure => simp [intOf]; omega
            | false =>
              have hIF' : out.take a.toNat ++ [key] ++ out.drop a.toNat = o2 := by simpa using hIF
              have HIF := Aside0.mk hIF'
              clear hIF hIF' HIG
              obtain ⟨adk, _, _, ek, _, _, _, _, hx4, _⟩ := at_T48 (Kd.C_below HR.out HB2.out) (k : Int) (by omega) (by omega)
              cases ek
              simp only [Int.toNat_natCast] at hx4
              rw [← HKEY.out] at hx4
              obtain ⟨i9, hi9, hi9'⟩ := Option.map_eq_some_iff.1 info9
              have hcutA := cut_to (P := Try.prog) 53 9 .i64 Try.underlying53 hi9 A out.length c a HA.out.1 (by have := HA.out; omega) hoc
              have hcutB := cut_from (P := Try.prog) 53 9 .i64 Try.underlying53 hi9 1 (by cases i9; simp_all) A out.length c a HA.out.1 (by have := HA.out; omega)
              have hCA := Kd.C_take (Kd.R_reads' HO2.out).2.2 HA'.out
              have hCB := Kd.C_drop (Kd.R_reads' HO2.out).2.2 HA'.out hoc
              have hla : (out.take a.toNat).length = a.toNat := by rw [List.length_take]; have := HA'.out; omega
              have hlb : (out.drop a.toNat).length = out.length - a.toNat := List.length_drop
              rw [hla] at hCA
              rw [hlb] at hCB
              have hk1 : Kd.string.sz = 1 := rfl
              rw [hk1] at hCB
              generalize (if c = a.toNat then A else A.map fun x => x.add (a.toNat * 1)) = AB at hcutB hCB
              have HCA := Aside0.mk hCA
              have HCB := Aside0.mk hCB
              have HLA := Aside0.mk hla
              clear hCA hCB hla hlb hk1 hi9 hi9'
              go_wp2
              have HX4 := Aside0.mk hx4
              have hxa := fun o => pw_cell_below (below_alloc (Below.refl _ _) o) hx4
              go_region_law (first
                | (refine R_append_strs (w0 := wr) wr.heap.size (by rfl) (.tmp 70) (.tmp 73) 53 16 rfl Try.underlying53 info9 (by decide) _ [] (out.take a.toNat) A _ _ rfl rfl ?c1 ?c2 ?c3 ?c4 ?c5 ?_; (case c1 => first | exact (R_new9 _ _ _ (by simp) (by simp)) | exact Kd.R_drew (R_new9 _ _ _ (by simp) (by simp)) | exact Kd.R_alloc (R_new9 _ _ _ (by simp) (by simp)) _ | exact Kd.R_drew (Kd.R_alloc (R_new9 _ _ _ (by simp) (by simp)) _) | exact Kd.R_alloc (Kd.R_drew (R_new9 _ _ _ (by simp) (by simp))) _); (case c2 => exact Kd.C_below HCA.out (by repeat (first | exact Below.refl _ _ | apply below_alloc | apply pw_below_drewN | apply below_drew1 | apply below_drew))); (case c3 => exact (by repeat (first | exact Below.refl _ _ | apply below_alloc | apply pw_below_drewN | apply below_drew1 | apply below_drew))); (case c4 => first | (simp; done) | (simp; omega)); (case c5 => have h1_ := HA'.out; simp only [List.length_nil, Nat.zero_add]; omega); intro v1 w1 ho hb hg; have hx4 := pw_cell_below hb HX4.out; have HV1 := Aside0.mk ho; have HD1 := Aside0.mk hb; have HG1 := Aside0.mk hg; clear ho hb hg)
                | (refine R_append_strs (w0 := wr) wr.heap.size (by rfl) (.tmp 74) (.tmp 80) 53 16 rfl Try.underlying53 info9 (by decide) _ (out.take a.toNat) [key] _ _ _ rfl rfl ?c1 ?c2 ?c3 ?c4 ?c5 ?_; (case c1 => (with_reducible repeat (first | apply Kd.R_alloc | apply Kd.R_drewN | apply Kd.R_drew)); exact HV1.out); (case c2 => first | exact C_one (blk_new _ _) | exact C_grown HG1.out (blk_first wr _ _) (by show (some wr.heap.size : Option Nat) ≠ some (wr.heap.size + 1); simp) | exact C_grown HG1.out (blk_second wr _ _) (by show (some (wr.heap.size + 1) : Option Nat) ≠ some wr.heap.size; simp)); (case c3 => repeat (first | exact HD1.out | apply below_alloc | apply pw_below_drewN | apply below_drew1 | apply below_drew)); (case c4 => first | exact HD1.out.size | exact (below_alloc HD1.out _).size | exact (below_drew (below_alloc HD1.out _)).size); (case c5 => have h1_ := HA'.out; rw [HLA.out]; omega); intro v2 w2 ho hb hg; have HV2 := Aside0.mk ho; have HD2 := Aside0.mk hb; clear ho hb hg)
                | (refine R_append_strs (w0 := wr) wr.heap.size (by rfl) (.tmp 81) (.tmp 84) 53 16 rfl Try.underlying53 info9 (by decide) _ (out.take a.toNat ++ [key]) (out.drop a.toNat) AB _ _ rfl rfl ?c1 ?c2 ?c3 ?c4 ?c5 ?_; (case c1 => exact HV2.out); (case c2 => exact Kd.C_below HCB.out HD2.out); (case c3 => exact HD2.out); (case c4 => exact HD2.out.size); (case c5 => have h1_ := HA'.out; rw [List.length_append, HLA.out]; simp only [List.length_cons, List.length_nil]; omega); intro v3 w3 ho hb hg; rw [HIF.out] at ho; obtain ⟨A3, c3, rfl⟩ := Kd.R_slice ho; have HV3 := Aside0.mk ho; have HD3 := Aside0.mk hb; clear ho hb hg))
              all_goals
                go_wp2
                go_roundw
                case rel => exact ⟨k + 1, o2, A3, c3, by omega, by go_num, rfl, ⟨HG.out⟩, ⟨by rw [← HIF.out]; simp only [List.length_append, List.length_take, List.length_drop, List.length_cons, List.length_nil]; have := HA'.out; have := HK.out; omega⟩, ⟨Kd.R_lower HV3.out HB2.out.size⟩, ⟨HB2.out.trans (HD3.out.mono HB2.out.size)⟩⟩
                case measure => simp [intOf]; omega
    · have hlt' : decide ((k : Int) < (l0.length : Int)) = false := decide_eq_false (by omega)
      have hkl : k = l0.length := by omega
      subst hkl
      have hF := HF.out
      rw [List.drop_length] at hF
      obtain rfl := Option.some.inj hF
      go_wp2
      go_ret
      exact ⟨_, rfl, HO.out, HB.out⟩

end Go.Proofs.Yteeeiaggkdlolaa.Ky
