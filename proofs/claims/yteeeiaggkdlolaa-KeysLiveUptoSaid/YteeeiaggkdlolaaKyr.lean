/- deadeyeref10.Live: the entries that count, of rising ones: walked by hand. -/
import Derived.Test.YteeeiaggkdlolaaKyl
import Derived.Test.YteeeiaggkdlolaaKfd
namespace Go.Proofs.Yteeeiaggkdlolaa.Ky
open Go.RowKit Go.Maps Go.Sort Go.Shelf Go.WideMaps Go.Proofs.YteeeiaggkdlolaaW.PrintWords Go.Proofs.YteeeiaggkdlolaaW.PrintLast Go.Proofs.YteeeiaggkdlolaaW.PrintMore
set_option linter.unusedVariables false
set_option linter.unusedSimpArgs false
set_option linter.unusedSectionVars false

def laterB (last c : Int) (r : List S48) : Bool := r.any (fun y => decide (y.f0 ≤ last) && (y.f1 == c))
def putB (t : Int × Int × Int × Int × ByteArray × Int × Int × List Int × Bool) (f0 f3 : Int) : Bool := t.2.2.2.2.2.2.2.2 && (t.2.2.2.1 == 1) && (t.1 == f0) && (f3 == 1)
def fndT (l : List S48) (last : Int) (i : Nat) := tup (fnd l (bs (rd_T48 l i).f4) last l.length)
def rlAt (l : List S48) (last : Int) (i : Nat) : Option S48 :=
  if last < (rd_T48 l i).f0 then none
  else if putB (fndT l last i) (rd_T48 l i).f0 (rd_T48 l i).f3 = true then some (rd_T48 l i)
  else if laterB last (rd_T48 l i).f1 (l.drop (i + 1)) = true then none else some (trim48 (rd_T48 l i))
def rlV (l : List S48) (last : Int) (ev : Nat → V8) (i : Nat) : Option V8 :=
  if last < (rd_T48 l i).f0 then none
  else if putB (fndT l last i) (rd_T48 l i).f0 (rd_T48 l i).f3 = true then some (ev i)
  else if laterB last (rd_T48 l i).f1 (l.drop (i + 1)) = true then none else some (tr8 (ev i))
def deadeyeref10_Live.f (l0 : List (S48)) (a1 : Int) : Option ((List (S48))) := if l0.length < 549755813888 then some ((List.range l0.length).filterMap (rlAt l0 a1)) else none

theorem rlV_step {l : List S48} {last : Int} {ev : Nat → V8} {k : Nat} {us : List V8} (h : us = (List.range k).filterMap (rlV l last ev)) {o : Option V8} (ho : rlV l last ev k = o) : us ++ o.toList = (List.range (k + 1)).filterMap (rlV l last ev) := by
  rw [List.range_succ, List.filterMap_append, ← h]
  cases o with
  | none => simp [ho]
  | some y => simp [ho]
theorem R_empty8 (w : World) : k8.R 48 (w.alloc (.cells #[] 48)) w.heap.size (fun _ => True) (.slice (some ⟨w.heap.size, 0, none⟩) 0 0) [] :=
  ⟨fun _ _ => trivial, [], ⟨rfl, .inr ⟨w.heap.size, 0, #[], rfl, Nat.le_refl _, blk_new _ _, Nat.le_refl _, by decide, rfl, rfl⟩⟩, Reps.none _ _⟩
theorem laterB_step {l : List S48} {last c : Int} {k : Nat} (hk : k < l.length) : laterB last c (l.drop k) = ((decide ((rd_T48 l k).f0 ≤ last) && ((rd_T48 l k).f1 == c)) || laterB last c (l.drop (k + 1))) := by
  rw [List.drop_eq_getElem_cons hk, ← rd48_nat hk]
  rfl
theorem putB_cases (g0 g1 g2 g3 : Int) (g4 : ByteArray) (g5 g6 : Int) (g7 : List Int) (gok : Bool) (f0 f3 : Int) :
    (gok = true ∧ (g3 == 1) = true ∧ (g0 == f0) = true ∧ (f3 == 1) = true ∧ putB (g0, g1, g2, g3, g4, g5, g6, g7, gok) f0 f3 = true) ∨
    (putB (g0, g1, g2, g3, g4, g5, g6, g7, gok) f0 f3 = false ∧ (gok = false ∨ (gok = true ∧ (g3 == 1) = false) ∨ (gok = true ∧ (g3 == 1) = true ∧ (g0 == f0) = false) ∨ (gok = true ∧ (g3 == 1) = true ∧ (g0 == f0) = true ∧ (f3 == 1) = false))) := by
  unfold putB
  cases gok <;> cases h1 : (g3 == 1) <;> cases h2 : (g0 == f0) <;> cases h3 : (f3 == 1) <;> simp
set_option maxRecDepth 100000 in
set_option maxHeartbeats 8000000 in
theorem deadeyeref10_Live.calls (P0_ : Nat → Prop) (A0 : Option Addr) (c0 : Nat) (l0 : List (S48)) (a1 : Int) (r : List (S48)) (w : World) (hs0 : Kd.V k48 48 w w.heap.size (fun k_ => P0_ k_) (.slice A0 l0.length c0) l0) (h : deadeyeref10_Live.f l0 a1 = some r) :
    Calls Try.prog 33 #[.slice A0 l0.length c0, .int .i64 a1] w fun e w' => ∃ v0_ : Value, e = .returned (v0_) ∧ Kd.N k48 48 w' w.heap.size (fun k_ => (P0_ k_ ∨ w.heap.size ≤ k_)) v0_ r ∧ Below w.heap.size w w' := by
  unfold deadeyeref10_Live.f at h
  split at h
  case isFalse => cases h
  rename_i hg
  obtain rfl := Option.some.inj h
  clear h
  have HL := Aside0.mk hg
  clear hg
  have hF := (Kd.V_at hs0).2.2
  have hC := (Kd.F_now hF).2.1
  have HF := Aside0.mk hF
  have hcs := (Kd.V_at hs0).2.1
  obtain ⟨ev, hev, hcells⟩ := exists_ev hF
  have HE := Aside0.mk hev
  have HX := Aside0.mk hcells
  have HC0 := Aside0.mk hcs
  have HS0 := Aside0.mk hs0
  clear hs0 hF hev hcells hcs
  go_enter Try.func33, Try.ntmps33
  go_wp2
  go_loopw [5, 6] (fun v i wr => ∃ (k : Nat) (A : Option Addr) (c : Nat) (us : List V8), k ≤ l0.length ∧ i = .int .i64 k ∧ v = .slice A us.length c ∧ Aside0 (us = (List.range k).filterMap (rlV l0 a1 ev)) ∧ Aside0 (us.length ≤ k) ∧ Aside0 (Kd.R k8 48 wr w.heap.size (fun _ => True) (.slice A us.length c) us) ∧ Aside0 (Below w.heap.size w wr)) (fun _ i _ => l0.length - (intOf i).toNat)
  case atStart =>
    refine ⟨0, _, _, [], Nat.zero_le _, rfl, rfl, ⟨rfl⟩, ⟨Nat.le_refl _⟩, ⟨?_⟩, ⟨(Below.refl _ _).alloc (Nat.le_refl _) _⟩⟩
    exact R_empty8 w
  case round =>
    obtain ⟨k, A, c, us, hk, rfl, rfl, HU, HUL, HO, HB⟩ := hrel
    obtain ⟨wo, rfl⟩ : ∃ wo : World, wo = wr := ⟨_, rfl⟩
    by_cases hlt : k < l0.length
    · obtain ⟨ad, e, hxk⟩ := HX.out k hlt
      cases e
      obtain ⟨hx0, hx1, hx2, hx3, hx4, hx5, hx6, hx7⟩ := hxk.below HB.out
      obtain ⟨hek, hlk, hFk⟩ := HE.out k hlt
      have e0 : (rd_T48 l0 k).f0 = (ev k).f0 := by rw [hek]
      have e1 : (rd_T48 l0 k).f1 = (ev k).f1 := by rw [hek]
      have e3 : (rd_T48 l0 k).f3 = (ev k).f3 := by rw [hek]
      have e4 : (rd_T48 l0 k).f4 = (ev k).f4 := by rw [hek]
      have hfind := refFind_eq l0 (ev k).f4 a1 (l0.length + 1) (by have := HL.out; omega) (by omega)
      have hrl : ∀ b : Bool, putB (tup (fnd l0 (bs (ev k).f4) a1 l0.length)) (ev k).f0 (ev k).f3 = b → ∀ b2 : Bool, laterB a1 (ev k).f1 (l0.drop (k + 1)) = b2 → rlV l0 a1 ev k = if a1 < (ev k).f0 then none else if b = true then some (ev k) else if b2 = true then none else some (tr8 (ev k)) := by
        intro b hb b2 hb2
        unfold rlV fndT
        rw [e0, e1, e3, e4, hb, hb2]
      clear e0 e1 e3 e4 hek hlk hFk
      obtain ⟨y, hy⟩ : ∃ y, ev k = y := ⟨_, rfl⟩
      rw [hy] at hx0 hx1 hx2 hx3 hx4 hx5 hx6 hx7 hfind hrl
      have HRL := Aside0.mk hrl
      obtain ⟨t, ht⟩ : ∃ t, t = tup (fnd l0 (bs y.f4) a1 l0.length) := ⟨_, rfl⟩
      rw [← ht] at hfind hrl
      have HRL := Aside0.mk hrl
      clear hrl ht hy
      obtain ⟨g0, g1, g2, g3, g4, g5, g6, g7, gok⟩ := t
      have HFI := Aside0.mk hfind
      clear hfind
      have hlt' : decide ((k : Int) < (l0.length : Int)) = true := decide_eq_true (by omega)
      by_cases hb1 : a1 < y.f0
      · have hb1' : decide (a1 < y.f0) = true := decide_eq_true hb1
        go_wp2
        go_roundw
        case rel => exact ⟨k + 1, A, c, us, by omega, by go_num, rfl, ⟨by have h_ := rlV_step HU.out (HRL.out _ rfl _ rfl); rw [if_pos hb1] at h_; simpa using h_⟩, ⟨by have := HUL.out; omega⟩, ⟨Kd.R_alloc HO.out _⟩, ⟨below_alloc HB.out _⟩⟩
        case measure => simp [intOf]; omega
      · have hb1' : decide (a1 < y.f0) = false := decide_eq_false hb1
        have HN1 := Aside0.mk hb1
        clear hb1
        obtain ⟨S, hS⟩ : ∃ S : Obj, S = .cells #[.int .i64 y.f0, .int .i64 y.f1, .int .i64 y.f2, .int .i64 y.f3, .string y.f4, .int .i64 y.f5, .int .u32 y.f6, .slice y.A y.n y.c] 48 (0, 0) := ⟨_, rfl⟩
        have HS := Aside0.mk hS
        clear hS
        rcases putB_cases g0 g1 g2 g3 g4 g5 g6 g7 gok y.f0 y.f3 with ⟨rfl, q1, q2, q3, hp⟩ | ⟨hp, hq⟩
        · have HRP := Aside0.mk (show rlV l0 a1 ev k = some y by rw [HRL.out _ hp _ rfl, if_neg HN1.out, if_pos rfl])
          clear hp HRL
          go_wp2_with (first
            | (go_at_call 23; (with_reducible refine (deadeyeref10_Find.calls (l0.length + 1) (fun k_ => k_ < w.heap.size) _ _ l0 y.f4 a1 _ _ _ _ _ _ _ _ _ _ ?side1 HFI.out).mono ?_); (case side1 => exact Kd.V_mk HC0.out (Kd.F_below (Kd.C_F k48_heap (Kd.F_now HF.out)) (below_alloc HB.out _))); rintro e w6 ⟨vF, rfl, ho0, hb⟩; obtain ⟨Av, cv, rfl, _⟩ := ho0; have HB1 := Aside0.mk (below_step (below_alloc HB.out _) hb); have HO1 := Aside0.mk (Kd.R_below (Kd.R_alloc HO.out _) hb); have HBK : Aside0 (w6.heap[wo.heap.size]? = some S) := ⟨by rw [HS.out]; exact blk_below (blk_new wo _) hb⟩; obtain ⟨hm0, hm1, hm2, hm3, hm4, hm5, hm6, hm7⟩ := cells8 (show w6.heap[wo.heap.size]? = some (.cells #[.int .i64 y.f0, .int .i64 y.f1, .int .i64 y.f2, .int .i64 y.f3, .string y.f4, .int .i64 y.f5, .int .u32 y.f6, .slice y.A y.n y.c] 48 (0, 0)) from by rw [← HS.out]; exact HBK.out); have hz6 := blk_lt HBK.out; clear hb)
            | (at_builtin; refine Kd.R_append k8 (w0 := w) w.heap.size rfl (.tmp 53) (.tmp 55) 44 48 (.agg #[(.int .i64 0), (.int .i64 0), (.int .i64 0), (.int .i64 0), (.string ⟨#[]⟩), (.int .i64 0), (.int .u32 0), (.slice none 0 0)]) 88 rfl Try.underlying44 info48 rfl (by decide) (by omega) (.slice A us.length c) us (y) (enc8 (y)) (fun _ => True) (fun k_ => True ∧ some k_ ≠ (Value.slice A us.length c).ownBlock) rfl ?hx_ (k8_mkM _ _ _ _) (fun _ hk => hk) ?af (by (with_reducible repeat (first | apply Kd.R_alloc | apply Kd.R_drewN | apply Kd.R_drew)); exact HO1.out) (by repeat (first | (with_reducible first | exact HB1.out | apply below_alloc | apply pw_below_drewN | apply below_drew1) | exact HB1.out)) ?sz_ ?al ?_; (case hx_ => first | rfl | (show Value.slice (some ⟨w6.heap.size + 1, 0, none⟩) 1 1 = _; simp)); (case af => exact fun _ _ => trivial); (case sz_ => exact below_size (by repeat (first | (with_reducible first | exact HB1.out | apply below_alloc | apply pw_below_drewN | apply below_drew1) | exact HB1.out))); (case al => have h1_ := HL.out; have h2_ := HUL.out; omega); intro v4 w4 ho hb hg hat4; obtain ⟨A4, c4, rfl⟩ := Kd.R_slice ho; have HO4 := Aside0.mk ho; have HB4 := Aside0.mk hb; clear ho hb hg hat4))
          go_roundw
          case rel => exact ⟨k + 1, A4, c4, us ++ [y], by omega, by go_num, by simp, ⟨rlV_step HU.out HRP.out⟩, ⟨by have := HUL.out; simp; omega⟩, HO4, HB4⟩
          case measure => simp [intOf]; omega
        · have HRP := Aside0.mk (fun b2 h2 => HRL.out _ hp b2 h2)
          have HQ := Aside0.mk hp
          clear hp HRL
          rcases hq with rfl | ⟨rfl, q1⟩ | ⟨rfl, q1, q2⟩ | ⟨rfl, q1, q2, q3⟩
          all_goals
            go_wp2_with (first
              | (go_at_call 23; (with_reducible refine (deadeyeref10_Find.calls (l0.length + 1) (fun k_ => k_ < w.heap.size) _ _ l0 y.f4 a1 _ _ _ _ _ _ _ _ _ _ ?side1 HFI.out).mono ?_); (case side1 => exact Kd.V_mk HC0.out (Kd.F_below (Kd.C_F k48_heap (Kd.F_now HF.out)) (below_alloc HB.out _))); rintro e w6 ⟨vF, rfl, ho0, hb⟩; obtain ⟨Av, cv, rfl, _⟩ := ho0; have HB1 := Aside0.mk (below_step (below_alloc HB.out _) hb); have HO1 := Aside0.mk (Kd.R_below (Kd.R_alloc HO.out _) hb); have HBK : Aside0 (w6.heap[wo.heap.size]? = some S) := ⟨by rw [HS.out]; exact blk_below (blk_new wo _) hb⟩; obtain ⟨hm0, hm1, hm2, hm3, hm4, hm5, hm6, hm7⟩ := cells8 (show w6.heap[wo.heap.size]? = some (.cells #[.int .i64 y.f0, .int .i64 y.f1, .int .i64 y.f2, .int .i64 y.f3, .string y.f4, .int .i64 y.f5, .int .u32 y.f6, .slice y.A y.n y.c] 48 (0, 0)) from by rw [← HS.out]; exact HBK.out); have hz6 := blk_lt HBK.out; clear hb))
            go_loopw [10, 11] (fun vt vi wr2 => ∃ (k2 : Nat) (tt : Bool), k2 ≤ l0.length ∧ k + 1 ≤ k2 ∧ vt = .bool tt ∧ vi = .int .i64 k2 ∧ Aside0 (laterB a1 y.f1 (l0.drop (k + 1)) = (tt || laterB a1 y.f1 (l0.drop k2))) ∧ Aside0 (wr2.heap[wo.heap.size]? = some S) ∧ Aside0 (Kd.R k8 48 wr2 w.heap.size (fun _ => True) (.slice A us.length c) us) ∧ Aside0 (Below w.heap.size w wr2)) (fun _ vi _ => l0.length - (intOf vi).toNat)
            case atStart => exact ⟨k + 1, false, by omega, Nat.le_refl _, rfl, by go_num, ⟨by simp⟩, ⟨blk_alloc HBK.out _⟩, ⟨Kd.R_alloc HO1.out _⟩, ⟨below_alloc HB1.out _⟩⟩
            case round =>
              obtain ⟨k2, tt, hk2, hkk, rfl, rfl, HLT, HBK2, HO2, HB2⟩ := hrel
              obtain ⟨hm0, hm1, hm2, hm3, hm4, hm5, hm6, hm7⟩ := cells8 (show wr.heap[wo.heap.size]? = some (.cells #[.int .i64 y.f0, .int .i64 y.f1, .int .i64 y.f2, .int .i64 y.f3, .string y.f4, .int .i64 y.f5, .int .u32 y.f6, .slice y.A y.n y.c] 48 (0, 0)) from by rw [← HS.out]; exact HBK2.out)
              by_cases hlt2 : k2 < l0.length
              · obtain ⟨ad2, e2, hxz⟩ := HX.out k2 hlt2
                cases e2
                obtain ⟨hz0, hz1, hz2, hz3, hz4, hz5, hz6, hz7⟩ := hxz.below HB2.out
                have hst := laterB_step (last := a1) (c := y.f1) hlt2
                have e0 : (rd_T48 l0 k2).f0 = (ev k2).f0 := by rw [(HE.out k2 hlt2).1]
                have e1 : (rd_T48 l0 k2).f1 = (ev k2).f1 := by rw [(HE.out k2 hlt2).1]
                rw [e0, e1] at hst
                generalize ev k2 = z at hz0 hz1 hz2 hz3 hz4 hz5 hz6 hz7 hst
                obtain ⟨b0, hb0⟩ : ∃ b0, decide (z.f0 ≤ a1) = b0 := ⟨_, rfl⟩
                obtain ⟨b1, hb1⟩ : ∃ b1, (z.f1 == y.f1) = b1 := ⟨_, rfl⟩
                rw [hb0, hb1] at hst
                have HST := Aside0.mk hst
                have hlt2' : decide ((k2 : Int) < (l0.length : Int)) = true := decide_eq_true (by omega)
                have p2 : 0 ≤ (k2 : Int) := by omega
                have q2 : (k2 : Int) < (l0.length : Int) := by omega
                clear hst e0 e1 hxz
                cases tt <;> cases b0 <;> cases b1
                all_goals
                  go_wp2
                  repeat (go_quiet (fail); try go_wp2)
                  go_roundw
                  case rel => exact ⟨k2 + 1, _, by omega, by omega, rfl, by go_num, ⟨by rw [HLT.out, HST.out]; simp⟩, ⟨HBK2.out⟩, ⟨by (with_reducible repeat (first | apply Kd.R_alloc | apply Kd.R_drewN | apply Kd.R_drew)); exact HO2.out⟩, ⟨by repeat (first | (with_reducible first | exact HB2.out | apply below_alloc | apply pw_below_drewN | apply below_drew1) | exact HB2.out)⟩⟩
                  case measure => simp [intOf]; omega
              · have hlt2' : decide ((k2 : Int) < (l0.length : Int)) = false := decide_eq_false (by omega)
                have hk2' : k2 = l0.length := by omega
                have hL := HLT.out
                rw [hk2', List.drop_length] at hL
                have hLB : laterB a1 y.f1 (l0.drop (k + 1)) = tt := by rw [hL]; cases tt <;> rfl
                have hV := HRP.out _ hLB
                rw [if_neg (by have := HN1.out; omega), if_neg (by decide)] at hV
                have HV := Aside0.mk hV
                clear hV hLB hL hk2'
                cases tt with
                | true =>
                  go_wp2
                  go_roundw
                  case rel => exact ⟨k + 1, A, c, us, by omega, by go_num, rfl, ⟨by have h_ := rlV_step HU.out HV.out; simpa using h_⟩, ⟨by have := HUL.out; omega⟩, ⟨HO2.out⟩, ⟨HB2.out⟩⟩
                  case measure => simp [intOf]; omega
                | false =>
                  go_wp2_with (first
                    | (at_builtin; refine Kd.R_append k8 (w0 := w) w.heap.size rfl (.tmp 87) (.tmp 95) 44 48 (.agg #[(.int .i64 0), (.int .i64 0), (.int .i64 0), (.int .i64 0), (.string ⟨#[]⟩), (.int .i64 0), (.int .u32 0), (.slice none 0 0)]) 88 rfl Try.underlying44 info48 rfl (by decide) (by omega) (.slice A us.length c) us (tr8 y) (enc8 (tr8 y)) (fun _ => True) (fun k_ => True ∧ some k_ ≠ (Value.slice A us.length c).ownBlock) rfl ?hx_ (k8_mkM _ _ _ _) (fun _ hk => hk) ?af (by (with_reducible repeat (first | apply Kd.R_alloc | apply Kd.R_drewN | apply Kd.R_drew)); exact HO2.out) (by repeat (first | (with_reducible first | exact HB2.out | apply below_alloc | apply pw_below_drewN | apply below_drew1) | exact HB2.out)) ?sz_ ?al ?_; (case hx_ => first | rfl | (show Value.slice (some ⟨wr.heap.size, 0, none⟩) 1 1 = _; simp)); (case af => exact fun _ _ => trivial); (case sz_ => exact below_size (by repeat (first | (with_reducible first | exact HB2.out | apply below_alloc | apply pw_below_drewN | apply below_drew1) | exact HB2.out))); (case al => have h1_ := HL.out; have h2_ := HUL.out; omega); intro v4 w4 ho hb hg hat4; obtain ⟨A4, c4, rfl⟩ := Kd.R_slice ho; have HO4 := Aside0.mk ho; have HB4 := Aside0.mk hb; clear ho hb hg hat4))
                  go_roundw
                  case rel => exact ⟨k + 1, A4, c4, us ++ [tr8 y], by omega, by go_num, by simp, ⟨by have h_ := rlV_step HU.out HV.out; simpa using h_⟩, ⟨by have := HUL.out; simp; omega⟩, HO4, HB4⟩
                  case measure => simp [intOf]; omega
    · have hlt' : decide ((k : Int) < (l0.length : Int)) = false := decide_eq_false (by omega)
      have hkl : k = l0.length := by omega
      subst hkl
      have hR := HO.out
      rw [HU.out] at hR
      have HR := Aside0.mk hR
      clear hR
      go_wp2
      go_ret
      refine ⟨_, rfl, ?_, HB.out⟩
      have hbase := Kd.R_base HO.out
      obtain ⟨z1, z2⟩ := zip_filterMap (f := rlAt l0 a1) (g := rlV l0 a1 ev) (Rr := fun x y => Kd.FK k48 wo (fun k_ => (P0_ k_ ∨ w.heap.size ≤ k_) ∧ some k_ ≠ (Value.slice A us.length c).ownBlock) x (enc8 y)) (List.range l0.length) (fun i hi => by
        have hi := List.mem_range.1 hi
        obtain ⟨he, hle, hFi⟩ := HE.out i hi
        have hFi5 : Kd.F (Kd.int .u8) wo (fun k_ => (P0_ k_ ∨ w.heap.size ≤ k_) ∧ some k_ ≠ (Value.slice A us.length c).ownBlock) (ev i).A (rd_T48 l0 i).f7.length (rd_T48 l0 i).f7 :=
          Kd.F_mono (Kd.F_below (Kd.F_bound hFi) HB.out) (fun k_ hk => ⟨.inl hk.1, fun e => by have := hbase k_ e.symm; have := hk.2; omega⟩)
        unfold rlAt rlV
        by_cases c0 : a1 < (rd_T48 l0 i).f0
        · rw [if_pos c0, if_pos c0]
          exact .inl ⟨rfl, rfl⟩
        · rw [if_neg c0, if_neg c0]
          by_cases c1 : putB (fndT l0 a1 i) (rd_T48 l0 i).f0 (rd_T48 l0 i).f3 = true
          · rw [if_pos c1, if_pos c1]
            refine .inr ⟨_, _, rfl, rfl, ?_⟩
            rw [he]
            exact k48_mkF wo _ (rd_T48 l0 i) hle hFi5
          · rw [if_neg c1, if_neg c1]
            by_cases c2 : laterB a1 (rd_T48 l0 i).f1 (l0.drop (i + 1)) = true
            · rw [if_pos c2, if_pos c2]
              exact .inl ⟨rfl, rfl⟩
            · rw [if_neg c2, if_neg c2]
              refine .inr ⟨_, _, rfl, rfl, ?_⟩
              rw [he]
              exact k48_mkF wo _ (trim48 (rd_T48 l0 i)) (Nat.le_refl _) (Kd.F_nil _ _ _))
      have hR := HO.out
      refine N_of_k8 (vs := us) (HO.out) (fun k hk => .inr (hbase k hk)) ?_ ?_
      · rw [← HU.out] at z1; exact z1
      · exact fun j x y h1 h2 => z2 j x y h1 (by rw [← HU.out]; exact h2)

end Go.Proofs.Yteeeiaggkdlolaa.Ky
