/- keys.Names: the keys that are there, walked by hand: a map that the call makes, then its keys sorted. -/
import Derived.Test.YteeeiaggkdlolaaKy0
import Derived.Test.YteeeiaggkdlolaaKs
namespace Go.Proofs.Yteeeiaggkdlolaa.Ky
open Go.RowKit Go.Maps Go.Sort Go.Shelf Go.WideMaps Go.Proofs.YteeeiaggkdlolaaW.PrintWords Go.Proofs.YteeeiaggkdlolaaW.PrintLast Go.Proofs.YteeeiaggkdlolaaW.PrintMore
set_option linter.unusedVariables false
set_option linter.unusedSimpArgs false
set_option linter.unusedSectionVars false

theorem law9 : Keyed Try.prog 9 := string_keyed Try.underlying9
theorem sortsA (m : Nat) : AnyZ.SortsIn Try.prog Try.sortedA_ren Fence.wide m :=
  ⟨fun blk off cap ss W hH hblk hsz => callsIn_wide.2 (AnyM.slices_Sort_string Try.sortA blk off cap ss W hH hblk hsz),
   fun p cap W => callsIn_wide.2 (AnyM.slices_Sort_string_none Try.sortA p cap W)⟩

theorem keys44 (mb : Option Nat) (W : World) : Calls Try.prog 44 #[.map mb] W fun e w' => e = .returned (.func (.func 59) #[] #[.pointer (some ⟨W.heap.size, 0, none⟩)]) ∧ w' = W.alloc (.cells #[.map mb] 71) :=
  callsIn_wide.1 (AnyZ.keys_in Try.keysA Fence.wide 5 trivial rfl mb W)

theorem sorted43 {H : Type} (b nn : Nat) (D0 : DataW H) (R : Value → Option (DataW H × List MemPlace)) (w : World) (hown : w.ownsMap Try.prog 9 R b nn D0) (hmax : Maps.size D0 ≤ maxLen) (hbytes : Maps.size D0 * 16 ≤ 140737488355328) :
    Calls Try.prog 43 #[.func (.func 59) #[] #[.pointer (some ⟨w.heap.size, 0, none⟩)]] (w.alloc (.cells #[.map (some b)] 71)) fun e w' => ∃ (v : Value) (ss : List (List UInt8)), e = .returned v ∧ ss.Perm (strKeys D0) ∧
      w'.ownsRow w.heap.size 9 1 v ss.length ((ss.mergeSort (fun x y => decide (x ≤ y))).map encStr) ∧ (v = .slice none 0 0 ↔ ss = []) ∧ Below w.heap.size w w' := by
  have hbl := hown.lt
  have hseq : SeqGives Fence.wide 2 Try.prog 59 #[.pointer (some ⟨w.heap.size, 0, none⟩)] encStr (fun ss => ss.Perm (strKeys D0)) (Maps.size D0) (w.alloc (.cells #[.map (some b)] 71)) :=
    AnyZ.keys_gives (ρ := Try.keysA_ren) { Try.keysA with } Fence.wide _ trivial rfl (by omega) w.heap.size b nn D0 _ (by simp) (by simp) (by
      obtain ⟨es, clock, hb, Ft, hs, hD⟩ := hown
      exact ⟨es, clock, (Below.heap_alloc _ _ b hbl).trans hb, Ft, hs, hD⟩)
  have cS := AnyZ.sorted_in Try.sortedA Fence.wide 5 trivial trivial trivial trivial rfl (by omega) (sortsA _) (enters_of Try.func58 (by kernel_rfl) rfl) 59 #[.pointer (some ⟨w.heap.size, 0, none⟩)] trivial (enters_of Try.func59 (by kernel_rfl) rfl) _ _ hmax hbytes _ hseq
  change CallsIn _ _ Try.prog 43 _ _ _ at cS
  refine (callsIn_wide.1 cS).mono ?_
  rintro e w' ⟨v, ss, rfl, hS, hrow, hnil, hb⟩
  exact ⟨v, ss, rfl, hS, ownsRow_base_a hrow (by simp), hnil, ((Below.refl _ w).alloc (Nat.le_refl _) _).trans (hb.mono (by simp))⟩

/-! ### the plain words -/
abbrev bs (s : ByteArray) : List UInt8 := s.data.toList
def insB (x : List UInt8) : List (List UInt8) → List (List UInt8)
  | [] => [x]
  | y :: l => if x ≤ y then x :: y :: l else y :: insB x l
def isortB : List (List UInt8) → List (List UInt8)
  | [] => []
  | x :: l => insB x (isortB l)
theorem insB_perm (x : List UInt8) : ∀ l, (insB x l).Perm (x :: l)
  | [] => List.Perm.refl _
  | y :: l => by
    unfold insB
    split
    · exact List.Perm.refl _
    · exact ((insB_perm x l).cons y).trans (List.Perm.swap _ _ _)
theorem isortB_perm : ∀ l, (isortB l).Perm l
  | [] => List.Perm.refl _
  | x :: l => (insB_perm x _).trans ((isortB_perm l).cons x)
theorem insB_sorted (x : List UInt8) : ∀ l : List (List UInt8), l.Pairwise (· ≤ ·) → (insB x l).Pairwise (· ≤ ·)
  | [], _ => by simp [insB]
  | y :: l, h => by
    unfold insB
    have h' := List.pairwise_cons.1 h
    split
    · rename_i hx
      refine List.pairwise_cons.2 ⟨fun z hz => ?_, h⟩
      rcases List.mem_cons.1 hz with rfl | hz
      · exact hx
      · exact List.le_trans hx (h'.1 z hz)
    · rename_i hx
      refine List.pairwise_cons.2 ⟨fun z hz => ?_, insB_sorted x l h'.2⟩
      rcases List.mem_cons.1 ((insB_perm x l).mem_iff.1 hz) with rfl | hz
      · exact (List.le_total y z).resolve_right hx
      · exact h'.1 z hz
theorem isortB_sorted : ∀ l, (isortB l).Pairwise (· ≤ ·)
  | [] => List.Pairwise.nil
  | x :: l => insB_sorted x _ (isortB_sorted l)
theorem isortB_of_perm {l m : List (List UInt8)} (h : l.Perm m) : l.mergeSort (fun x y => decide (x ≤ y)) = isortB m := by
  have h1 := List.pairwise_mergeSort (le := fun x y : List UInt8 => decide (x ≤ y)) (fun a b c h1 h2 => by simp only [decide_eq_true_eq] at *; exact List.le_trans h1 h2) (fun a b => by simp only [Bool.or_eq_true, decide_eq_true_eq]; exact List.le_total a b) l
  refine List.Perm.eq_of_pairwise (le := (· ≤ ·)) (fun a b _ _ h1 h2 => List.le_antisymm h1 h2) (h1.imp (by simp)) (isortB_sorted m) (((List.mergeSort_perm l _).trans h).trans (isortB_perm m).symm)

def nameStep (last : Int) (S : List (List UInt8)) (e : S48) : List (List UInt8) :=
  if last < e.f0 then S
  else if e.f3 = 1 then (bs e.f4 :: S.filter (fun y => !decide (y = bs e.f4)))
  else if e.f3 = 2 then S.filter (fun y => !decide (y = bs e.f4)) else S
def nameSet (last : Int) (l : List S48) : List (List UInt8) := l.foldl (nameStep last) []
def smallKeys (l : List S48) : Bool := l.all (fun e => decide (e.f4.size ≤ maxLen))
def keys_Names.f (l0 : List (S48)) (a1 : Int) : Option (List ByteArray) :=
  if l0.length < 1099511627776 ∧ smallKeys l0 = true then some ((isortB (nameSet a1 l0)).map (fun x => ⟨x.toArray⟩)) else none

def NameRel (S : List (List UInt8)) (D : DataW Unit) : Prop := IsMap D ∧ S.Nodup ∧ ∀ x, x ∈ S ↔ has D (.string x) = true
theorem mem_cut (S : List (List UInt8)) (k x : List UInt8) : x ∈ S.filter (fun y => !decide (y = k)) ↔ x ∈ S ∧ x ≠ k := by
  simp [List.mem_filter]
theorem nameRel_put {S : List (List UInt8)} {D : DataW Unit} (h : NameRel S D) (k : List UInt8) (d : DataW Unit) : NameRel (k :: S.filter (fun y => !decide (y = k))) (D.put (.string k) d) := by
  obtain ⟨h1, h2, h3⟩ := h
  refine ⟨h1.put _ _, List.nodup_cons.2 ⟨by simp, h2.filter _⟩, fun x => ?_⟩
  rw [List.mem_cons, mem_cut]
  by_cases hx : x = k
  · subst hx
    simp [has_put_same h1 (show WideAt.IsKeyLit (.string x) from trivial) d]
  · rw [has_put_other (by simpa using hx), h3]
    simp [hx]
theorem nameRel_del {S : List (List UInt8)} {D : DataW Unit} (h : NameRel S D) (k : List UInt8) : NameRel (S.filter (fun y => !decide (y = k))) (D.del (.string k)) := by
  obtain ⟨h1, h2, h3⟩ := h
  refine ⟨h1.del _, h2.filter _, fun x => ?_⟩
  rw [mem_cut]
  by_cases hx : x = k
  · subst hx
    simp [has_del_same]
  · rw [has_del_other (by simpa using hx), h3]
    simp [hx]
theorem nameRel_perm {P : Program} {k : TypeId} {R : Value → Option (DataW Unit × List MemPlace)} {w : World} {b n : Nat} {S : List (List UInt8)} {D : DataW Unit} (hown : w.ownsMap P k R b n D) (K : Keyed P k) (hk : P.underlying k = some .string) (h : NameRel S D) : S.Perm (strKeys D) := by
  obtain ⟨es, hD, hpw, _⟩ := hown.entries K
  obtain ⟨es', hD', hko⟩ := hown.keysOf
  obtain rfl : es = es' := by rw [hD] at hD'; simpa using hD'
  subst hD
  exact perm_strKeys hpw (fun p hp => by obtain ⟨v, hv⟩ := hko p hp; obtain ⟨x, _, hx, _⟩ := Maps.keyOf_str hk hv; exact ⟨x, hx⟩) h.2.1 h.2.2

def RU : Value → Option (DataW Unit × List MemPlace) := fun _ => some (.agg [], [])

theorem R_of_ownsRow {w : World} {base n : Nat} {v : Value} {ss : List (List UInt8)} (h : w.ownsRow base 9 1 v n (ss.map encStr)) (hn : n = ss.length) : Kd.R Kd.string 9 w base (fun _ => True) v (ss.map (fun x => (⟨x.toArray⟩ : ByteArray))) := by
  refine Kd.R_of_own (enc := Value.string) (h1 := fun _ => rfl) ?_ (fun _ _ => trivial)
  rw [List.length_map, ← hn]
  have : encs Value.string (ss.map (fun x => (⟨x.toArray⟩ : ByteArray))) = ss.map encStr := by
    unfold encs
    rw [List.map_map]
    rfl
  rw [this]
  exact h

set_option maxRecDepth 100000 in
set_option maxHeartbeats 4000000 in
theorem keys_Names.calls (A0 : Option Addr) (c0 : Nat) (l0 : List (S48)) (a1 : Int) (r : List ByteArray) (w : World) (hr0 : Kd.C k48 w A0 l0.length l0) (hc0 : l0.length ≤ c0) (h : keys_Names.f l0 a1 = some r) :
    Calls Try.prog 27 #[.slice A0 l0.length c0, .int .i64 a1] w fun e w' => ∃ v0_ : Value, e = .returned (v0_) ∧ Kd.R Kd.string 9 w' w.heap.size (fun _ => True) v0_ r ∧ Below w.heap.size w w' := by
  unfold keys_Names.f at h
  split at h
  case isFalse => cases h
  rename_i hg
  obtain rfl := Option.some.inj h
  clear h
  have HL := Aside0.mk hg.1
  have HS := Aside0.mk hg.2
  clear hg
  have HR := Aside0.mk hr0
  have hC := hr0.2.1
  clear hr0
  have hmm := @run_makeMap Try.prog
  go_enter Try.func27, Try.ntmps27
  go_wp2
  go_loopw [11] (fun i wr => ∃ (k : Nat) (D : DataW Unit), k ≤ l0.length ∧ i = .int .i64 k ∧ Aside0 (NameRel (nameSet a1 (l0.take k)) D) ∧ Aside0 (wr.ownsMap Try.prog 9 RU w.heap.size k D) ∧ Aside0 (Below w.heap.size w wr)) (fun i _ => l0.length - (intOf i).toNat)
  case atStart =>
    exact ⟨0, .map [], Nat.zero_le _, rfl, ⟨by simp [nameSet, NameRel, isMap_empty, has_eq]⟩, ⟨World.ownsMap_made _ _ _ _⟩, ⟨(Below.refl _ _).alloc (Nat.le_refl _) _⟩⟩
  case round =>
    obtain ⟨k, D, hk, rfl, HN, HO, HB⟩ := hrel
    by_cases hlt : k < l0.length
    · obtain ⟨ad, A7, c7, e, hx0, hx1, hx2, hx3, hx4, hx5, hx6, hx7, _, _⟩ := at_T48 (Kd.C_below HR.out HB.out) (k : Int) (by omega) (by omega)
      cases e
      simp only [Int.toNat_natCast] at hx0 hx1 hx2 hx3 hx4 hx5 hx6 hx7
      have HT := Aside0.mk (show nameSet a1 (l0.take (k + 1)) = nameStep a1 (nameSet a1 (l0.take k)) (rd_T48 l0 k) by
        unfold nameSet
        rw [List.take_succ_eq_append_getElem hlt, List.foldl_append]
        simp [rd_T48, List.getD_eq_getElem?_getD, List.getElem?_eq_getElem hlt])
      have HK := Aside0.mk (show (rd_T48 l0 k).f4.size ≤ maxLen by
        have := List.all_eq_true.1 HS.out l0[k] (List.getElem_mem hlt)
        simpa [rd_T48, List.getD_eq_getElem?_getD, List.getElem?_eq_getElem hlt] using this)
      generalize rd_T48 l0 (k : Int) = y at *
      have hlt' : decide ((k : Int) < (l0.length : Int)) = true := decide_eq_true (by omega)
      have hkey : keyOf Try.prog 9 (.string y.f4) = some (.string (bs y.f4)) := keyOf_string_mk Try.underlying9 HK.out
      have arm : ∀ (X : List (List UInt8)), nameStep a1 (nameSet a1 (l0.take k)) y = X → nameSet a1 (l0.take (k + 1)) = X := fun X h => HT.out.trans h
      by_cases hb1 : a1 < y.f0
      · have hb1' : decide (a1 < y.f0) = true := decide_eq_true hb1
        go_wp2
        go_roundw
        case rel => exact ⟨k + 1, D, by omega, by go_num, ⟨by rw [arm _ rfl]; unfold nameStep; rw [if_pos hb1]; exact HN.out⟩, ⟨(HO.out.alloc _).mono (by omega)⟩, ⟨HB.out.alloc HB.out.size _⟩⟩
        case measure => simp [intOf]; omega
      · have hb1' : decide (a1 < y.f0) = false := decide_eq_false hb1
        by_cases hb2 : y.f3 = 1
        · have hb2' : decide (y.f3 = 1) = true := decide_eq_true hb2
          go_wp2_with (first
            | (at_mapUpdate; refine wpList_mapUpdate_own _ rfl _ _ _ 71 rfl 9 4 law9 Try.underlying71 RU w.heap.size k D rfl (HO.out.alloc _) (by have := HL.out; unfold maxLen; omega) _ _ _ rfl rfl hkey _ [] rfl ?_; intro w1 hown1 hgrow1; have HO1 := Aside0.mk hown1; have HG1 := Aside0.mk hgrow1; clear hown1 hgrow1)
            | go_in)
          go_roundw
          case rel => exact ⟨k + 1, _, by omega, by go_num, ⟨by rw [arm _ rfl]; unfold nameStep; rw [if_neg hb1, if_pos hb2]; exact nameRel_put HN.out _ _⟩, ⟨HO1.out⟩, ⟨(HB.out.alloc HB.out.size _).grown HG1.out (HB.out.alloc HB.out.size _).size (fun j hj => by cases hj; exact Nat.le_refl _)⟩⟩
          case measure => simp [intOf]; omega
        · have hb2' : decide (y.f3 = 1) = false := decide_eq_false hb2
          by_cases hb3 : y.f3 = 2
          · have hb3' : decide (y.f3 = 2) = true := decide_eq_true hb3
            go_wp2_with (first
              | (at_delete; refine wpList_delete_own _ rfl _ _ 71 9 rfl 4 law9 Try.underlying71 RU w.heap.size k D rfl (HO.out.alloc _) _ _ rfl hkey ?_; intro w1 hown1 hturn1; have HO1 := Aside0.mk hown1; have HG1 := Aside0.mk hturn1.grown; clear hown1 hturn1)
              | go_in)
            go_roundw
            case rel => exact ⟨k + 1, _, by omega, by go_num, ⟨by rw [arm _ rfl]; unfold nameStep; rw [if_neg hb1, if_neg hb2, if_pos hb3]; exact nameRel_del HN.out _⟩, ⟨HO1.out.mono (by omega)⟩, ⟨(HB.out.alloc HB.out.size _).grown HG1.out (HB.out.alloc HB.out.size _).size (fun j hj => by cases hj; exact Nat.le_refl _)⟩⟩
            case measure => simp [intOf]; omega
          · have hb3' : decide (y.f3 = 2) = false := decide_eq_false hb3
            go_wp2
            go_roundw
            case rel => exact ⟨k + 1, D, by omega, by go_num, ⟨by rw [arm _ rfl]; unfold nameStep; rw [if_neg hb1, if_neg hb2, if_neg hb3]; exact HN.out⟩, ⟨(HO.out.alloc _).mono (by omega)⟩, ⟨HB.out.alloc HB.out.size _⟩⟩
            case measure => simp [intOf]; omega
    · have hlt' : decide ((k : Int) < (l0.length : Int)) = false := decide_eq_false (by omega)
      have hkl : k = l0.length := by omega
      subst hkl
      rw [List.take_length] at HN
      have hmax : Maps.size D ≤ maxLen := by have := HO.out.size_le; have := HL.out; unfold maxLen; omega
      have hbytes : Maps.size D * 16 ≤ 140737488355328 := by have := HO.out.size_le; have := HL.out; omega
      have HM := Aside0.mk hmax
      have HY := Aside0.mk hbytes
      clear hmax hbytes
      go_wp2_with (first
        | (go_at_call 44; refine (keys44 _ _).mono ?_; rintro e w1 ⟨rfl, rfl⟩)
        | (go_at_call 43; refine (sorted43 _ _ _ _ _ HO.out HM.out HY.out).mono ?_; rintro e w1 ⟨v, ss, rfl, hS, hrow, hnil, hb⟩; have HP := Aside0.mk hS; have HW := Aside0.mk hrow; have HB1 := Aside0.mk hb; clear hS hrow hnil hb))
      go_ret
      refine ⟨_, rfl, ?_, HB.out.trans (HB1.out.mono HB.out.size)⟩
      have hq := HW.out
      rw [isortB_of_perm (HP.out.trans (nameRel_perm HO.out law9 Try.underlying9 HN.out).symm)] at hq
      exact R_of_ownsRow (ownsRow_base_a hq HB.out.size) (by rw [(isortB_perm _).length_eq]; exact (HP.out.trans (nameRel_perm HO.out law9 Try.underlying9 HN.out).symm).length_eq)

end Go.Proofs.Yteeeiaggkdlolaa.Ky
