/- deadeyeref07.One: an entry's bytes, walked by hand (its key is turned into bytes). -/
import Derived.Test.YteeeiaggkdlolaaKf55
import Derived.Test.YteeeiaggkdlolaaKf56
import Derived.Laws.IdiomStrings
namespace Go.Proofs.Yteeeiaggkdlolaa.Ky
open Go.RowKit Go.Proofs.YteeeiaggkdlolaaW.PrintWords Go.Proofs.YteeeiaggkdlolaaW.PrintLast Go.Proofs.YteeeiaggkdlolaaW.PrintMore
set_option linter.unusedVariables false
set_option linter.unusedSimpArgs false

def bytesOf (s : ByteArray) : List Int := s.data.toList.map (fun c => (c.toNat : Int))
theorem bytesOf_length (s : ByteArray) : (bytesOf s).length = s.size := by unfold bytesOf; rw [List.length_map, Array.length_toList]; rfl
/-- A new row of numbers, then whatever: it reads as them. -/
theorem C_row {k : IntKind} {w : World} {b : Nat} {T : TypeId} {m : Nat × Nat} {xs : List Int} {cs : Array Value} (h : w.heap[b]? = some (.cells cs T m)) (hl : xs.length ≤ 9223372036854775807) (hc : ∀ (j : Nat) (x : Int), xs[j]? = some x → cs[j]? = some (.int k x)) : (Kd.int k).C w (some ⟨b, 0, none⟩) xs.length xs := by
  refine ⟨rfl, hl, fun _ => ⟨⟨b, 0, none⟩, rfl, fun j p hj => ⟨[.int k p], rfl, rfl, fun i u hu => ?_⟩⟩⟩
  cases i with
  | succ i => cases hu
  | zero =>
    obtain rfl := Option.some.inj hu
    have e : ((⟨b, 0, none⟩ : Addr).add (j * 1 + 0)) = ⟨b, j, none⟩ := by rw [Nat.mul_one, Nat.add_zero]; unfold Addr.add; split <;> simp_all
    show w.cell? ((⟨b, 0, none⟩ : Addr).add (j * (Kd.int k).sz + 0)) = _
    rw [show (Kd.int k).sz = 1 from rfl, e]
    exact (cell_of_row w b j cs T m h).trans (hc j p hj)
theorem bytesRow_at (s : ByteArray) (cap : Nat) (j : Nat) (x : Int) (h : (bytesOf s)[j]? = some x) : (bytesRow s cap)[j]? = some (.int .u8 x) := by
  have hj : j < s.size := by rw [← bytesOf_length]; exact (List.getElem?_eq_some_iff.1 h).1
  have hj' : j < s.data.size := hj
  unfold bytesOf at h
  unfold bytesRow
  rw [Array.getElem?_append_left (by simpa using hj')]
  rw [List.getElem?_map, Array.getElem?_toList] at h
  rw [Array.getElem?_map]
  cases hx : s.data[j]? with
  | none => rw [hx] at h; cases h
  | some y => rw [hx] at h; simp at h; simp [h]

theorem C_bytes (W : World) (s : ByteArray) (cap : Nat) (m : Nat × Nat) (hl : s.size ≤ 1048576) : (Kd.int .u8).C (W.alloc (.cells (bytesRow s cap) 5 m)) (some ⟨W.heap.size, 0, none⟩) s.size (bytesOf s) := by
  have h := C_row (k := .u8) (xs := bytesOf s) (blk_new W (.cells (bytesRow s cap) 5 m)) (by rw [bytesOf_length]; omega) (fun j x h => bytesRow_at _ _ j x h)
  rw [bytesOf_length] at h
  exact h

def deadeyeref07_One.f (a0_0 : Int) (a0_1 : Int) (a0_2 : Int) (a0_3 : Int) (a0_4 : ByteArray) (a0_5 : Int) (a0_6 : Int) (l0_7 : List Int) : Option (List Int) :=
  (deadeyeref07_nums.f 20 [a0_0, a0_1, a0_2, a0_3, a0_5, wrap64 a0_6]).bind fun t => (deadeyeref04_Text.f 20 (bytesOf a0_4)).bind fun u => if a0_4.size ≤ 1048576 ∧ t.length + u.length < 140737488355328 then
    (deadeyeref04_Text.f 20 l0_7).bind fun v => if (t ++ u).length + v.length < 140737488355328 then some (t ++ u ++ v) else none else none

theorem blk_snd (W : World) (E K : Obj) : ((W.alloc E).alloc K).heap[W.heap.size + 1]? = some K := by simpa using blk_new (W.alloc E) K
theorem six_at (a b c d e f : Int) : ∀ (j : Nat) (x : Int), [a, b, c, d, e, f][j]? = some x → (#[.int .i64 a, .int .i64 b, .int .i64 c, .int .i64 d, .int .i64 e, .int .i64 f] : Array Value)[j]? = some (.int .i64 x)
  | 0, _, h => by cases h; rfl
  | 1, _, h => by cases h; rfl
  | 2, _, h => by cases h; rfl
  | 3, _, h => by cases h; rfl
  | 4, _, h => by cases h; rfl
  | 5, _, h => by cases h; rfl
  | j + 6, _, h => by cases h
theorem text_any (A : Option Addr) (n c : Nat) (l r : List Int) (w : World) (hn : l.length = n) (hr : Kd.C (Kd.int .u8) w A n l) (hc : n ≤ c) (h : deadeyeref04_Text.f 20 l = some r) :
    Calls Try.prog 56 #[.slice A n c] w fun e w' => ∃ v0_ : Value, e = .returned (v0_) ∧ Kd.R (Kd.int .u8) 5 w' w.heap.size (fun _ => True) v0_ r ∧ Below w.heap.size w w' := by
  subst hn; exact deadeyeref04_Text.calls 20 A c l r w hr hc h
theorem nums_any (A : Option Addr) (n c : Nat) (l r : List Int) (w : World) (hn : l.length = n) (hr : Kd.C (Kd.int .i64) w A n l) (hc : n ≤ c) (h : deadeyeref07_nums.f 20 l = some r) :
    Calls Try.prog 55 #[.slice A n c] w fun e w' => ∃ v0_ : Value, e = .returned (v0_) ∧ Kd.R (Kd.int .u8) 5 w' w.heap.size (fun _ => True) v0_ r ∧ Below w.heap.size w w' := by
  subst hn; exact deadeyeref07_nums.calls 20 A c l r w hr hc h

set_option maxRecDepth 100000 in
set_option maxHeartbeats 4000000 in
theorem deadeyeref07_One.calls (a0_0 : Int) (a0_1 : Int) (a0_2 : Int) (a0_3 : Int) (a0_4 : ByteArray) (a0_5 : Int) (a0_6 : Int) (A0_7 : Option Addr) (c0_7 : Nat) (l0_7 : List Int) (r : List Int) (w : World) (hr0_7 : Kd.C (Kd.int .u8) w A0_7 l0_7.length l0_7) (hc0_7 : l0_7.length ≤ c0_7) (h : deadeyeref07_One.f a0_0 a0_1 a0_2 a0_3 a0_4 a0_5 a0_6 l0_7 = some r) :
    Calls Try.prog 42 #[.agg #[.int .i64 a0_0, .int .i64 a0_1, .int .i64 a0_2, .int .i64 a0_3, .string a0_4, .int .i64 a0_5, .int .u32 a0_6, .slice A0_7 l0_7.length c0_7]] w fun e w' => ∃ v0_ : Value, e = .returned (v0_) ∧ Kd.R (Kd.int .u8) 5 w' w.heap.size (fun _ => True) v0_ r ∧ Below w.heap.size w w' := by
  unfold deadeyeref07_One.f at h
  simp only [Option.bind_eq_some_iff] at h
  obtain ⟨t, ht, u, hu, h⟩ := h
  split at h
  case isFalse => cases h
  rename_i hg
  simp only [Option.bind_eq_some_iff] at h
  obtain ⟨v, hv, h⟩ := h
  split at h
  case isFalse => cases h
  rename_i hg2
  obtain rfl := Option.some.inj h
  clear h
  obtain ⟨y, hy⟩ : ∃ y, y = t ++ u := ⟨_, rfl⟩
  rw [← hy] at hg2 ⊢
  obtain ⟨z, hz⟩ : ∃ z, z = y ++ v := ⟨_, rfl⟩
  rw [← hz]
  have HZ := Aside0.mk hz
  clear hz
  have HY := Aside0.mk hy
  clear hy
  have HT := Aside0.mk ht
  have HU := Aside0.mk hu
  have HV := Aside0.mk hv
  have HG := Aside0.mk hg
  have HG2 := Aside0.mk hg2
  have HR7 := Aside0.mk hr0_7
  have HC7 := Aside0.mk hc0_7
  clear ht hu hv hg hg2 hr0_7 hc0_7
  have hcv := fun (W : World) => run_bytes_of_string (P := Try.prog) W 9 46 5 a0_4 Try.underlying9 Try.underlying46 Try.underlying5
  obtain ⟨S, hS⟩ : ∃ S : Obj, S = .cells #[.int .i64 a0_0, .int .i64 a0_1, .int .i64 a0_2, .int .i64 a0_3, .string a0_4, .int .i64 a0_5, .int .u32 a0_6, .slice A0_7 l0_7.length c0_7] 48 (0, 0) := ⟨_, rfl⟩
  have HS := Aside0.mk hS
  clear hS
  go_enter Try.func42, Try.ntmps42
  go_wp2_with (first
    | (go_at_call 55; (with_reducible refine (nums_any _ 6 6 [a0_0, a0_1, a0_2, a0_3, a0_5, wrap64 a0_6] t _ rfl ?c1 (Nat.le_refl _) HT.out).mono ?_); (case c1 => exact C_row (blk_snd _ _ _) (by simp) (six_at _ _ _ _ _ _)); rintro e w1 ⟨v1, rfl, ho, hb⟩; obtain ⟨A1, c1, rfl⟩ := Kd.R_slice ho; have HN1 := Aside0.mk (show ∀ k, (Value.slice A1 t.length c1).ownBlock = some k → w.heap.size < k from fun k hk => by have h_ := Kd.R_base ho k hk; simp at h_; omega); have HB1 := Aside0.mk (below_step (below_alloc (below_alloc (Below.refl _ _) _) _) hb); have HO1 := Aside0.mk (Kd.R_lower ho (show w.heap.size ≤ _ by first | (simp; done) | (simp; omega))); have HBK1 : Aside0 (w1.heap[w.heap.size]? = some S) := ⟨by rw [HS.out]; exact blk_below (blk_alloc (blk_new w _) _) hb⟩; have hx4 : w1.cell? ⟨w.heap.size, 4, none⟩ = some (.string a0_4) := (by have h_ := HBK1.out; rw [HS.out] at h_; exact (blk_cell h_ 4).trans rfl); clear ho hb)
    | (go_at_call 56; have tok_ := HBK1; (with_reducible refine (text_any _ _ _ (bytesOf a0_4) u _ (bytesOf_length _) ?c2 (grownCap_ge _ _ _ _) HU.out).mono ?_); (case c2 => first | exact C_bytes _ _ _ _ HG.out.1 | exact C_bytes w1.drew _ _ _ HG.out.1); rintro e w2 ⟨v2, rfl, ho, hb⟩; obtain ⟨A2, c2, rfl⟩ := Kd.R_slice ho; have HO2A := Aside0.mk (Kd.R_elder' (by (with_reducible repeat (first | apply Kd.R_alloc | apply Kd.R_drewN | apply Kd.R_drew)); exact HO1.out) (Kd.R_base ho) hb); have HO2 := Aside0.mk (Kd.R_lower (Kd.R_new' ho (Kd.R_lt (by (with_reducible repeat (first | apply Kd.R_alloc | apply Kd.R_drewN | apply Kd.R_drew)); exact HO1.out))) (show w.heap.size ≤ _ from below_size (by repeat (first | (with_reducible first | exact HB1.out | apply below_alloc | apply pw_below_drewN | apply below_drew1) | exact HB1.out)))); have HB2 := Aside0.mk (below_step (by repeat (first | (with_reducible first | exact HB1.out | apply below_alloc | apply pw_below_drewN | apply below_drew1) | exact HB1.out)) hb); have HD_ : Below w1.heap.size w1 w2 := below_step (by repeat (first | exact Below.refl _ _ | apply below_alloc | apply pw_below_drewN | apply below_drew1)) hb; have HBK2 : Aside0 (w2.heap[w.heap.size]? = some S) := ⟨blk_below HBK1.out HD_⟩; clear ho hb tok_ HBK1 HD_)
    | ((with_reducible refine gate_builtin (b := .append) (xs := #[.tmp 19, .tmp 23]) rfl ?_); at_builtin; refine Kd.R_append_rows (Kd.int .u8) (w0 := w) w.heap.size rfl (.tmp 19) (.tmp 23) 46 5 (.int .u8 0) 1 rfl Try.underlying46 info5 rfl (by decide) (by omega) (.slice A1 t.length c1) t u _ _ _ (fun k_ => some k_ ≠ (.slice A2 u.length c2 : Value).ownBlock) (fun _ => False) rfl rfl ?aO ?aR (fun _ _ h => h) (fun _ h => h.elim) ?aF ?aB ?aS ?aL ?_; (case aR => exact (Kd.R_reads' HO2.out).2.2); (case aB => exact HB2.out); (case aF => exact (fun k_ hk => Kd.fresh' (Kd.R_lt HO2.out) k_ hk)); (case aO => exact Kd.R_mono HO2A.out (fun _ hk => hk.2)); (case aS => exact HB2.out.size); (case aL => have h1_ := HG.out.2; omega); intro v3 w3 ho hb hg hat; rw [← HY.out] at ho; obtain ⟨Av3, cv3, rfl⟩ := Kd.R_slice ho; have HO3 := Aside0.mk ho; have HB3 := Aside0.mk hb; have HBK3 : Aside0 (w3.heap[w.heap.size]? = some S) := ⟨blk_grown HBK2.out hg (fun e => by have := HN1.out _ e.symm; omega)⟩; have hx7 : w3.cell? ⟨w.heap.size, 7, none⟩ = some (.slice A0_7 l0_7.length c0_7) := (by have h_ := HBK3.out; rw [HS.out] at h_; exact (blk_cell h_ 7).trans rfl); clear hx4 HBK2; clear ho hb hg hat)
    | (go_at_call 56; have tok_ := HBK3; (with_reducible refine (text_any _ _ _ l0_7 v _ rfl ?c2 HC7.out HV.out).mono ?_); (case c2 => exact Kd.C_below HR7.out (by repeat (first | (with_reducible first | exact HB3.out | apply below_alloc | apply pw_below_drewN | apply below_drew1) | exact HB3.out))); rintro e w4 ⟨v4, rfl, ho, hb⟩; obtain ⟨A4, c4, rfl⟩ := Kd.R_slice ho; have HO4A := Aside0.mk (Kd.R_elder' (by (with_reducible repeat (first | apply Kd.R_alloc | apply Kd.R_drewN | apply Kd.R_drew)); exact HO3.out) (Kd.R_base ho) hb); have HO4 := Aside0.mk (Kd.R_lower (Kd.R_new' ho (Kd.R_lt (by (with_reducible repeat (first | apply Kd.R_alloc | apply Kd.R_drewN | apply Kd.R_drew)); exact HO3.out))) (show w.heap.size ≤ _ from below_size (by repeat (first | (with_reducible first | exact HB3.out | apply below_alloc | apply pw_below_drewN | apply below_drew1) | exact HB3.out)))); have HB4 := Aside0.mk (below_step (by repeat (first | (with_reducible first | exact HB3.out | apply below_alloc | apply pw_below_drewN | apply below_drew1) | exact HB3.out)) hb); have HD_ : Below w3.heap.size w3 w4 := below_step (by repeat (first | exact Below.refl _ _ | apply below_alloc | apply pw_below_drewN | apply below_drew1)) hb; have HBK4 : Aside0 (w4.heap[w.heap.size]? = some S) := ⟨blk_below HBK3.out HD_⟩; clear ho hb tok_ HBK3 HD_)
    | ((with_reducible refine gate_builtin (b := .append) (xs := #[.tmp 25, .tmp 28]) rfl ?_); at_builtin; refine Kd.R_append_rows (Kd.int .u8) (w0 := w) w.heap.size rfl (.tmp 25) (.tmp 28) 46 5 (.int .u8 0) 1 rfl Try.underlying46 info5 rfl (by decide) (by omega) (.slice Av3 y.length cv3) y v _ _ _ (fun k_ => some k_ ≠ (.slice A4 v.length c4 : Value).ownBlock) (fun _ => False) rfl rfl ?aO ?aR (fun _ _ h => h) (fun _ h => h.elim) ?aF ?aB ?aS ?aL ?_; (case aR => exact (Kd.R_reads' HO4.out).2.2); (case aB => exact HB4.out); (case aF => exact (fun k_ hk => Kd.fresh' (Kd.R_lt HO4.out) k_ hk)); (case aO => exact Kd.R_mono HO4A.out (fun _ hk => hk.2)); (case aS => exact HB4.out.size); (case aL => have h1_ := HG2.out; omega); intro v5 w5 ho hb hg hat; rw [← HZ.out] at ho; obtain ⟨Av5, cv5, rfl⟩ := Kd.R_slice ho; have HO5 := Aside0.mk ho; have HB5 := Aside0.mk hb; clear ho hb hg hat))
  go_ret
  exact ⟨_, rfl, Kd.R_mono HO5.out (fun _ _ => trivial), HB5.out⟩

end Go.Proofs.Yteeeiaggkdlolaa.Ky
