/- keys.values: what a map of entries holds, in whatever order: walked by hand. -/
import Derived.Test.YteeeiaggkdlolaaKyn
import Derived.Maps.RangeWalk
namespace Go.Proofs.Yteeeiaggkdlolaa.Ky
open Go.RowKit Go.Maps Go.Sort Go.Shelf Go.WideMaps Go.Proofs.YteeeiaggkdlolaaW.PrintWords Go.Proofs.YteeeiaggkdlolaaW.PrintLast Go.Proofs.YteeeiaggkdlolaaW.PrintMore
set_option linter.unusedVariables false
set_option linter.unusedSimpArgs false
set_option linter.unusedSectionVars false

/-- An entry's eight cells. -/
structure V8 where
  f0 : Int
  f1 : Int
  f2 : Int
  f3 : Int
  f4 : ByteArray
  f5 : Int
  f6 : Int
  A : Option Addr
  n : Nat
  c : Nat
instance : Inhabited V8 := ⟨⟨0, 0, 0, 0, ⟨#[]⟩, 0, 0, none, 0, 0⟩⟩
def enc8 (x : V8) : List Value := [.int .i64 x.f0, .int .i64 x.f1, .int .i64 x.f2, .int .i64 x.f3, .string x.f4, .int .i64 x.f5, .int .u32 x.f6, .slice x.A x.n x.c]
def mk8 (x : V8) : Value := .agg #[.int .i64 x.f0, .int .i64 x.f1, .int .i64 x.f2, .int .i64 x.f3, .string x.f4, .int .i64 x.f5, .int .u32 x.f6, .slice x.A x.n x.c]
theorem mk8_inj {x y : V8} (h : mk8 x = mk8 y) : x = y := by
  cases x; cases y
  simpa [mk8] using h
def kSl : Kd (Option Addr × Nat × Nat) := Kd.scalar (fun x : Option Addr × Nat × Nat => Value.slice x.1 x.2.1 x.2.2) (fun _ => rfl)
def k8 : Kd V8 := Kd.iso (Kd.pair (Kd.int .i64) (Kd.pair (Kd.int .i64) (Kd.pair (Kd.int .i64) (Kd.pair (Kd.int .i64) (Kd.pair Kd.string (Kd.pair (Kd.int .i64) (Kd.pair (Kd.int .u32) kSl))))))) (fun x : V8 => (x.f0, x.f1, x.f2, x.f3, x.f4, x.f5, x.f6, x.A, x.n, x.c))
theorem k8_mkM (w : World) (base : Nat) (ok : Nat → Prop) (x : V8) : k8.M w base ok x (enc8 x) := ⟨[.int .i64 x.f0], [.int .i64 x.f1, .int .i64 x.f2, .int .i64 x.f3, .string x.f4, .int .i64 x.f5, .int .u32 x.f6, .slice x.A x.n x.c], rfl, rfl, ⟨[.int .i64 x.f1], [.int .i64 x.f2, .int .i64 x.f3, .string x.f4, .int .i64 x.f5, .int .u32 x.f6, .slice x.A x.n x.c], rfl, rfl, ⟨[.int .i64 x.f2], [.int .i64 x.f3, .string x.f4, .int .i64 x.f5, .int .u32 x.f6, .slice x.A x.n x.c], rfl, rfl, ⟨[.int .i64 x.f3], [.string x.f4, .int .i64 x.f5, .int .u32 x.f6, .slice x.A x.n x.c], rfl, rfl, ⟨[.string x.f4], [.int .i64 x.f5, .int .u32 x.f6, .slice x.A x.n x.c], rfl, rfl, ⟨[.int .i64 x.f5], [.int .u32 x.f6, .slice x.A x.n x.c], rfl, rfl, ⟨[.int .u32 x.f6], [.slice x.A x.n x.c], rfl, rfl, rfl⟩⟩⟩⟩⟩⟩⟩
theorem k8_openM {w : World} {base : Nat} {ok : Nat → Prop} {x : V8} {cs : List Value} (h : k8.M w base ok x cs) : cs = enc8 x := by
  obtain ⟨_, _, rfl, rfl, ⟨_, _, rfl, rfl, ⟨_, _, rfl, rfl, ⟨_, _, rfl, rfl, ⟨_, _, rfl, rfl, ⟨_, _, rfl, rfl, ⟨_, _, rfl, rfl, h7⟩⟩⟩⟩⟩⟩⟩ := h
  cases h7
  rfl

open Classical in
noncomputable def R8 (v : Value) : Option (DataW V8 × List MemPlace) := if h : ∃ x, v = mk8 x then some (.held h.choose, []) else none
theorem R8_mk (x : V8) : R8 (mk8 x) = some (.held x, []) := by
  unfold R8
  have h : ∃ y, mk8 x = mk8 y := ⟨x, rfl⟩
  rw [dif_pos h, ← mk8_inj h.choose_spec]
theorem R8_inv {v : Value} {y : DataW V8 × List MemPlace} (h : R8 v = some y) : ∃ x, v = mk8 x ∧ y = (.held x, []) := by
  unfold R8 at h
  split at h
  · rename_i hx
    exact ⟨hx.choose, hx.choose_spec, (Option.some.inj h).symm⟩
  · cases h

/-- The keys met and what stood at them. -/
def Vals (D : DataW V8) (left : Lit → Bool) (ss : List (List UInt8)) (vs : List V8) : Prop := Collected D left ss ∧ ss.length = vs.length ∧ ∀ (i : Nat) (h1 : i < ss.length) (h2 : i < vs.length), ∀ z, D.atKey (.string ss[i]) z = .held vs[i]
theorem Vals.step {D : DataW V8} {left : Lit → Bool} {ss : List (List UInt8)} {vs : List V8} (h : Vals D left ss vs) {x : List UInt8} {y : V8} (hlk : left (.string x) = true) (hat : ∀ zd, D.atKey (.string x) zd = .held y) : Vals D (fun z => left z && !z.sameKey (.string x)) (ss ++ [x]) (vs ++ [y]) := by
  refine ⟨h.1.step hlk hat, by simp [h.2.1], fun i h1 h2 z => ?_⟩
  by_cases hi : i < ss.length
  · rw [List.getElem_append_left hi, List.getElem_append_left (by have := h.2.1; omega)]
    exact h.2.2 i hi _ z
  · have e1 : i = ss.length := by simp at h1; omega
    subst e1
    have e2 := h.2.1
    rw [List.getElem_append_right (by omega), List.getElem_append_right (by omega)]
    simpa [e2] using hat z

theorem law9' : Keyed Try.prog 9 := law9

set_option maxRecDepth 100000 in
set_option maxHeartbeats 4000000 in
theorem values46 (b nn : Nat) (D : DataW V8) (w : World) (hown : w.ownsMap Try.prog 9 R8 b nn D) (hn : nn < 1099511627776) :
    Calls Try.prog 46 #[.map (some b)] w fun e w' => ∃ (v : Value) (ss : List (List UInt8)) (vs : List V8), e = .returned v ∧ Vals D (fun _ => false) ss vs ∧ Kd.R k8 48 w' w.heap.size (fun _ => True) v vs ∧ Below w.heap.size w w' := by
  have HN := Aside0.mk hn
  clear hn
  have hbl := hown.lt
  go_enter Try.func46, Try.ntmps46
  go_wp2_with (first | (at_range; refine wpList_range_own _ rfl _ 77 rfl 9 48 law9 Try.underlying77 R8 b nn D rfl hown ?_; intro w0 hrg0 hg0 hs0) | go_in)
  go_frame
  have hbw : Below w.heap.size w w0 := ⟨hg0.os, hg0.tape, hg0.output, hg0.size, fun i hi => hg0.block i hi (by simp)⟩
  have hc0 : Maps.size D ≤ nn := hown.size_le
  go_loopw [3] (fun v wr => ∃ (left : Lit → Bool) (cnt : Nat) (ss : List (List UInt8)) (vs : List V8), wr.ranges Try.prog 9 R8 b w.heap.size nn D left cnt ∧ Aside0 (Vals D left ss vs) ∧ vs.length + cnt ≤ nn ∧ Aside0 (Kd.R k8 48 wr w.heap.size (fun k_ => w.heap.size < k_) v vs) ∧ Aside0 (Below w.heap.size w wr))
    (fun _ wr => wr.rangeLeft b w.heap.size)
  case atStart => exact ⟨_, _, [], [], hrg0, ⟨⟨Collected.start D, rfl, fun i h1 _ => by simp at h1⟩⟩, by simpa using hc0, ⟨Kd.R_nil _ _ _ _ _⟩, ⟨hbw⟩⟩
  case round =>
    obtain ⟨left, cnt, ss, vs, hrg, HV, hcn, HO, HB⟩ := hrel
    obtain ⟨Ao, co, ev⟩ := Kd.R_slice HO.out
    subst ev
    have HRG := Aside0.mk hrg
    go_wp2_with (first
      | (at_next; refine wpList_next_ranges (H := V8) _ rfl _ rfl 9 law9 R8 encStr mk8 (fun key kl hkey => by obtain ⟨x, hx, _⟩ := Maps.keyOf_str Try.underlying9 hkey; exact ⟨x, hx⟩) (fun v y hv => by obtain ⟨c, hc, _⟩ := R8_inv hv; exact ⟨c, hc⟩) b w.heap.size nn _ _ _ rfl HRG.out ?_ ?_)
      | go_in)
    · intro hz hl0
      go_wp2
      go_ret
      refine ⟨_, ss, vs, rfl, ?_, Kd.R_mono HO.out (fun _ _ => trivial), HB.out⟩
      have : left = fun _ => false := funext hl0
      rw [← this]
      exact HV.out
    · intro x c kl y1 y2 w1 cnt1 hkey hlk hR hat hrg1 hlt hg1 hs1 hen
      obtain ⟨c', ec, ey⟩ := R8_inv hR
      simp only [Prod.mk.injEq] at ey
      obtain ⟨rfl, rfl⟩ := ey
      obtain rfl := mk8_inj ec
      obtain ⟨x', ex, rfl, hx'⟩ := Maps.keyOf_str Try.underlying9 hkey
      obtain rfl := encStr_inj ex
      have HV1 := Aside0.mk (HV.out.step hlk hat)
      have hO1 : Kd.R k8 48 w1 w.heap.size (fun k_ => w.heap.size < k_) (.slice Ao vs.length co) vs := Kd.R_grown HO.out hg1 (fun k hk e => by cases e; omega)
      have hB1 : Below w.heap.size w w1 := HB.out.grown hg1 HB.out.size (fun j hj => by cases hj; exact Nat.le_refl _)
      have HO1 := Aside0.mk hO1
      have HB1 := Aside0.mk hB1
      have HRG1 := Aside0.mk hrg1
      clear hO1 hB1 hrg1 hg1 hs1 hlk hR hat hkey ex ec hx'
      unfold mk8 at hen ⊢
      have hwl : w.heap.size < w1.heap.size := HRG1.out.lt
      go_wp2_with (first
        | (at_builtin; refine Kd.R_append k8 (w0 := w) w.heap.size rfl (.tmp 12) (.tmp 14) 44 48 (.agg #[(.int .i64 0), (.int .i64 0), (.int .i64 0), (.int .i64 0), (.string ⟨#[]⟩), (.int .i64 0), (.int .u32 0), (.slice none 0 0)]) 88 rfl Try.underlying44 info48 rfl (by decide) (by omega) (.slice Ao vs.length co) vs c (enc8 c) (fun k_ => w.heap.size < k_) (fun k_ => w.heap.size < k_ ∧ some k_ ≠ (Value.slice Ao vs.length co).ownBlock) rfl ?hx_ (k8_mkM _ _ _ _) (fun _ hk => hk) ?af (Kd.R_alloc HO1.out _) (below_alloc HB1.out _) ?sz_ ?al ?_; (case hx_ => show Value.slice (some ⟨w1.heap.size + 1, 0, none⟩) 1 1 = _; simp); (case af => intro k hk; simp at hk; omega); (case sz_ => simp; omega); (case al => have := HN.out; omega); intro v1 w2 ho hb hg hat; have HO2 := Aside0.mk ho; have HB2 := Aside0.mk hb; have HRG2 := Aside0.mk ((HRG1.out.alloc _).kept hg (fun e => by have := HO1.out.1 b e.symm; omega) (fun e => by have := HO1.out.1 _ e.symm; omega)); clear ho hb hg hat)
        | go_in)
      go_roundw
      case rel => exact ⟨_, cnt1, ss ++ [x], vs ++ [c], HRG2.out, ⟨HV1.out⟩, by simp; omega, ⟨HO2.out⟩, ⟨HB2.out⟩⟩
      case measure => rw [HRG2.out.left_eq, hrg.left_eq]; exact hlt

end Go.Proofs.Yteeeiaggkdlolaa.Ky
