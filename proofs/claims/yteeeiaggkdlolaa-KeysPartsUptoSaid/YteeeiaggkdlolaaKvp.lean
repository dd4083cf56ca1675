/- KeysParts is true of what the printed functions answer. -/
import Derived.Test.YteeeiaggkdlolaaKf11
import Derived.Test.YteeeiaggkdlolaaKvk
namespace Go.Proofs.Yteeeiaggkdlolaa.Ky
open Go.RowKit Go.Sort Go.Proofs.YteeeiaggkdlolaaW.PrintWords Go.Proofs.YteeeiaggkdlolaaW.PrintLast Go.Proofs.YteeeiaggkdlolaaW.PrintMore
set_option linter.unusedVariables false
set_option linter.unusedSimpArgs false

theorem fnd_congr {l l' : List S48} {key : List UInt8} {last last' : Int} : ∀ n, (∀ i : Nat, i < n → rd_T48 l i = rd_T48 l' i ∧ isW key last (rd_T48 l i) = isW key last' (rd_T48 l i)) → fnd l key last n = fnd l' key last' n
  | 0, _ => rfl
  | n + 1, h => by
    obtain ⟨h1, h2⟩ := h n (by omega)
    rw [fnd, fnd, fnd_congr n (fun i hi => h i (by omega)), h2, h1]
theorem rd_snoc_lt {m : List S48} {e : S48} {i : Nat} (h : i < m.length) : rd_T48 (m ++ [e]) i = rd_T48 m i := by
  rw [rd48_nat h, rd48_nat (by simp; omega), List.getElem_append_left h]
theorem rd_snoc_eq (m : List S48) (e : S48) : rd_T48 (m ++ [e]) (m.length : Nat) = e := by
  rw [rd48_nat (by simp)]; simp
theorem fnd_snoc (m : List S48) (e : S48) (key : List UInt8) (last : Int) : fnd (m ++ [e]) key last (m ++ [e]).length = if isW key last e = true then some e else fnd m key last m.length := by
  rw [List.length_append, List.length_singleton, fnd, rd_snoc_eq, fnd_congr (l := m ++ [e]) (l' := m) (last' := last) m.length (fun i hi => ⟨rd_snoc_lt hi, rfl⟩)]
def lastSeq (m : List S48) : Nat → Int → Int
  | 0, x => x
  | n + 1, _ => (rd_T48 m n).f0
theorem rising_le {m : List S48} (hr : risingB m = true) {L : Int} (hL : L = lastSeq m m.length 0) {e : S48} (he : e ∈ m) : e.f0 ≤ L := by
  obtain ⟨i, hi, rfl⟩ := List.mem_iff_getElem.1 he
  rw [← rd48_nat hi, hL]
  obtain ⟨n, hn⟩ : ∃ n, m.length = n + 1 := ⟨m.length - 1, by omega⟩
  rw [hn]
  show _ ≤ (rd_T48 m n).f0
  rcases Nat.lt_or_ge i n with h | h
  · have := rising_lt hr h (by omega); omega
  · obtain rfl : i = n := by omega
    exact Int.le_refl _
theorem parts_l0 (m : List S48) (hm : m.length ≤ 60) (x2 : ByteArray) (e0 e1 e2 e3 : Int) (e4 : ByteArray) (e5 e6 : Int) (e7 : List Int) (r : Bool) (K : Nat)
    (hend : ∀ k, K ≤ k → (if lastSeq m m.length 0 < 0 then (kpt.j1 k x2 m (lastSeq m m.length 0) true e0 e1 e2 e3 e4 e5 e6 e7) else (kpt.j1 k x2 m (lastSeq m m.length 0) (decide (lastSeq m m.length 0 > 1099511627776)) e0 e1 e2 e3 e4 e5 e6 e7)) = some r) :
    ∀ (d i k : Nat), i + d = m.length → K + d < k → kpt.l0 k x2 m (lastSeq m i 0) (i : Int) e0 e1 e2 e3 e4 e5 e6 e7 = some r
  | 0, i, k, hi, hk => by
    obtain ⟨k, rfl⟩ : ∃ n, k = n + 1 := ⟨k - 1, by omega⟩
    obtain rfl : i = m.length := by omega
    simp only [kpt.l0]
    rw [if_neg (by omega)]
    exact hend k (by omega)
  | d + 1, i, k, hi, hk => by
    obtain ⟨k, rfl⟩ : ∃ n, k = n + 1 := ⟨k - 1, by omega⟩
    simp only [kpt.l0]
    rw [if_pos (by omega), if_pos (by omega), wr (n := m.length) (by omega) (by omega)]
    exact parts_l0 m hm x2 e0 e1 e2 e3 e4 e5 e6 e7 r K hend d (i + 1) k (by omega) (by omega)
def small (e : S48) : Prop := e.f4.size ≤ 1048576 ∧ e.f7.length ≤ 1048576
theorem same_eq (a b : Option S48) (h : a = b) (hs : ∀ e, a = some e → small e) :
    deadeyeref07_Same.f (tup a).1 (tup a).2.1 (tup a).2.2.1 (tup a).2.2.2.1 (tup a).2.2.2.2.1 (tup a).2.2.2.2.2.1 (tup a).2.2.2.2.2.2.1 (tup a).2.2.2.2.2.2.2.1 (tup b).1 (tup b).2.1 (tup b).2.2.1 (tup b).2.2.2.1 (tup b).2.2.2.2.1 (tup b).2.2.2.2.2.1 (tup b).2.2.2.2.2.2.1 (tup b).2.2.2.2.2.2.2.1 = some true := by
  subst h; exact same_self a hs
theorem parts_j3 (m : List S48) (hm : m.length ≤ 60) (hr : risingB m = true) (hs : ∀ e ∈ m, small e) (x2 : ByteArray) (L : Int) (hL : L = lastSeq m m.length 0) (h0 : 0 ≤ L) (h1 : L ≤ 1099511627776) (e : S48) (he0 : e.f0 = L + 1) (he3 : e.f3 = 1 ∨ e.f3 = 2) (hse : small e) (k : Nat) (hk : 200 ≤ k) :
    kpt.j3 k x2 m L e.f0 e.f1 e.f2 e.f3 e.f4 e.f5 e.f6 e.f7 = some true := by
  obtain ⟨k, rfl⟩ : ∃ n, k = n + 2 := ⟨k - 2, by omega⟩
  have hw : wrap64 (L + 1) = L + 1 := by unfold wrap64; omega
  have hmore : ([] ++ m ++ [e] : List S48) = m ++ [e] := by simp
  have hlen : (m ++ [e]).length ≤ 61 := by simp; omega
  have hwe : ∀ key : ByteArray, isW (bs key) (L + 1) e = decide (bs e.f4 = bs key) := fun key => by unfold isW; by_cases h : bs e.f4 = bs key <;> simp [h, he3]; omega
  have hwl : ∀ key : ByteArray, isW (bs key) L e = false := fun key => by unfold isW; simp; intros; omega
  have hall : ∀ (key : ByteArray) (x : S48), x ∈ m → isW (bs key) (L + 1) x = isW (bs key) L x := fun key x hx => by
    have := rising_le hr hL hx
    unfold isW
    congr 1
    simp only [eq_iff_iff]
    constructor
    · rintro ⟨a, b, c⟩; exact ⟨a, by omega, c⟩
    · rintro ⟨a, b, c⟩; exact ⟨a, by omega, c⟩
  have hsm : ∀ key last, ∀ x, fnd m key last m.length = some x → small x := fun key last x hx => hs x (fnd_mem (Nat.le_refl _) hx)
  have F1 : fnd (m ++ [e]) (bs e.f4) (L + 1) (m ++ [e]).length = some e := by rw [fnd_snoc, hwe, if_pos (by simp)]
  have F2 : fnd (m ++ [e]) (bs x2) L (m ++ [e]).length = fnd m (bs x2) L m.length := by rw [fnd_snoc, hwl, if_neg (by decide)]
  have F3 : fnd (m ++ [e]) (bs x2) (L + 1) (m ++ [e]).length = if bs e.f4 = bs x2 then some e else fnd m (bs x2) L m.length := by
    rw [fnd_snoc, hwe, fnd_congr (l := m) (l' := m) (last := L + 1) (last' := L) m.length (fun i hi => ⟨rfl, hall x2 _ (by rw [rd48_nat hi]; exact List.getElem_mem _)⟩)]
    by_cases h : bs e.f4 = bs x2 <;> simp [h]
  simp only [kpt.j3, Option.bind_some]
  rw [if_pos (by simp; omega), if_pos (by simp; omega)]
  change (keys_Find.f (k + 1) (([] ++ m) ++ [e]) e.f4 (wrap64 (L + 1))).bind _ = _
  rw [hmore, hw, keysFind_eq (m ++ [e]) _ _ (k + 1) (by omega) (by omega), F1, Option.bind_some, keysFind_eq m _ _ (k + 1) (by omega) (by omega), Option.bind_some, keysFind_eq (m ++ [e]) _ _ (k + 1) (by omega) (by omega), F3, Option.bind_some, keysFind_eq (m ++ [e]) _ _ (k + 1) (by omega) (by omega), F2, Option.bind_some]
  have hS := same_eq (some e) (some e) rfl (fun x hx => by cases hx; exact hse)
  change deadeyeref07_Same.f _ _ _ _ _ _ _ _ e.f0 e.f1 e.f2 e.f3 e.f4 e.f5 e.f6 e.f7 = _ at hS
  have hY := hsm (bs x2) L
  generalize fnd m (bs x2) L m.length = Y at hY
  rw [if_pos (show (tup (some e)).2.2.2.2.2.2.2.2 = true from rfl), hS, Option.bind_some, if_pos rfl, if_neg (by simp)]
  have hx : (x2.toList = e.f4.toList) ↔ bs e.f4 = bs x2 := by rw [eq_key]; exact eq_comm
  have fin : ∀ Z : Option S48, Z = (if bs e.f4 = bs x2 then some e else Y) → kpt.j4 (k + 1) x2 (tup Y).2.2.2.2.2.2.2.2 (tup Z).2.2.2.2.2.2.2.2 false e.f0 e.f1 e.f2 e.f3 e.f4 e.f5 e.f6 e.f7 (tup Y).1 (tup Y).2.1 (tup Y).2.2.1 (tup Y).2.2.2.1 (tup Y).2.2.2.2.1 (tup Y).2.2.2.2.2.1 (tup Y).2.2.2.2.2.2.1 (tup Y).2.2.2.2.2.2.2.1 (tup Z).1 (tup Z).2.1 (tup Z).2.2.1 (tup Z).2.2.2.1 (tup Z).2.2.2.2.1 (tup Z).2.2.2.2.2.1 (tup Z).2.2.2.2.2.2.1 (tup Z).2.2.2.2.2.2.2.1 = some true := by
    intro Z hZ
    simp only [kpt.j4]
    rw [if_neg (by decide), awake_eq k (by omega), Option.bind_some, if_pos rfl]
    by_cases hk2 : bs e.f4 = bs x2
    · rw [if_pos (hx.2 hk2)]
    · rw [if_neg (fun h => hk2 (hx.1 h))]
      rw [if_neg hk2] at hZ
      subst hZ
      rw [if_pos (by simp)]
      cases Z with
      | none => rw [if_neg (by simp [tup])]
      | some y => rw [if_pos (by rfl), same_eq (some y) (some y) rfl (fun x hx => hY x hx), Option.bind_some]
  cases Y with
  | none => rw [if_neg (by simp [tup])]; exact fin _ rfl
  | some y => rw [if_pos (by rfl), same_eq (some y) (some y) rfl (fun x hx => hY x hx), Option.bind_some]; exact fin _ rfl
theorem KeysParts_true (l : List S48) (e : S48) (key : ByteArray) (hsz : (l.map sz48).sum ≤ 1048576) (hse : small e) : ∃ k, kpt.f k l e.f0 e.f1 e.f2 e.f3 e.f4 e.f5 e.f6 e.f7 key = some true := by
  have hl := len_sum l
  refine ⟨2 * l.length + 1000, ?_⟩
  obtain ⟨m, hm, hml, hmr, hms⟩ := rising_some l (by omega) (2 * l.length + 1000) (by omega)
  have hs : ∀ x ∈ m, small x := fun x hx => sz_mem hsz (hms.subset hx)
  unfold kpt.f
  rw [hm, Option.bind_some]
  refine parts_l0 m hml key e.f0 e.f1 e.f2 e.f3 e.f4 e.f5 e.f6 e.f7 true 400 (fun k hk => ?_) m.length 0 _ (by omega) (by omega)
  obtain ⟨k, rfl⟩ : ∃ n, k = n + 3 := ⟨k - 3, by omega⟩
  have hend : ∀ b, b = true → kpt.j1 (k + 3) key m (lastSeq m m.length 0) b e.f0 e.f1 e.f2 e.f3 e.f4 e.f5 e.f6 e.f7 = some true := by
    rintro b rfl
    simp only [kpt.j1]
    rw [if_pos (by trivial), awake_eq _ (by omega), Option.bind_some]
  split
  · exact hend _ rfl
  · rename_i h0
    by_cases h1 : lastSeq m m.length 0 > 1099511627776
    · exact hend _ (decide_eq_true h1)
    · rw [show decide (lastSeq m m.length 0 > 1099511627776) = false from decide_eq_false h1]
      have hw : wrap64 (lastSeq m m.length 0 + 1) = lastSeq m m.length 0 + 1 := by unfold wrap64; omega
      simp only [kpt.j1]
      rw [if_neg (by decide), hw]
      have go : ∀ op, (op = 1 ∨ op = 2) → kpt.j3 (k + 1) key m (lastSeq m m.length 0) (lastSeq m m.length 0 + 1) e.f1 e.f2 op e.f4 e.f5 e.f6 e.f7 = some true := fun op hop =>
        parts_j3 m hml hmr hs key (lastSeq m m.length 0) rfl (by omega) (by omega) ⟨lastSeq m m.length 0 + 1, e.f1, e.f2, op, e.f4, e.f5, e.f6, e.f7⟩ rfl hop hse (k + 1) (by omega)
      by_cases h3 : e.f3 = 1
      · rw [if_pos h3]
        simp only [kpt.j2]
        rw [if_neg (by decide)]
        exact go _ (.inl h3)
      · rw [if_neg h3]
        simp only [kpt.j2]
        by_cases h4 : e.f3 = 2
        · rw [if_neg (by simp [h4])]
          exact go _ (.inr h4)
        · rw [if_pos (by simp [h4])]
          exact go _ (.inl rfl)
end Go.Proofs.Yteeeiaggkdlolaa.Ky
