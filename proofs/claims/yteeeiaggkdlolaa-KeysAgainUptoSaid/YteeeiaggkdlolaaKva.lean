/- KeysAgain is true of what the printed functions answer. -/
import Derived.Test.YteeeiaggkdlolaaKf10
import Derived.Test.YteeeiaggkdlolaaKvg
namespace Go.Proofs.Yteeeiaggkdlolaa.Ky
open Go.RowKit Go.Sort Go.Proofs.YteeeiaggkdlolaaW.PrintWords Go.Proofs.YteeeiaggkdlolaaW.PrintLast Go.Proofs.YteeeiaggkdlolaaW.PrintMore
set_option linter.unusedVariables false
set_option linter.unusedSimpArgs false

def Guard (m : List S48) (last : Int) (n : Nat) : Prop := ∀ i, i < n → (∀ j, j < i → (rd_T48 m j).f1 = (rd_T48 m i).f1 → (rd_T48 m j).f2 < (rd_T48 m i).f2) ∧ (rd_T48 m i).f0 ≤ last
theorem again_l1 (m : List S48) (hm : m.length ≤ 60) (last : Int) (key : ByteArray) (c : Int) (i : Nat) (hi : i < m.length) (K : Nat) (hK : 20 ≤ K)
    (next : (∀ j, j < i → (rd_T48 m j).f1 = (rd_T48 m i).f1 → (rd_T48 m j).f2 < (rd_T48 m i).f2) → (rd_T48 m i).f0 ≤ last → ∀ k, K ≤ k → deadeyelaw10_KeysAgain.l0 k last key c m ((i + 1 : Nat) : Int) = some true) :
    ∀ (d j k : Nat), j + d = i → K + d + 1 < k → (∀ j', j' < j → (rd_T48 m j').f1 = (rd_T48 m i).f1 → (rd_T48 m j').f2 < (rd_T48 m i).f2) → deadeyelaw10_KeysAgain.l1 k last key c m (i : Int) (j : Int) = some true
  | 0, j, k, hj, hk, hg => by
    obtain ⟨k, rfl⟩ : ∃ n, k = n + 2 := ⟨k - 2, by omega⟩
    obtain rfl : j = i := by omega
    have stop : deadeyelaw10_KeysAgain.j2 (k + 1) last key c m (j : Int) true = some true := by
      simp only [deadeyelaw10_KeysAgain.j2]
      rw [if_pos (by trivial), awake_eq _ (by omega), Option.bind_some]
    simp only [deadeyelaw10_KeysAgain.l1]
    rw [if_neg (by omega), if_pos (by omega), if_pos (by omega)]
    by_cases c1 : (rd_T48 m (j : Int)).f2 < 1
    · rw [if_pos c1]; exact stop
    · rw [if_neg c1]
      by_cases c2 : (rd_T48 m (j : Int)).f0 > last
      · rw [if_pos c2]; exact stop
      · rw [if_neg c2]
        by_cases c3 : (rd_T48 m (j : Int)).f0 < 0
        · rw [if_pos c3]; exact stop
        · rw [if_neg c3]
          by_cases c4 : ((rd_T48 m (j : Int)).f3 == 0) = true
          · rw [c4]; exact stop
          · rw [show ((rd_T48 m (j : Int)).f3 == 0) = false by simpa using c4]
            simp only [deadeyelaw10_KeysAgain.j2]
            rw [if_neg (by decide), wr hi (by omega)]
            exact next hg (by omega) k (by omega)
  | d + 1, j, k, hj, hk, hg => by
    obtain ⟨k, rfl⟩ : ∃ n, k = n + 1 := ⟨k - 1, by omega⟩
    simp only [deadeyelaw10_KeysAgain.l1]
    rw [if_pos (by omega), if_pos (by omega), if_pos (by omega), if_pos (by omega), if_pos (by omega), wr (i := j) (n := i) (by omega) (by omega)]
    by_cases c1 : (rd_T48 m (j : Int)).f1 = (rd_T48 m (i : Int)).f1
    · rw [if_pos c1]
      by_cases c2 : (rd_T48 m (j : Int)).f2 ≥ (rd_T48 m (i : Int)).f2
      · rw [if_pos c2, awake_eq _ (by omega), Option.bind_some]
      · rw [if_neg c2]
        refine again_l1 m hm last key c i hi K hK next d (j + 1) k (by omega) (by omega) (fun j' hj' h' => ?_)
        rcases Nat.lt_or_ge j' j with q | q
        · exact hg j' q h'
        · obtain rfl : j' = j := by omega
          omega
    · rw [if_neg c1]
      refine again_l1 m hm last key c i hi K hK next d (j + 1) k (by omega) (by omega) (fun j' hj' h' => ?_)
      rcases Nat.lt_or_ge j' j with q | q
      · exact hg j' q h'
      · obtain rfl : j' = j := by omega
        exact absurd h' c1
theorem again_l0 (m : List S48) (hm : m.length ≤ 60) (last : Int) (key : ByteArray) (c : Int) (K : Nat) (hK : 20 ≤ K)
    (fin : Guard m last m.length → ∀ k, K ≤ k → deadeyelaw10_KeysAgain.l0 k last key c m (m.length : Int) = some true) :
    ∀ (d i k : Nat), i + d = m.length → K + 70 * d < k → Guard m last i → deadeyelaw10_KeysAgain.l0 k last key c m (i : Int) = some true
  | 0, i, k, hi, hk, hg => by
    obtain rfl : i = m.length := by omega
    exact fin hg k (by omega)
  | d + 1, i, k, hi, hk, hg => by
    obtain ⟨k, rfl⟩ : ∃ n, k = n + 1 := ⟨k - 1, by omega⟩
    simp only [deadeyelaw10_KeysAgain.l0]
    rw [if_pos (by omega)]
    have := again_l1 m hm last key c i (by omega) (K + 70 * d + 1) (by omega) (fun h1 h2 k' hk' => again_l0 m hm last key c K hK fin d (i + 1) k' (by omega) (by omega) (fun i' hi' => by
      rcases Nat.lt_or_ge i' i with q | q
      · exact hg i' q
      · obtain rfl : i' = i := by omega
        exact ⟨h1, h2⟩)) i 0 k (by omega) (by omega) (fun j' hj' => by omega)
    exact this
theorem small_live {m : List S48} (hs : ∀ e ∈ m, e.f4.size ≤ 1048576 ∧ e.f7.length ≤ 1048576) {last : Int} : ∀ e ∈ liveList m last, e.f4.size ≤ 1048576 ∧ e.f7.length ≤ 1048576 := by
  intro e he
  obtain ⟨x, hx, rfl | rfl⟩ := liveList_mem he
  · exact hs _ hx
  · exact ⟨Nat.zero_le _, Nat.zero_le _⟩
theorem smallK {m : List S48} (hs : ∀ e ∈ m, e.f4.size ≤ 1048576 ∧ e.f7.length ≤ 1048576) : smallKeys m = true :=
  List.all_eq_true.2 (fun e he => decide_eq_true (by have := (hs e he).1; unfold maxLen; omega))
theorem okE_live {m : List S48} (hs : ∀ e ∈ m, e.f4.size ≤ 1048576 ∧ e.f7.length ≤ 1048576) (hG : ∀ e ∈ m, (Lit.int .i64 e.f1).wf = true) : okE m = true := by
  refine List.all_eq_true.2 (fun e he => ?_)
  have := (hs e he).1
  rw [Bool.and_eq_true]
  exact ⟨decide_eq_true (by unfold maxLen; omega), hG e he⟩
theorem names_some {m : List S48} (hm : m.length ≤ 60) (hs : ∀ e ∈ m, e.f4.size ≤ 1048576 ∧ e.f7.length ≤ 1048576) (last : Int) : keys_Names.f m last = some ((isortB (nameSet last m)).map (fun x => ⟨x.toArray⟩)) := by
  unfold keys_Names.f; rw [if_pos ⟨by omega, smallK hs⟩]
theorem again_j3 (m : List S48) (hm : m.length ≤ 60) (hr : risingB m = true) (hs : ∀ e ∈ m, e.f4.size ≤ 1048576 ∧ e.f7.length ≤ 1048576) (hG : ∀ e ∈ m, (Lit.int .i64 e.f1).wf = true) (last : Int) (k : Nat) (hk : 200 ≤ k) :
    deadeyelaw10_KeysAgain.j3 k last m (liveList m last) false = some true := by
  obtain ⟨k, rfl⟩ : ∃ n, k = n + 1 := ⟨k - 1, by omega⟩
  have hlen := liveList_length m last
  have hGX : ∀ e ∈ liveList m last, (Lit.int .i64 e.f1).wf = true := by
    intro e he
    obtain ⟨x, hx, rfl | rfl⟩ := liveList_mem he
    · exact hG _ hx
    · show (Lit.int .i64 x.f1).wf = true
      exact hG x hx
  have hrX : risingB (liveList m last) = true := by rw [liveList_E hr]; exact live_rising hr last
  have h1 : keys_Live.f (liveList m last) last = some (liveList m last) := by
    unfold keys_Live.f
    rw [if_pos ⟨by omega, okE_live (small_live hs) hGX, hrX⟩, live_again hr]
  have hn1 := names_some (m := liveList m last) (by omega) (small_live hs) last
  have hn2 := names_some hm hs last
  rw [live_names hr] at hn1
  simp only [deadeyelaw10_KeysAgain.j3]
  rw [if_neg (by decide), awake_eq _ (by omega), Option.bind_some, if_pos rfl, h1, Option.bind_some, sameAll_self _ (by omega) (small_live hs) _ (by omega), Option.bind_some, if_pos rfl, hn1, Option.bind_some, hn2, Option.bind_some]
  have hl : ((isortB (nameSet last m)).map (fun x => (⟨x.toArray⟩ : ByteArray))).length ≤ 60 := by
    rw [List.length_map, (isortB_perm _).length_eq]
    have := nameSet_len last m
    omega
  rw [texts_eq _ _ rfl (by omega) _ (by omega)]
  rfl
theorem KeysAgain_true (l : List S48) (last : Int) (key : ByteArray) (client : Int) (hsz : (l.map sz48).sum ≤ 1048576) (hG0 : ∀ e ∈ l, (Lit.int .i64 e.f1).wf = true) : ∃ k, deadeyelaw10_KeysAgain.f k l last key client = some true := by
  have hl := len_sum l
  refine ⟨2 * l.length + 10000, ?_⟩
  obtain ⟨m, hm, hml, hr, hms⟩ := rising_some l (by omega) (2 * l.length + 10000) (by omega)
  have hs : ∀ x ∈ m, x.f4.size ≤ 1048576 ∧ x.f7.length ≤ 1048576 := fun x hx => sz_mem hsz (hms.subset hx)
  have hG : ∀ e ∈ m, (Lit.int .i64 e.f1).wf = true := fun e he => hG0 e (hms.subset he)
  unfold deadeyelaw10_KeysAgain.f
  rw [hm, Option.bind_some]
  refine again_l0 m hml last key client 500 (by omega) (fun hg k hk => ?_) m.length 0 _ (by omega) (by omega) (fun i hi => by omega)
  obtain ⟨k, rfl⟩ : ∃ n, k = n + 1 := ⟨k - 1, by omega⟩
  have hlen := liveList_length m last
  have hlast : ∀ e ∈ m, e.f0 ≤ last := by
    intro e he
    obtain ⟨i, hi, rfl⟩ := List.mem_iff_getElem.1 he
    rw [← rd48_nat hi]
    exact (hg i hi).2
  have hnum : ∀ e ∈ m, ∀ z ∈ m, e.f1 = z.f1 → e.f0 < z.f0 → e.f2 < z.f2 := by
    intro e he z hz h1 h0
    obtain ⟨i, hi, rfl⟩ := List.mem_iff_getElem.1 he
    obtain ⟨j, hj, rfl⟩ := List.mem_iff_getElem.1 hz
    rw [← rd48_nat hi, ← rd48_nat hj] at h1 h0 ⊢
    refine (hg j hj).1 i ?_ h1
    rcases Nat.lt_trichotomy i j with q | q | q
    · exact q
    · subst q; omega
    · have := rising_lt hr q hi; omega
  have h1 : keys_Live.f m last = some (liveList m last) := by unfold keys_Live.f; rw [if_pos ⟨by omega, okE_live hs hG, hr⟩]
  have hfX := live_find hr last (bs key)
  have hN := live_num hr last (wrap64 client) hlast hnum
  have hj := again_j3 m hml hr hs hG last k (by omega)
  simp only [deadeyelaw10_KeysAgain.l0]
  rw [if_neg (by omega), h1, Option.bind_some, keysFind_eq m key last k (by omega) (by omega), Option.bind_some, keysFind_eq (liveList m last) key last k (by omega) (by omega), Option.bind_some, num_eq m _ k (by omega) (by omega), Option.bind_some, num_eq (liveList m last) _ k (by omega) (by omega), Option.bind_some, hN]
  have hne : ((((liveList m last).foldl (numStep (wrap64 client)) (0, 0)).1 : Int) != ((liveList m last).foldl (numStep (wrap64 client)) (0, 0)).1) = false := by simp
  rw [hne]
  have hmem : ∀ e, fnd m (bs key) last m.length = some e → e.f4.size ≤ 1048576 ∧ e.f7.length ≤ 1048576 := fun e he => hs e (fnd_mem (Nat.le_refl _) he)
  generalize fnd (liveList m last) (bs key) last (liveList m last).length = Z at hfX
  cases hf : fnd m (bs key) last m.length with
  | none =>
    rw [hf] at hfX
    replace hfX : Z = none := hfX
    subst hfX
    rw [if_neg (show ¬ (tup none).2.2.2.2.2.2.2.2 = true from Bool.false_ne_true), if_neg (show ¬ ((tup none).2.2.2.2.2.2.2.2 != false) = true from Bool.false_ne_true), if_neg (show ¬ (tup none).2.2.2.2.2.2.2.2 = true from Bool.false_ne_true)]
    exact hj
  | some e =>
    rw [hf] at hfX
    replace hfX : Z = if e.f3 = 1 then some e else none := hfX
    by_cases h3 : e.f3 = 1
    · have hS := same_self (some e) (fun x hx => by cases hx; exact hmem e hf)
      rw [if_pos h3] at hfX
      subst hfX
      rw [if_pos (show (tup (some e)).2.2.2.2.2.2.2.2 = true from rfl), if_neg (by simp [tup, h3]), if_pos (show (tup (some e)).2.2.2.2.2.2.2.2 = true from rfl), hS, Option.bind_some, if_pos rfl]
      exact hj
    · rw [if_neg h3] at hfX
      subst hfX
      rw [if_pos (show (tup (some e)).2.2.2.2.2.2.2.2 = true from rfl), if_neg (by simp [tup, h3]), if_neg (by simp [tup])]
      exact hj
end Go.Proofs.Yteeeiaggkdlolaa.Ky
