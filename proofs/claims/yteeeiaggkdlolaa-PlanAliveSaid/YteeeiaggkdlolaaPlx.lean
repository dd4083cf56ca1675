/- plan.Members in plain Lean. -/
import Derived.Test.YteeeiaggkdlolaaPla
namespace Go.Proofs.Yteeeiaggkdlolaa.Pl
open Go.RowKit Go.Proofs.YteeeiaggkdlolaaW.PrintWords Go.Proofs.YteeeiaggkdlolaaW.PrintLast Go.Proofs.YteeeiaggkdlolaaW.PrintMore

def add (o : List Int) (x : Int) : List Int := if o.contains x then o else o ++ [x]
def out0 (m : List S26) (c alive : List Int) : List Int := ((srcs m c 0).map (·.f0)).filter alive.contains
def allOf (m : List S26) (c alive : List Int) : List Int := (isort alive).foldl add (out0 m c alive)
def fin (n : Int) (out : List Int) : List Int × Bool := if n < 0 then ([], false) else if (out.length : Int) < n then ([], false) else (out.take n.toNat, true)
theorem isort_length (l : List Int) : (isort l).length = l.length := (isort_perm l).length_eq
theorem add_length (o : List Int) (x : Int) : (add o x).length ≤ o.length + 1 := by unfold add; split <;> simp
theorem foldl_length : ∀ (r o : List Int), (r.foldl add o).length ≤ o.length + r.length
  | [], o => by simp
  | x :: r, o => by
    have h1 := foldl_length r (add o x)
    have h2 := add_length o x
    simp only [List.foldl_cons, List.length_cons]; omega

theorem mem_l1 (n : Int) (r : List Int) (hr : r.length ≤ 40) : ∀ (d i k : Nat) (acc : List Int), i + d = r.length → d + 200 < k → acc.length ≤ 40 + i → plan_Members.l1 k n acc r (r.length : Int) i = some (fin n ((r.drop i).foldl add acc))
  | 0, i, k, acc, hi, hk, ha => by
    obtain ⟨k, rfl, _⟩ := succ_of hk
    simp only [plan_Members.l1]
    rw [if_neg (by omega), List.drop_of_length_le (by omega)]
    simp only [List.foldl_nil, fin]
    by_cases h1 : n < 0
    · rw [if_pos h1, if_pos h1]
    · rw [if_neg h1, if_neg h1]
      by_cases h2 : (acc.length : Int) < n
      · simp only [h2, if_true]
      · simp only [h2, if_false]
        rw [if_pos (by omega), if_pos (by omega)]
  | d + 1, i, k, acc, hi, hk, ha => by
    obtain ⟨k, rfl, hk⟩ := succ_of hk
    have hlt : i < r.length := by omega
    simp only [plan_Members.l1]
    rw [if_pos (by omega), if_pos (by omega), if_pos (by omega), rd_nat hlt, wr hlt (by omega), contains_eq acc r[i] k (by omega) (by omega), Option.bind_some, List.drop_eq_getElem_cons hlt, List.foldl_cons]
    unfold add
    by_cases h : acc.contains r[i] = true
    · rw [if_pos h, if_pos h, mem_l1 n r hr d (i + 1) k acc (by omega) (by omega) (by omega)]; rfl
    · rw [if_neg h, if_neg h, if_pos (by omega), mem_l1 n r hr d (i + 1) k _ (by omega) (by omega) (by simp; omega)]; rfl
theorem mem_l0 (n : Int) (alive : List Int) (s : List S35) (hs : s.length ≤ 40) (ha : alive.length ≤ 40) : ∀ (d i k : Nat) (acc : List Int), i + d = s.length → d + 300 < k → acc.length ≤ i →
    plan_Members.l0 k n alive acc s (s.length : Int) i = some (fin n ((isort alive).foldl add (acc ++ ((s.drop i).map (·.f0)).filter alive.contains)))
  | 0, i, k, acc, hi, hk, hc => by
    obtain ⟨k, rfl, _⟩ := succ_of hk
    simp only [plan_Members.l0]
    rw [if_neg (by omega), List.drop_of_length_le (by omega)]
    unfold slices_Clone_int_int.f
    rw [if_pos (by omega), Option.bind_some]
    unfold slices_Sort_int_int.f
    rw [if_pos (by omega), Option.bind_some]
    have := mem_l1 n (isort alive) (by rw [isort_length]; exact ha) (isort alive).length 0 k acc (by omega) (by rw [isort_length]; omega) (by omega)
    rw [isort_length, show ((0 : Nat) : Int) = 0 from rfl] at this
    rw [this]; simp
  | d + 1, i, k, acc, hi, hk, hc => by
    obtain ⟨k, rfl, hk⟩ := succ_of hk
    have hlt : i < s.length := by omega
    simp only [plan_Members.l0]
    rw [if_pos (by omega), if_pos (by omega), if_pos (by omega), rd35_nat hlt, wr hlt (by omega), contains_eq alive s[i].f0 k (by omega) (by omega), Option.bind_some, List.drop_eq_getElem_cons hlt, List.map_cons, List.filter_cons]
    by_cases h : alive.contains s[i].f0 = true
    · rw [if_pos h, if_pos h, if_pos (by omega), mem_l0 n alive s hs ha d (i + 1) k _ (by omega) (by omega) (by simp; omega), List.append_assoc]; rfl
    · rw [if_neg h, if_neg h, mem_l0 n alive s hs ha d (i + 1) k acc (by omega) (by omega) (by omega)]
theorem members_eq (a : Int) (c : List Int) (n : Int) (m : List S26) (alive : List Int) (k : Nat) (hc : c.length ≤ 40) (ha : alive.length ≤ 40) (hk : 400 ≤ k) : plan_Members.f k a c n m alive = some (fin n (allOf m c alive)) := by
  unfold plan_Members.f
  have hs := srcs_length m c 0
  rw [sources_eq a m c k hc (by omega), Option.bind_some]
  have := mem_l0 n alive (srcs m c 0) (by omega) ha (srcs m c 0).length 0 k [] (by omega) (by omega) (by simp)
  rw [show ((0 : Nat) : Int) = 0 from rfl] at this
  rw [this]; simp [allOf, out0]

theorem srcs_map (m : List S26) : ∀ (l : List Int) (i : Nat), (srcs m l i).map (·.f0) = l.filter (isTold m)
  | [], _ => rfl
  | x :: l, i => by
    unfold srcs
    rw [List.filter_cons]
    by_cases h : isTold m x = true
    · rw [if_pos h, if_pos h, List.map_cons, srcs_map m l (i + 1)]
    · rw [if_neg h, if_neg h, srcs_map m l (i + 1)]
theorem out0_filter (m : List S26) (c alive : List Int) : out0 m c alive = c.filter fun x => isTold m x && alive.contains x := by
  unfold out0
  rw [srcs_map, List.filter_filter]
  congr 1
  funext x
  rw [Bool.and_comm]
theorem ints_scan (a : List Int) (hn : a.length ≤ 9223372036854775807) : ∀ (d i k : Nat), i + d = a.length → d < k → deadeyeref07_Ints.l0 k a a i = some true
  | 0, i, k, hi, hk => by
    obtain ⟨k, rfl, _⟩ := succ_of hk
    simp only [deadeyeref07_Ints.l0]
    rw [if_neg (by omega)]
  | d + 1, i, k, hi, hk => by
    obtain ⟨k, rfl, hk⟩ := succ_of hk
    have hlt : i < a.length := by omega
    simp only [deadeyeref07_Ints.l0]
    rw [if_pos (by omega), if_pos (by omega), if_pos (by omega), if_pos trivial, wr hlt hn, ints_scan a hn d (i + 1) k (by omega) (by omega)]
theorem ints_same (a : List Int) (k : Nat) (hn : a.length ≤ 9223372036854775807) (hk : a.length < k) : deadeyeref07_Ints.f k a a = some true := by
  unfold deadeyeref07_Ints.f
  rw [if_pos rfl]
  have := ints_scan a hn a.length 0 k (by omega) hk
  simpa using this
/-- Behind the first ones come others, of r; unlike ones stay unlike. -/
theorem foldl_add : ∀ (r o : List Int), ∃ e, r.foldl add o = o ++ e ∧ (∀ x ∈ e, x ∈ r) ∧ (o.Nodup → (o ++ e).Nodup)
  | [], o => ⟨[], by simp, by simp, by simp⟩
  | x :: r, o => by
    obtain ⟨e, h1, h2, h3⟩ := foldl_add r (add o x)
    rw [List.foldl_cons, h1]
    unfold add at h3 ⊢
    by_cases h : o.contains x = true
    · rw [if_pos h] at h3 ⊢
      exact ⟨e, rfl, fun y hy => List.mem_cons_of_mem _ (h2 y hy), h3⟩
    · rw [if_neg h] at h3 ⊢
      refine ⟨x :: e, by simp, fun y hy => ?_, fun hn => ?_⟩
      · rcases List.mem_cons.1 hy with rfl | hy
        · exact List.mem_cons_self
        · exact List.mem_cons_of_mem _ (h2 y hy)
      · have hx : x ∉ o := by simpa using h
        have := h3 (by
          rw [List.nodup_append]
          exact ⟨hn, by simp, fun a ha b hb => by rw [List.mem_singleton.1 hb]; rintro rfl; exact hx ha⟩)
        simpa using this
end Go.Proofs.Yteeeiaggkdlolaa.Pl
