/- KeysLive is true of what the printed functions answer. -/
import Derived.Test.YteeeiaggkdlolaaKf9
import Derived.Test.YteeeiaggkdlolaaKlp
namespace Go.Proofs.Yteeeiaggkdlolaa.Ky
open Go.RowKit Go.Sort Go.Proofs.YteeeiaggkdlolaaW.PrintWords Go.Proofs.YteeeiaggkdlolaaW.PrintLast Go.Proofs.YteeeiaggkdlolaaW.PrintMore
set_option linter.unusedVariables false
theorem KeysLive_true (l : List S48) (last : Int) (hsz : (l.map sz48).sum ≤ 1048576) (hG : ∀ e ∈ l, (Lit.int .i64 e.f1).wf = true) : ∃ k, deadeyelaw10_KeysLive.f k l last = some true := by
  have hl := len_sum l
  refine ⟨2 * l.length + 1000, ?_⟩
  obtain ⟨m, hm, hml, hmr, hms⟩ := rising_some l (by omega) (2 * l.length + 1000) (by omega)
  unfold deadeyelaw10_KeysLive.f
  rw [hm, Option.bind_some, awake_eq _ (by omega), Option.bind_some, if_pos rfl]
  have h1 : keys_Live.f m last = some (liveList m last) := by unfold keys_Live.f; rw [if_pos ⟨by omega, okE_of hms hsz hG, hmr⟩]
  have h2 : deadeyeref10_Live.f m last = some (liveList m last) := by unfold deadeyeref10_Live.f; rw [if_pos (by omega), liveList_eq m last hmr]
  rw [h1, Option.bind_some, h2, Option.bind_some, sameAll_self _ ?_ ?_ _ ?_]
  · rfl
  · have := liveList_length m last; omega
  · intro e he
    obtain ⟨x, hx, rfl | rfl⟩ := liveList_mem he
    · exact sz_mem hsz (hms.subset hx)
    · exact ⟨Nat.zero_le _, Nat.zero_le _⟩
  · have := liveList_length m last; omega
end Go.Proofs.Yteeeiaggkdlolaa.Ky
