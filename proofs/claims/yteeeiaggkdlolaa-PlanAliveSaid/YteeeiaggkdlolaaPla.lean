/- Plan: the fixed fact is true. -/
import Derived.Test.YteeeiaggkdlolaaPlu
import Derived.Test.YteeeiaggkdlolaaPl3
namespace Go.Proofs.Yteeeiaggkdlolaa.Pl
open Go.RowKit Go.Proofs.YteeeiaggkdlolaaW.PrintWords Go.Proofs.YteeeiaggkdlolaaW.PrintLast Go.Proofs.YteeeiaggkdlolaaW.PrintMore
set_option linter.unusedVariables false
set_option linter.unusedSimpArgs false

theorem awake20 : deadeyelaw17_awake.f 20 = some true := by decide +kernel
theorem awake_eq (k : Nat) (h : 20 ≤ k) : deadeyelaw17_awake.f k = some true := at_rounds (g := fun k => deadeyelaw17_awake.f k) (fun k => deadeyelaw17_awake.mono k) h awake20

end Go.Proofs.Yteeeiaggkdlolaa.Pl
