/-
  No cell of these rows narrows 'for every input' (looked for: loops, veiled, ifaces, maps, wideKeys, modest, calm, conditions, laid).
  DERIVED. THE GIVEN ROWS OF THIS SEAT. 9 by the template 'for every input the law returns true; each argument reads behind the call as it read before'; 0 by the template 'total and deterministic' (their statements: YteeeiaggkdlolaaTotals.lean).
  GIVEN WITH THE SEED: the statements are not yours to turn. If you find one false, say at which input.
  Laid BY PROGRAM, IN A SANDBOX (cutbox-rows.mjs): the forced cells as the released guide's own fill.sh prints them over the translation eea20a75411652b0… (all of the seat's roots in one cut). By AI agents, Wed Nov 11 2026. No macro, syntax, notation, axiom, sorry.
-/
import Derived.Test.YteeeiaggkdlolaaChecked
import GoSem.Claim
import GoSem.ClaimJoined
import GoSem.ClaimMapViews
import Derived.JoinedTies
import Derived.KernelRfl
namespace Go.Proofs.Yteeeiaggkdlolaa
/- THE CELL 'sum', in the pinned program and in every row, IS THE sha256 OF THE DUMP (.gsa) THAT YteeeiaggkdlolaaProg.lean LOADS. Nothing in Lean hashes anything: it is a label: what it is worth is what the hold of that sum in a sandbox is worth. -/
noncomputable def Try.pinned : Pinned := { name := "yteeeiaggkdlolaa", sum := "eea20a75411652b09c0344245a5f0e1fbc970617224446c25a7d0b4d5ed26f6f", checked := Try.checked }
namespace Rows
def none {H : Type} : Left H := { results := [], args := [] }

/-- 'deadeyelaw17.PlanLasts': WHATEVER THE INPUT: true; the input reads as it did. -/
def planLastsSpec : ChangeSpec := { name := "planLasts", fn := fun _ => fun
  | [d] => { results := [.lit (.bool true)], args := [d] }
  | _ => none }
def planLastsRow : OpenClaim := { program := "yteeeiaggkdlolaa", sum := "eea20a75411652b09c0344245a5f0e1fbc970617224446c25a7d0b4d5ed26f6f", func := "deadeye/deadeyelaw17.PlanLasts", spec := "planLasts", unfollowed := true, recurses := true, apart := false }
def PlanLastsSaid : Prop := planLastsRow.holds Try.pinned (OpenSpec.ofChange planLastsSpec)

/-- ITS FALSE NEIGHBOUR: 'it returns false'. Refute it at one input. -/
def planLastsWrong : ChangeSpec := { name := "planLasts", fn := fun _ => fun
  | [d] => { results := [.lit (.bool false)], args := [d] }
  | _ => none }
def PlanLastsWrongFalsely : Prop := planLastsRow.holds Try.pinned (OpenSpec.ofChange planLastsWrong)

/-- 'deadeyelaw17.PlanSources': WHATEVER THE INPUT: true; the input reads as it did. -/
def planSourcesSpec : ChangeSpec := { name := "planSources", fn := fun _ => fun
  | [d1, d2, d3, d4] => { results := [.lit (.bool true)], args := [d1, d2, d3, d4] }
  | _ => none }
def planSourcesRow : OpenClaim := { program := "yteeeiaggkdlolaa", sum := "eea20a75411652b09c0344245a5f0e1fbc970617224446c25a7d0b4d5ed26f6f", func := "deadeye/deadeyelaw17.PlanSources", spec := "planSources", unfollowed := true, recurses := true, apart := false }
def PlanSourcesSaid : Prop := planSourcesRow.holds Try.pinned (OpenSpec.ofChange planSourcesSpec)

/-- ITS FALSE NEIGHBOUR: 'it returns false'. Refute it at one input. -/
def planSourcesWrong : ChangeSpec := { name := "planSources", fn := fun _ => fun
  | [d1, d2, d3, d4] => { results := [.lit (.bool false)], args := [d1, d2, d3, d4] }
  | _ => none }
def PlanSourcesWrongFalsely : Prop := planSourcesRow.holds Try.pinned (OpenSpec.ofChange planSourcesWrong)

/-- 'deadeyelaw17.PlanMembers': WHATEVER THE INPUT: true; the input reads as it did. -/
def planMembersSpec : ChangeSpec := { name := "planMembers", fn := fun _ => fun
  | [d1, d2, d3, d4] => { results := [.lit (.bool true)], args := [d1, d2, d3, d4] }
  | _ => none }
def planMembersRow : OpenClaim := { program := "yteeeiaggkdlolaa", sum := "eea20a75411652b09c0344245a5f0e1fbc970617224446c25a7d0b4d5ed26f6f", func := "deadeye/deadeyelaw17.PlanMembers", spec := "planMembers", unfollowed := true, recurses := true, apart := false }
def PlanMembersSaid : Prop := planMembersRow.holds Try.pinned (OpenSpec.ofChange planMembersSpec)

/-- ITS FALSE NEIGHBOUR: 'it returns false'. Refute it at one input. -/
def planMembersWrong : ChangeSpec := { name := "planMembers", fn := fun _ => fun
  | [d1, d2, d3, d4] => { results := [.lit (.bool false)], args := [d1, d2, d3, d4] }
  | _ => none }
def PlanMembersWrongFalsely : Prop := planMembersRow.holds Try.pinned (OpenSpec.ofChange planMembersWrong)

/-- 'deadeyelaw17.PlanAlive': WHATEVER THE INPUT: true; the input reads as it did. -/
def planAliveSpec : ChangeSpec := { name := "planAlive", fn := fun _ => fun
  | [d1, d2, d3, d4] => { results := [.lit (.bool true)], args := [d1, d2, d3, d4] }
  | _ => none }
def planAliveRow : OpenClaim := { program := "yteeeiaggkdlolaa", sum := "eea20a75411652b09c0344245a5f0e1fbc970617224446c25a7d0b4d5ed26f6f", func := "deadeye/deadeyelaw17.PlanAlive", spec := "planAlive", unfollowed := true, recurses := true, apart := false }
def PlanAliveSaid : Prop := planAliveRow.holds Try.pinned (OpenSpec.ofChange planAliveSpec)

/-- ITS FALSE NEIGHBOUR: 'it returns false'. Refute it at one input. -/
def planAliveWrong : ChangeSpec := { name := "planAlive", fn := fun _ => fun
  | [d1, d2, d3, d4] => { results := [.lit (.bool false)], args := [d1, d2, d3, d4] }
  | _ => none }
def PlanAliveWrongFalsely : Prop := planAliveRow.holds Try.pinned (OpenSpec.ofChange planAliveWrong)

/-- 'deadeyelaw10.KeysFinds': WHATEVER THE INPUT: true; the input reads as it did. -/
def keysFindsSpec : ChangeSpec := { name := "keysFinds", fn := fun _ => fun
  | [d1, d2, d3] => { results := [.lit (.bool true)], args := [d1, d2, d3] }
  | _ => none }
def keysFindsRow : OpenClaim := { program := "yteeeiaggkdlolaa", sum := "eea20a75411652b09c0344245a5f0e1fbc970617224446c25a7d0b4d5ed26f6f", func := "deadeye/deadeyelaw10.KeysFinds", spec := "keysFinds", unfollowed := true, recurses := true, apart := false }
def KeysFindsSaid : Prop := keysFindsRow.holds Try.pinned (OpenSpec.ofChange keysFindsSpec)

/-- ITS FALSE NEIGHBOUR: 'it returns false'. Refute it at one input. -/
def keysFindsWrong : ChangeSpec := { name := "keysFinds", fn := fun _ => fun
  | [d1, d2, d3] => { results := [.lit (.bool false)], args := [d1, d2, d3] }
  | _ => none }
def KeysFindsWrongFalsely : Prop := keysFindsRow.holds Try.pinned (OpenSpec.ofChange keysFindsWrong)

/-- 'deadeyelaw10.KeysNums': WHATEVER THE INPUT: true; the input reads as it did. -/
def keysNumsSpec : ChangeSpec := { name := "keysNums", fn := fun _ => fun
  | [d1, d2] => { results := [.lit (.bool true)], args := [d1, d2] }
  | _ => none }
def keysNumsRow : OpenClaim := { program := "yteeeiaggkdlolaa", sum := "eea20a75411652b09c0344245a5f0e1fbc970617224446c25a7d0b4d5ed26f6f", func := "deadeye/deadeyelaw10.KeysNums", spec := "keysNums", unfollowed := true, recurses := true, apart := false }
def KeysNumsSaid : Prop := keysNumsRow.holds Try.pinned (OpenSpec.ofChange keysNumsSpec)

/-- ITS FALSE NEIGHBOUR: 'it returns false'. Refute it at one input. -/
def keysNumsWrong : ChangeSpec := { name := "keysNums", fn := fun _ => fun
  | [d1, d2] => { results := [.lit (.bool false)], args := [d1, d2] }
  | _ => none }
def KeysNumsWrongFalsely : Prop := keysNumsRow.holds Try.pinned (OpenSpec.ofChange keysNumsWrong)

/-- 'deadeyelaw10.KeysLive': WHATEVER THE INPUT: true; the input reads as it did. -/
def keysLiveSpec : ChangeSpec := { name := "keysLive", fn := fun _ => fun
  | [d1, d2] => { results := [.lit (.bool true)], args := [d1, d2] }
  | _ => none }
def keysLiveRow : OpenClaim := { program := "yteeeiaggkdlolaa", sum := "eea20a75411652b09c0344245a5f0e1fbc970617224446c25a7d0b4d5ed26f6f", func := "deadeye/deadeyelaw10.KeysLive", spec := "keysLive", unfollowed := true, recurses := true, apart := false }
def KeysLiveSaid : Prop := keysLiveRow.holds Try.pinned (OpenSpec.ofChange keysLiveSpec)

/-- ITS FALSE NEIGHBOUR: 'it returns false'. Refute it at one input. -/
def keysLiveWrong : ChangeSpec := { name := "keysLive", fn := fun _ => fun
  | [d1, d2] => { results := [.lit (.bool false)], args := [d1, d2] }
  | _ => none }
def KeysLiveWrongFalsely : Prop := keysLiveRow.holds Try.pinned (OpenSpec.ofChange keysLiveWrong)

/-- 'deadeyelaw10.KeysAgain': WHATEVER THE INPUT: true; the input reads as it did. -/
def keysAgainSpec : ChangeSpec := { name := "keysAgain", fn := fun _ => fun
  | [d1, d2, d3, d4] => { results := [.lit (.bool true)], args := [d1, d2, d3, d4] }
  | _ => none }
def keysAgainRow : OpenClaim := { program := "yteeeiaggkdlolaa", sum := "eea20a75411652b09c0344245a5f0e1fbc970617224446c25a7d0b4d5ed26f6f", func := "deadeye/deadeyelaw10.KeysAgain", spec := "keysAgain", unfollowed := true, recurses := true, apart := false }
def KeysAgainSaid : Prop := keysAgainRow.holds Try.pinned (OpenSpec.ofChange keysAgainSpec)

/-- ITS FALSE NEIGHBOUR: 'it returns false'. Refute it at one input. -/
def keysAgainWrong : ChangeSpec := { name := "keysAgain", fn := fun _ => fun
  | [d1, d2, d3, d4] => { results := [.lit (.bool false)], args := [d1, d2, d3, d4] }
  | _ => none }
def KeysAgainWrongFalsely : Prop := keysAgainRow.holds Try.pinned (OpenSpec.ofChange keysAgainWrong)

/-- 'deadeyelaw10.KeysParts': WHATEVER THE INPUT: true; the input reads as it did. -/
def keysPartsSpec : ChangeSpec := { name := "keysParts", fn := fun _ => fun
  | [d1, d2, d3] => { results := [.lit (.bool true)], args := [d1, d2, d3] }
  | _ => none }
def keysPartsRow : OpenClaim := { program := "yteeeiaggkdlolaa", sum := "eea20a75411652b09c0344245a5f0e1fbc970617224446c25a7d0b4d5ed26f6f", func := "deadeye/deadeyelaw10.KeysParts", spec := "keysParts", unfollowed := true, recurses := true, apart := false }
def KeysPartsSaid : Prop := keysPartsRow.holds Try.pinned (OpenSpec.ofChange keysPartsSpec)

/-- ITS FALSE NEIGHBOUR: 'it returns false'. Refute it at one input. -/
def keysPartsWrong : ChangeSpec := { name := "keysParts", fn := fun _ => fun
  | [d1, d2, d3] => { results := [.lit (.bool false)], args := [d1, d2, d3] }
  | _ => none }
def KeysPartsWrongFalsely : Prop := keysPartsRow.holds Try.pinned (OpenSpec.ofChange keysPartsWrong)

/- THE SECOND FORM. 'bulk': how many values and letters a reading holds, each counted each time it is reached (what is shared counts as often as it is met; a slice's spare places count too). A statement '..UptoSaid' is the law's where the arguments, and the package variables that the reading takes, are together of bulk at most 1048576: NARROWER than '..Said'. Prove '..Said' where nothing that the law and all that it calls make is longer than what came in: it says more and counts as full. Else prove '..UptoSaid'. A law counts once. -/
mutual
def uptoBulk {H : Type} : DataW H → Nat
  | .lit (.string bytes) => bytes.length + 1
  | .lit _ => 1
  | .nil => 1
  | .ptr d => uptoBulk d + 1
  | .slice elems spare => uptoBulkAll elems + uptoBulkAll spare + 1
  | .agg parts => uptoBulkAll parts + 1
  | .iface _ d => uptoBulk d + 1
  | .map entries => uptoBulkEntries entries + 1
  | .held _ => 1
def uptoBulkAll {H : Type} : List (DataW H) → Nat
  | [] => 0
  | d :: r => uptoBulk d + uptoBulkAll r
def uptoBulkEntries {H : Type} : List (Lit × DataW H) → Nat
  | [] => 0
  | x :: r => uptoBulkEntry x + uptoBulkEntries r
def uptoBulkEntry {H : Type} : Lit × DataW H → Nat
  | (.string bytes, d) => bytes.length + uptoBulk d + 1
  | (_, d) => uptoBulk d + 1
 end
def uptoSmall : (H : Type) → List (DataW H) → Bool := fun _ ds => decide (uptoBulkAll ds ≤ 1048576)
def OpenSpec.upto (s : _root_.Go.ChangeSpec) : _root_.Go.OpenSpec := { _root_.Go.OpenSpec.ofChange s with cond := some uptoSmall }

/-- 'deadeyelaw17.PlanLasts', WHERE WHAT IT READS IS OF BULK AT MOST 1048576: true; the input reads as it did. -/
def planLastsUptoRow : OpenClaim := { program := "yteeeiaggkdlolaa", sum := "eea20a75411652b09c0344245a5f0e1fbc970617224446c25a7d0b4d5ed26f6f", func := "deadeye/deadeyelaw17.PlanLasts", spec := "planLasts", unfollowed := true, recurses := true, apart := false, narrowed := true }
def PlanLastsUptoSaid : Prop := planLastsUptoRow.holds Try.pinned (OpenSpec.upto planLastsSpec)

/-- 'deadeyelaw17.PlanSources', WHERE WHAT IT READS IS OF BULK AT MOST 1048576: true; the input reads as it did. -/
def planSourcesUptoRow : OpenClaim := { program := "yteeeiaggkdlolaa", sum := "eea20a75411652b09c0344245a5f0e1fbc970617224446c25a7d0b4d5ed26f6f", func := "deadeye/deadeyelaw17.PlanSources", spec := "planSources", unfollowed := true, recurses := true, apart := false, narrowed := true }
def PlanSourcesUptoSaid : Prop := planSourcesUptoRow.holds Try.pinned (OpenSpec.upto planSourcesSpec)

/-- 'deadeyelaw17.PlanMembers', WHERE WHAT IT READS IS OF BULK AT MOST 1048576: true; the input reads as it did. -/
def planMembersUptoRow : OpenClaim := { program := "yteeeiaggkdlolaa", sum := "eea20a75411652b09c0344245a5f0e1fbc970617224446c25a7d0b4d5ed26f6f", func := "deadeye/deadeyelaw17.PlanMembers", spec := "planMembers", unfollowed := true, recurses := true, apart := false, narrowed := true }
def PlanMembersUptoSaid : Prop := planMembersUptoRow.holds Try.pinned (OpenSpec.upto planMembersSpec)

/-- 'deadeyelaw17.PlanAlive', WHERE WHAT IT READS IS OF BULK AT MOST 1048576: true; the input reads as it did. -/
def planAliveUptoRow : OpenClaim := { program := "yteeeiaggkdlolaa", sum := "eea20a75411652b09c0344245a5f0e1fbc970617224446c25a7d0b4d5ed26f6f", func := "deadeye/deadeyelaw17.PlanAlive", spec := "planAlive", unfollowed := true, recurses := true, apart := false, narrowed := true }
def PlanAliveUptoSaid : Prop := planAliveUptoRow.holds Try.pinned (OpenSpec.upto planAliveSpec)

/-- 'deadeyelaw10.KeysFinds', WHERE WHAT IT READS IS OF BULK AT MOST 1048576: true; the input reads as it did. -/
def keysFindsUptoRow : OpenClaim := { program := "yteeeiaggkdlolaa", sum := "eea20a75411652b09c0344245a5f0e1fbc970617224446c25a7d0b4d5ed26f6f", func := "deadeye/deadeyelaw10.KeysFinds", spec := "keysFinds", unfollowed := true, recurses := true, apart := false, narrowed := true }
def KeysFindsUptoSaid : Prop := keysFindsUptoRow.holds Try.pinned (OpenSpec.upto keysFindsSpec)

/-- 'deadeyelaw10.KeysNums', WHERE WHAT IT READS IS OF BULK AT MOST 1048576: true; the input reads as it did. -/
def keysNumsUptoRow : OpenClaim := { program := "yteeeiaggkdlolaa", sum := "eea20a75411652b09c0344245a5f0e1fbc970617224446c25a7d0b4d5ed26f6f", func := "deadeye/deadeyelaw10.KeysNums", spec := "keysNums", unfollowed := true, recurses := true, apart := false, narrowed := true }
def KeysNumsUptoSaid : Prop := keysNumsUptoRow.holds Try.pinned (OpenSpec.upto keysNumsSpec)

/-- 'deadeyelaw10.KeysLive', WHERE WHAT IT READS IS OF BULK AT MOST 1048576: true; the input reads as it did. -/
def keysLiveUptoRow : OpenClaim := { program := "yteeeiaggkdlolaa", sum := "eea20a75411652b09c0344245a5f0e1fbc970617224446c25a7d0b4d5ed26f6f", func := "deadeye/deadeyelaw10.KeysLive", spec := "keysLive", unfollowed := true, recurses := true, apart := false, narrowed := true }
def KeysLiveUptoSaid : Prop := keysLiveUptoRow.holds Try.pinned (OpenSpec.upto keysLiveSpec)

/-- 'deadeyelaw10.KeysAgain', WHERE WHAT IT READS IS OF BULK AT MOST 1048576: true; the input reads as it did. -/
def keysAgainUptoRow : OpenClaim := { program := "yteeeiaggkdlolaa", sum := "eea20a75411652b09c0344245a5f0e1fbc970617224446c25a7d0b4d5ed26f6f", func := "deadeye/deadeyelaw10.KeysAgain", spec := "keysAgain", unfollowed := true, recurses := true, apart := false, narrowed := true }
def KeysAgainUptoSaid : Prop := keysAgainUptoRow.holds Try.pinned (OpenSpec.upto keysAgainSpec)

/-- 'deadeyelaw10.KeysParts', WHERE WHAT IT READS IS OF BULK AT MOST 1048576: true; the input reads as it did. -/
def keysPartsUptoRow : OpenClaim := { program := "yteeeiaggkdlolaa", sum := "eea20a75411652b09c0344245a5f0e1fbc970617224446c25a7d0b4d5ed26f6f", func := "deadeye/deadeyelaw10.KeysParts", spec := "keysParts", unfollowed := true, recurses := true, apart := false, narrowed := true }
def KeysPartsUptoSaid : Prop := keysPartsUptoRow.holds Try.pinned (OpenSpec.upto keysPartsSpec)

end Rows
end Go.Proofs.Yteeeiaggkdlolaa
