/-
  No cell of these rows narrows 'for every input' (looked for: loops, veiled, ifaces, maps, wideKeys, modest, calm, conditions, laid).
  DERIVED. THE GIVEN ROWS OF THIS SEAT. 8 by the template 'for every input the law returns true; each argument reads behind the call as it read before'; 0 by the template 'total and deterministic' (their statements: YtllfiplhfbbhaaaTotals.lean).
  GIVEN WITH THE SEED: the statements are not yours to turn. If you find one false, say at which input.
  Laid BY PROGRAM, IN A SANDBOX (cutbox-rows.mjs): the forced cells as the released guide's own fill.sh prints them over the translation 26fb497847c115bb… (all of the seat's roots in one cut). By AI agents, Wed Nov 11 2026. No macro, syntax, notation, axiom, sorry.
-/
import Derived.Test.YtllfiplhfbbhaaaChecked
import GoSem.Claim
import GoSem.ClaimJoined
import GoSem.ClaimMapViews
import Derived.JoinedTies
import Derived.KernelRfl
namespace Go.Proofs.Ytllfiplhfbbhaaa
/- THE CELL 'sum', in the pinned program and in every row, IS THE sha256 OF THE DUMP (.gsa) THAT YtllfiplhfbbhaaaProg.lean LOADS. Nothing in Lean hashes anything: it is a label: what it is worth is what the hold of that sum in a sandbox is worth. -/
noncomputable def Try.pinned : Pinned := { name := "ytllfiplhfbbhaaa", sum := "26fb497847c115bb6ae7cb7d4c7c32fdbecfea7fd6facd24660f2d58def3eca5", checked := Try.checked }
namespace Rows
def none {H : Type} : Left H := { results := [], args := [] }

/-- 'huddlelaw28.DiskPlays': WHATEVER THE INPUT: true; the input reads as it did. -/
def diskPlaysSpec : ChangeSpec := { name := "diskPlays", fn := fun _ => fun
  | [d] => { results := [.lit (.bool true)], args := [d] }
  | _ => none }
def diskPlaysRow : OpenClaim := { program := "ytllfiplhfbbhaaa", sum := "26fb497847c115bb6ae7cb7d4c7c32fdbecfea7fd6facd24660f2d58def3eca5", func := "huddle/huddlelaw28.DiskPlays", spec := "diskPlays", unfollowed := true, recurses := true, apart := false }
def DiskPlaysSaid : Prop := diskPlaysRow.holds Try.pinned (OpenSpec.ofChange diskPlaysSpec)

/-- ITS FALSE NEIGHBOUR: 'it returns false'. Refute it at one input. -/
def diskPlaysWrong : ChangeSpec := { name := "diskPlays", fn := fun _ => fun
  | [d] => { results := [.lit (.bool false)], args := [d] }
  | _ => none }
def DiskPlaysWrongFalsely : Prop := diskPlaysRow.holds Try.pinned (OpenSpec.ofChange diskPlaysWrong)

/-- 'huddlelaw28.DiskDown': WHATEVER THE INPUT: true; the input reads as it did. -/
def diskDownSpec : ChangeSpec := { name := "diskDown", fn := fun _ => fun
  | [d1, d2, d3] => { results := [.lit (.bool true)], args := [d1, d2, d3] }
  | _ => none }
def diskDownRow : OpenClaim := { program := "ytllfiplhfbbhaaa", sum := "26fb497847c115bb6ae7cb7d4c7c32fdbecfea7fd6facd24660f2d58def3eca5", func := "huddle/huddlelaw28.DiskDown", spec := "diskDown", unfollowed := true, recurses := true, apart := false }
def DiskDownSaid : Prop := diskDownRow.holds Try.pinned (OpenSpec.ofChange diskDownSpec)

/-- ITS FALSE NEIGHBOUR: 'it returns false'. Refute it at one input. -/
def diskDownWrong : ChangeSpec := { name := "diskDown", fn := fun _ => fun
  | [d1, d2, d3] => { results := [.lit (.bool false)], args := [d1, d2, d3] }
  | _ => none }
def DiskDownWrongFalsely : Prop := diskDownRow.holds Try.pinned (OpenSpec.ofChange diskDownWrong)

/-- 'huddlelaw28.DiskSure': WHATEVER THE INPUT: true; the input reads as it did. -/
def diskSureSpec : ChangeSpec := { name := "diskSure", fn := fun _ => fun
  | [d1, d2, d3, d4] => { results := [.lit (.bool true)], args := [d1, d2, d3, d4] }
  | _ => none }
def diskSureRow : OpenClaim := { program := "ytllfiplhfbbhaaa", sum := "26fb497847c115bb6ae7cb7d4c7c32fdbecfea7fd6facd24660f2d58def3eca5", func := "huddle/huddlelaw28.DiskSure", spec := "diskSure", unfollowed := true, recurses := true, apart := false }
def DiskSureSaid : Prop := diskSureRow.holds Try.pinned (OpenSpec.ofChange diskSureSpec)

/-- ITS FALSE NEIGHBOUR: 'it returns false'. Refute it at one input. -/
def diskSureWrong : ChangeSpec := { name := "diskSure", fn := fun _ => fun
  | [d1, d2, d3, d4] => { results := [.lit (.bool false)], args := [d1, d2, d3, d4] }
  | _ => none }
def DiskSureWrongFalsely : Prop := diskSureRow.holds Try.pinned (OpenSpec.ofChange diskSureWrong)

/-- 'huddlelaw28.DiskPrefix': WHATEVER THE INPUT: true; the input reads as it did. -/
def diskPrefixSpec : ChangeSpec := { name := "diskPrefix", fn := fun _ => fun
  | [d1, d2, d3, d4] => { results := [.lit (.bool true)], args := [d1, d2, d3, d4] }
  | _ => none }
def diskPrefixRow : OpenClaim := { program := "ytllfiplhfbbhaaa", sum := "26fb497847c115bb6ae7cb7d4c7c32fdbecfea7fd6facd24660f2d58def3eca5", func := "huddle/huddlelaw28.DiskPrefix", spec := "diskPrefix", unfollowed := true, recurses := true, apart := false }
def DiskPrefixSaid : Prop := diskPrefixRow.holds Try.pinned (OpenSpec.ofChange diskPrefixSpec)

/-- ITS FALSE NEIGHBOUR: 'it returns false'. Refute it at one input. -/
def diskPrefixWrong : ChangeSpec := { name := "diskPrefix", fn := fun _ => fun
  | [d1, d2, d3, d4] => { results := [.lit (.bool false)], args := [d1, d2, d3, d4] }
  | _ => none }
def DiskPrefixWrongFalsely : Prop := diskPrefixRow.holds Try.pinned (OpenSpec.ofChange diskPrefixWrong)

/-- 'huddlelaw28.DiskAll': WHATEVER THE INPUT: true; the input reads as it did. -/
def diskAllSpec : ChangeSpec := { name := "diskAll", fn := fun _ => fun
  | [d1, d2] => { results := [.lit (.bool true)], args := [d1, d2] }
  | _ => none }
def diskAllRow : OpenClaim := { program := "ytllfiplhfbbhaaa", sum := "26fb497847c115bb6ae7cb7d4c7c32fdbecfea7fd6facd24660f2d58def3eca5", func := "huddle/huddlelaw28.DiskAll", spec := "diskAll", unfollowed := true, recurses := true, apart := false }
def DiskAllSaid : Prop := diskAllRow.holds Try.pinned (OpenSpec.ofChange diskAllSpec)

/-- ITS FALSE NEIGHBOUR: 'it returns false'. Refute it at one input. -/
def diskAllWrong : ChangeSpec := { name := "diskAll", fn := fun _ => fun
  | [d1, d2] => { results := [.lit (.bool false)], args := [d1, d2] }
  | _ => none }
def DiskAllWrongFalsely : Prop := diskAllRow.holds Try.pinned (OpenSpec.ofChange diskAllWrong)

/-- 'huddlelaw28.DiskOver': WHATEVER THE INPUT: true; the input reads as it did. -/
def diskOverSpec : ChangeSpec := { name := "diskOver", fn := fun _ => fun
  | [d1, d2, d3, d4] => { results := [.lit (.bool true)], args := [d1, d2, d3, d4] }
  | _ => none }
def diskOverRow : OpenClaim := { program := "ytllfiplhfbbhaaa", sum := "26fb497847c115bb6ae7cb7d4c7c32fdbecfea7fd6facd24660f2d58def3eca5", func := "huddle/huddlelaw28.DiskOver", spec := "diskOver", unfollowed := true, recurses := true, apart := false }
def DiskOverSaid : Prop := diskOverRow.holds Try.pinned (OpenSpec.ofChange diskOverSpec)

/-- ITS FALSE NEIGHBOUR: 'it returns false'. Refute it at one input. -/
def diskOverWrong : ChangeSpec := { name := "diskOver", fn := fun _ => fun
  | [d1, d2, d3, d4] => { results := [.lit (.bool false)], args := [d1, d2, d3, d4] }
  | _ => none }
def DiskOverWrongFalsely : Prop := diskOverRow.holds Try.pinned (OpenSpec.ofChange diskOverWrong)

/-- 'huddlelaw28.DiskParts': WHATEVER THE INPUT: true; the input reads as it did. -/
def diskPartsSpec : ChangeSpec := { name := "diskParts", fn := fun _ => fun
  | [d1, d2, d3, d4, d5] => { results := [.lit (.bool true)], args := [d1, d2, d3, d4, d5] }
  | _ => none }
def diskPartsRow : OpenClaim := { program := "ytllfiplhfbbhaaa", sum := "26fb497847c115bb6ae7cb7d4c7c32fdbecfea7fd6facd24660f2d58def3eca5", func := "huddle/huddlelaw28.DiskParts", spec := "diskParts", unfollowed := true, recurses := true, apart := false }
def DiskPartsSaid : Prop := diskPartsRow.holds Try.pinned (OpenSpec.ofChange diskPartsSpec)

/-- ITS FALSE NEIGHBOUR: 'it returns false'. Refute it at one input. -/
def diskPartsWrong : ChangeSpec := { name := "diskParts", fn := fun _ => fun
  | [d1, d2, d3, d4, d5] => { results := [.lit (.bool false)], args := [d1, d2, d3, d4, d5] }
  | _ => none }
def DiskPartsWrongFalsely : Prop := diskPartsRow.holds Try.pinned (OpenSpec.ofChange diskPartsWrong)

/-- 'huddlelaw28.DiskReads': WHATEVER THE INPUT: true; the input reads as it did. -/
def diskReadsSpec : ChangeSpec := { name := "diskReads", fn := fun _ => fun
  | [d1, d2, d3, d4] => { results := [.lit (.bool true)], args := [d1, d2, d3, d4] }
  | _ => none }
def diskReadsRow : OpenClaim := { program := "ytllfiplhfbbhaaa", sum := "26fb497847c115bb6ae7cb7d4c7c32fdbecfea7fd6facd24660f2d58def3eca5", func := "huddle/huddlelaw28.DiskReads", spec := "diskReads", unfollowed := true, recurses := true, apart := false }
def DiskReadsSaid : Prop := diskReadsRow.holds Try.pinned (OpenSpec.ofChange diskReadsSpec)

/-- ITS FALSE NEIGHBOUR: 'it returns false'. Refute it at one input. -/
def diskReadsWrong : ChangeSpec := { name := "diskReads", fn := fun _ => fun
  | [d1, d2, d3, d4] => { results := [.lit (.bool false)], args := [d1, d2, d3, d4] }
  | _ => none }
def DiskReadsWrongFalsely : Prop := diskReadsRow.holds Try.pinned (OpenSpec.ofChange diskReadsWrong)

/- THE SECOND FORM. 'bulk': how many values and letters a reading holds, each counted each time it is reached (what is shared counts as often as it is met; a slice's spare places count too). A statement '..UptoSaid' is the law's where the arguments, and the package variables that the reading takes, are together of bulk at most 1048576: NARROWER than '..Said'. Prove '..Said' where nothing that the law and all that it calls make is longer than what came in: it says more and counts as full. Else prove '..UptoSaid'. A law counts once. -/
mutual
def uptoBulk {H : Type} : DataW H → Nat
  | .lit (.string bytes) => bytes.length + 1
  | .lit _ => 1
  | .nil => 1
  | .ptr d => uptoBulk d + 1
  | .slice elems spare => uptoBulkAll elems + uptoBulkAll spare + 1
  | .agg parts => uptoBulkAll parts + 1
  | .iface _ d => uptoBulk d + 1
  | .map entries => uptoBulkEntries entries + 1
  | .held _ => 1
def uptoBulkAll {H : Type} : List (DataW H) → Nat
  | [] => 0
  | d :: r => uptoBulk d + uptoBulkAll r
def uptoBulkEntries {H : Type} : List (Lit × DataW H) → Nat
  | [] => 0
  | x :: r => uptoBulkEntry x + uptoBulkEntries r
def uptoBulkEntry {H : Type} : Lit × DataW H → Nat
  | (.string bytes, d) => bytes.length + uptoBulk d + 1
  | (_, d) => uptoBulk d + 1
 end
def uptoSmall : (H : Type) → List (DataW H) → Bool := fun _ ds => decide (uptoBulkAll ds ≤ 1048576)
def OpenSpec.upto (s : _root_.Go.ChangeSpec) : _root_.Go.OpenSpec := { _root_.Go.OpenSpec.ofChange s with cond := some uptoSmall }

/-- 'huddlelaw28.DiskPlays', WHERE WHAT IT READS IS OF BULK AT MOST 1048576: true; the input reads as it did. -/
def diskPlaysUptoRow : OpenClaim := { program := "ytllfiplhfbbhaaa", sum := "26fb497847c115bb6ae7cb7d4c7c32fdbecfea7fd6facd24660f2d58def3eca5", func := "huddle/huddlelaw28.DiskPlays", spec := "diskPlays", unfollowed := true, recurses := true, apart := false, narrowed := true }
def DiskPlaysUptoSaid : Prop := diskPlaysUptoRow.holds Try.pinned (OpenSpec.upto diskPlaysSpec)

/-- 'huddlelaw28.DiskDown', WHERE WHAT IT READS IS OF BULK AT MOST 1048576: true; the input reads as it did. -/
def diskDownUptoRow : OpenClaim := { program := "ytllfiplhfbbhaaa", sum := "26fb497847c115bb6ae7cb7d4c7c32fdbecfea7fd6facd24660f2d58def3eca5", func := "huddle/huddlelaw28.DiskDown", spec := "diskDown", unfollowed := true, recurses := true, apart := false, narrowed := true }
def DiskDownUptoSaid : Prop := diskDownUptoRow.holds Try.pinned (OpenSpec.upto diskDownSpec)

/-- 'huddlelaw28.DiskSure', WHERE WHAT IT READS IS OF BULK AT MOST 1048576: true; the input reads as it did. -/
def diskSureUptoRow : OpenClaim := { program := "ytllfiplhfbbhaaa", sum := "26fb497847c115bb6ae7cb7d4c7c32fdbecfea7fd6facd24660f2d58def3eca5", func := "huddle/huddlelaw28.DiskSure", spec := "diskSure", unfollowed := true, recurses := true, apart := false, narrowed := true }
def DiskSureUptoSaid : Prop := diskSureUptoRow.holds Try.pinned (OpenSpec.upto diskSureSpec)

/-- 'huddlelaw28.DiskPrefix', WHERE WHAT IT READS IS OF BULK AT MOST 1048576: true; the input reads as it did. -/
def diskPrefixUptoRow : OpenClaim := { program := "ytllfiplhfbbhaaa", sum := "26fb497847c115bb6ae7cb7d4c7c32fdbecfea7fd6facd24660f2d58def3eca5", func := "huddle/huddlelaw28.DiskPrefix", spec := "diskPrefix", unfollowed := true, recurses := true, apart := false, narrowed := true }
def DiskPrefixUptoSaid : Prop := diskPrefixUptoRow.holds Try.pinned (OpenSpec.upto diskPrefixSpec)

/-- 'huddlelaw28.DiskAll', WHERE WHAT IT READS IS OF BULK AT MOST 1048576: true; the input reads as it did. -/
def diskAllUptoRow : OpenClaim := { program := "ytllfiplhfbbhaaa", sum := "26fb497847c115bb6ae7cb7d4c7c32fdbecfea7fd6facd24660f2d58def3eca5", func := "huddle/huddlelaw28.DiskAll", spec := "diskAll", unfollowed := true, recurses := true, apart := false, narrowed := true }
def DiskAllUptoSaid : Prop := diskAllUptoRow.holds Try.pinned (OpenSpec.upto diskAllSpec)

/-- 'huddlelaw28.DiskOver', WHERE WHAT IT READS IS OF BULK AT MOST 1048576: true; the input reads as it did. -/
def diskOverUptoRow : OpenClaim := { program := "ytllfiplhfbbhaaa", sum := "26fb497847c115bb6ae7cb7d4c7c32fdbecfea7fd6facd24660f2d58def3eca5", func := "huddle/huddlelaw28.DiskOver", spec := "diskOver", unfollowed := true, recurses := true, apart := false, narrowed := true }
def DiskOverUptoSaid : Prop := diskOverUptoRow.holds Try.pinned (OpenSpec.upto diskOverSpec)

/-- 'huddlelaw28.DiskParts', WHERE WHAT IT READS IS OF BULK AT MOST 1048576: true; the input reads as it did. -/
def diskPartsUptoRow : OpenClaim := { program := "ytllfiplhfbbhaaa", sum := "26fb497847c115bb6ae7cb7d4c7c32fdbecfea7fd6facd24660f2d58def3eca5", func := "huddle/huddlelaw28.DiskParts", spec := "diskParts", unfollowed := true, recurses := true, apart := false, narrowed := true }
def DiskPartsUptoSaid : Prop := diskPartsUptoRow.holds Try.pinned (OpenSpec.upto diskPartsSpec)

/-- 'huddlelaw28.DiskReads', WHERE WHAT IT READS IS OF BULK AT MOST 1048576: true; the input reads as it did. -/
def diskReadsUptoRow : OpenClaim := { program := "ytllfiplhfbbhaaa", sum := "26fb497847c115bb6ae7cb7d4c7c32fdbecfea7fd6facd24660f2d58def3eca5", func := "huddle/huddlelaw28.DiskReads", spec := "diskReads", unfollowed := true, recurses := true, apart := false, narrowed := true }
def DiskReadsUptoSaid : Prop := diskReadsUptoRow.holds Try.pinned (OpenSpec.upto diskReadsSpec)

end Rows
end Go.Proofs.Ytllfiplhfbbhaaa
