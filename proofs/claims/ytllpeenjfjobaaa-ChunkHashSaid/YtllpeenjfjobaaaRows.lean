/-
  No cell of these rows narrows 'for every input' (looked for: loops, veiled, ifaces, maps, wideKeys, modest, calm, conditions, laid).
  DERIVED. THE GIVEN ROWS OF THIS SEAT. 7 by the template 'for every input the law returns true; each argument reads behind the call as it read before'; 0 by the template 'total and deterministic' (their statements: YtllpeenjfjobaaaTotals.lean).
  GIVEN WITH THE SEED: the statements are not yours to turn. If you find one false, say at which input.
  Laid BY PROGRAM, IN A SANDBOX (cutbox-rows.mjs): the forced cells as the released guide's own fill.sh prints them over the translation c4144f2e22492372… (all of the seat's roots in one cut). By AI agents, Wed Nov 11 2026. No macro, syntax, notation, axiom, sorry.
-/
import Derived.Test.YtllpeenjfjobaaaChecked
import GoSem.Claim
import GoSem.ClaimJoined
import GoSem.ClaimMapViews
import Derived.JoinedTies
import Derived.KernelRfl
namespace Go.Proofs.Ytllpeenjfjobaaa
/- THE CELL 'sum', in the pinned program and in every row, IS THE sha256 OF THE DUMP (.gsa) THAT YtllpeenjfjobaaaProg.lean LOADS. Nothing in Lean hashes anything: it is a label: what it is worth is what the hold of that sum in a sandbox is worth. -/
noncomputable def Try.pinned : Pinned := { name := "ytllpeenjfjobaaa", sum := "c4144f2e224923720fa25aa79df990b0766fbaf3e221e6963fa58415b705762b", checked := Try.checked }
namespace Rows
def none {H : Type} : Left H := { results := [], args := [] }

/-- 'huddlelaw26.ChunkCuts': WHATEVER THE INPUT: true; the input reads as it did. -/
def chunkCutsSpec : ChangeSpec := { name := "chunkCuts", fn := fun _ => fun
  | [d1, d2] => { results := [.lit (.bool true)], args := [d1, d2] }
  | _ => none }
def chunkCutsRow : OpenClaim := { program := "ytllpeenjfjobaaa", sum := "c4144f2e224923720fa25aa79df990b0766fbaf3e221e6963fa58415b705762b", func := "huddle/huddlelaw26.ChunkCuts", spec := "chunkCuts", unfollowed := true, recurses := true, apart := false }
def ChunkCutsSaid : Prop := chunkCutsRow.holds Try.pinned (OpenSpec.ofChange chunkCutsSpec)

/-- ITS FALSE NEIGHBOUR: 'it returns false'. Refute it at one input. -/
def chunkCutsWrong : ChangeSpec := { name := "chunkCuts", fn := fun _ => fun
  | [d1, d2] => { results := [.lit (.bool false)], args := [d1, d2] }
  | _ => none }
def ChunkCutsWrongFalsely : Prop := chunkCutsRow.holds Try.pinned (OpenSpec.ofChange chunkCutsWrong)

/-- 'huddlelaw26.ChunkEnds': WHATEVER THE INPUT: true; the input reads as it did. -/
def chunkEndsSpec : ChangeSpec := { name := "chunkEnds", fn := fun _ => fun
  | [d] => { results := [.lit (.bool true)], args := [d] }
  | _ => none }
def chunkEndsRow : OpenClaim := { program := "ytllpeenjfjobaaa", sum := "c4144f2e224923720fa25aa79df990b0766fbaf3e221e6963fa58415b705762b", func := "huddle/huddlelaw26.ChunkEnds", spec := "chunkEnds", unfollowed := true, recurses := true, apart := false }
def ChunkEndsSaid : Prop := chunkEndsRow.holds Try.pinned (OpenSpec.ofChange chunkEndsSpec)

/-- ITS FALSE NEIGHBOUR: 'it returns false'. Refute it at one input. -/
def chunkEndsWrong : ChangeSpec := { name := "chunkEnds", fn := fun _ => fun
  | [d] => { results := [.lit (.bool false)], args := [d] }
  | _ => none }
def ChunkEndsWrongFalsely : Prop := chunkEndsRow.holds Try.pinned (OpenSpec.ofChange chunkEndsWrong)

/-- 'huddlelaw26.ChunkAlike': WHATEVER THE INPUT: true; the input reads as it did. -/
def chunkAlikeSpec : ChangeSpec := { name := "chunkAlike", fn := fun _ => fun
  | [d1, d2, d3] => { results := [.lit (.bool true)], args := [d1, d2, d3] }
  | _ => none }
def chunkAlikeRow : OpenClaim := { program := "ytllpeenjfjobaaa", sum := "c4144f2e224923720fa25aa79df990b0766fbaf3e221e6963fa58415b705762b", func := "huddle/huddlelaw26.ChunkAlike", spec := "chunkAlike", unfollowed := true, recurses := true, apart := false }
def ChunkAlikeSaid : Prop := chunkAlikeRow.holds Try.pinned (OpenSpec.ofChange chunkAlikeSpec)

/-- ITS FALSE NEIGHBOUR: 'it returns false'. Refute it at one input. -/
def chunkAlikeWrong : ChangeSpec := { name := "chunkAlike", fn := fun _ => fun
  | [d1, d2, d3] => { results := [.lit (.bool false)], args := [d1, d2, d3] }
  | _ => none }
def ChunkAlikeWrongFalsely : Prop := chunkAlikeRow.holds Try.pinned (OpenSpec.ofChange chunkAlikeWrong)

/-- 'huddlelaw26.ChunkAhead': WHATEVER THE INPUT: true; the input reads as it did. -/
def chunkAheadSpec : ChangeSpec := { name := "chunkAhead", fn := fun _ => fun
  | [d1, d2, d3] => { results := [.lit (.bool true)], args := [d1, d2, d3] }
  | _ => none }
def chunkAheadRow : OpenClaim := { program := "ytllpeenjfjobaaa", sum := "c4144f2e224923720fa25aa79df990b0766fbaf3e221e6963fa58415b705762b", func := "huddle/huddlelaw26.ChunkAhead", spec := "chunkAhead", unfollowed := true, recurses := true, apart := false }
def ChunkAheadSaid : Prop := chunkAheadRow.holds Try.pinned (OpenSpec.ofChange chunkAheadSpec)

/-- ITS FALSE NEIGHBOUR: 'it returns false'. Refute it at one input. -/
def chunkAheadWrong : ChangeSpec := { name := "chunkAhead", fn := fun _ => fun
  | [d1, d2, d3] => { results := [.lit (.bool false)], args := [d1, d2, d3] }
  | _ => none }
def ChunkAheadWrongFalsely : Prop := chunkAheadRow.holds Try.pinned (OpenSpec.ofChange chunkAheadWrong)

/-- 'huddlelaw26.ChunkHash': WHATEVER THE INPUT: true; the input reads as it did. -/
def chunkHashSpec : ChangeSpec := { name := "chunkHash", fn := fun _ => fun
  | [d1, d2] => { results := [.lit (.bool true)], args := [d1, d2] }
  | _ => none }
def chunkHashRow : OpenClaim := { program := "ytllpeenjfjobaaa", sum := "c4144f2e224923720fa25aa79df990b0766fbaf3e221e6963fa58415b705762b", func := "huddle/huddlelaw26.ChunkHash", spec := "chunkHash", unfollowed := true, recurses := true, apart := false }
def ChunkHashSaid : Prop := chunkHashRow.holds Try.pinned (OpenSpec.ofChange chunkHashSpec)

/-- ITS FALSE NEIGHBOUR: 'it returns false'. Refute it at one input. -/
def chunkHashWrong : ChangeSpec := { name := "chunkHash", fn := fun _ => fun
  | [d1, d2] => { results := [.lit (.bool false)], args := [d1, d2] }
  | _ => none }
def ChunkHashWrongFalsely : Prop := chunkHashRow.holds Try.pinned (OpenSpec.ofChange chunkHashWrong)

/-- 'huddlelaw26.ChunkJoins': WHATEVER THE INPUT: true; the input reads as it did. -/
def chunkJoinsSpec : ChangeSpec := { name := "chunkJoins", fn := fun _ => fun
  | [d1, d2] => { results := [.lit (.bool true)], args := [d1, d2] }
  | _ => none }
def chunkJoinsRow : OpenClaim := { program := "ytllpeenjfjobaaa", sum := "c4144f2e224923720fa25aa79df990b0766fbaf3e221e6963fa58415b705762b", func := "huddle/huddlelaw26.ChunkJoins", spec := "chunkJoins", inPlace := ["internal/bytealg.MakeNoZero"], unfollowed := true, recurses := true, apart := false }
def ChunkJoinsSaid : Prop := chunkJoinsRow.holds Try.pinned (OpenSpec.ofChange chunkJoinsSpec)

/-- ITS FALSE NEIGHBOUR: 'it returns false'. Refute it at one input. -/
def chunkJoinsWrong : ChangeSpec := { name := "chunkJoins", fn := fun _ => fun
  | [d1, d2] => { results := [.lit (.bool false)], args := [d1, d2] }
  | _ => none }
def ChunkJoinsWrongFalsely : Prop := chunkJoinsRow.holds Try.pinned (OpenSpec.ofChange chunkJoinsWrong)

/-- 'huddlelaw26.ChunkOwn': WHATEVER THE INPUT: true; the input reads as it did. -/
def chunkOwnSpec : ChangeSpec := { name := "chunkOwn", fn := fun _ => fun
  | [d] => { results := [.lit (.bool true)], args := [d] }
  | _ => none }
def chunkOwnRow : OpenClaim := { program := "ytllpeenjfjobaaa", sum := "c4144f2e224923720fa25aa79df990b0766fbaf3e221e6963fa58415b705762b", func := "huddle/huddlelaw26.ChunkOwn", spec := "chunkOwn", inPlace := ["internal/bytealg.MakeNoZero"], unfollowed := true, recurses := true, apart := false }
def ChunkOwnSaid : Prop := chunkOwnRow.holds Try.pinned (OpenSpec.ofChange chunkOwnSpec)

/-- ITS FALSE NEIGHBOUR: 'it returns false'. Refute it at one input. -/
def chunkOwnWrong : ChangeSpec := { name := "chunkOwn", fn := fun _ => fun
  | [d] => { results := [.lit (.bool false)], args := [d] }
  | _ => none }
def ChunkOwnWrongFalsely : Prop := chunkOwnRow.holds Try.pinned (OpenSpec.ofChange chunkOwnWrong)

/- THE SECOND FORM. 'bulk': how many values and letters a reading holds, each counted each time it is reached (what is shared counts as often as it is met; a slice's spare places count too). A statement '..UptoSaid' is the law's where the arguments, and the package variables that the reading takes, are together of bulk at most 1048576: NARROWER than '..Said'. Prove '..Said' where nothing that the law and all that it calls make is longer than what came in: it says more and counts as full. Else prove '..UptoSaid'. A law counts once. -/
mutual
def uptoBulk {H : Type} : DataW H → Nat
  | .lit (.string bytes) => bytes.length + 1
  | .lit _ => 1
  | .nil => 1
  | .ptr d => uptoBulk d + 1
  | .slice elems spare => uptoBulkAll elems + uptoBulkAll spare + 1
  | .agg parts => uptoBulkAll parts + 1
  | .iface _ d => uptoBulk d + 1
  | .map entries => uptoBulkEntries entries + 1
  | .held _ => 1
def uptoBulkAll {H : Type} : List (DataW H) → Nat
  | [] => 0
  | d :: r => uptoBulk d + uptoBulkAll r
def uptoBulkEntries {H : Type} : List (Lit × DataW H) → Nat
  | [] => 0
  | x :: r => uptoBulkEntry x + uptoBulkEntries r
def uptoBulkEntry {H : Type} : Lit × DataW H → Nat
  | (.string bytes, d) => bytes.length + uptoBulk d + 1
  | (_, d) => uptoBulk d + 1
 end
def uptoSmall : (H : Type) → List (DataW H) → Bool := fun _ ds => decide (uptoBulkAll ds ≤ 1048576)
def OpenSpec.upto (s : _root_.Go.ChangeSpec) : _root_.Go.OpenSpec := { _root_.Go.OpenSpec.ofChange s with cond := some uptoSmall }

/-- 'huddlelaw26.ChunkCuts', WHERE WHAT IT READS IS OF BULK AT MOST 1048576: true; the input reads as it did. -/
def chunkCutsUptoRow : OpenClaim := { program := "ytllpeenjfjobaaa", sum := "c4144f2e224923720fa25aa79df990b0766fbaf3e221e6963fa58415b705762b", func := "huddle/huddlelaw26.ChunkCuts", spec := "chunkCuts", unfollowed := true, recurses := true, apart := false, narrowed := true }
def ChunkCutsUptoSaid : Prop := chunkCutsUptoRow.holds Try.pinned (OpenSpec.upto chunkCutsSpec)

/-- 'huddlelaw26.ChunkEnds', WHERE WHAT IT READS IS OF BULK AT MOST 1048576: true; the input reads as it did. -/
def chunkEndsUptoRow : OpenClaim := { program := "ytllpeenjfjobaaa", sum := "c4144f2e224923720fa25aa79df990b0766fbaf3e221e6963fa58415b705762b", func := "huddle/huddlelaw26.ChunkEnds", spec := "chunkEnds", unfollowed := true, recurses := true, apart := false, narrowed := true }
def ChunkEndsUptoSaid : Prop := chunkEndsUptoRow.holds Try.pinned (OpenSpec.upto chunkEndsSpec)

/-- 'huddlelaw26.ChunkAlike', WHERE WHAT IT READS IS OF BULK AT MOST 1048576: true; the input reads as it did. -/
def chunkAlikeUptoRow : OpenClaim := { program := "ytllpeenjfjobaaa", sum := "c4144f2e224923720fa25aa79df990b0766fbaf3e221e6963fa58415b705762b", func := "huddle/huddlelaw26.ChunkAlike", spec := "chunkAlike", unfollowed := true, recurses := true, apart := false, narrowed := true }
def ChunkAlikeUptoSaid : Prop := chunkAlikeUptoRow.holds Try.pinned (OpenSpec.upto chunkAlikeSpec)

/-- 'huddlelaw26.ChunkAhead', WHERE WHAT IT READS IS OF BULK AT MOST 1048576: true; the input reads as it did. -/
def chunkAheadUptoRow : OpenClaim := { program := "ytllpeenjfjobaaa", sum := "c4144f2e224923720fa25aa79df990b0766fbaf3e221e6963fa58415b705762b", func := "huddle/huddlelaw26.ChunkAhead", spec := "chunkAhead", unfollowed := true, recurses := true, apart := false, narrowed := true }
def ChunkAheadUptoSaid : Prop := chunkAheadUptoRow.holds Try.pinned (OpenSpec.upto chunkAheadSpec)

/-- 'huddlelaw26.ChunkHash', WHERE WHAT IT READS IS OF BULK AT MOST 1048576: true; the input reads as it did. -/
def chunkHashUptoRow : OpenClaim := { program := "ytllpeenjfjobaaa", sum := "c4144f2e224923720fa25aa79df990b0766fbaf3e221e6963fa58415b705762b", func := "huddle/huddlelaw26.ChunkHash", spec := "chunkHash", unfollowed := true, recurses := true, apart := false, narrowed := true }
def ChunkHashUptoSaid : Prop := chunkHashUptoRow.holds Try.pinned (OpenSpec.upto chunkHashSpec)

/-- 'huddlelaw26.ChunkJoins', WHERE WHAT IT READS IS OF BULK AT MOST 1048576: true; the input reads as it did. -/
def chunkJoinsUptoRow : OpenClaim := { program := "ytllpeenjfjobaaa", sum := "c4144f2e224923720fa25aa79df990b0766fbaf3e221e6963fa58415b705762b", func := "huddle/huddlelaw26.ChunkJoins", spec := "chunkJoins", inPlace := ["internal/bytealg.MakeNoZero"], unfollowed := true, recurses := true, apart := false, narrowed := true }
def ChunkJoinsUptoSaid : Prop := chunkJoinsUptoRow.holds Try.pinned (OpenSpec.upto chunkJoinsSpec)

/-- 'huddlelaw26.ChunkOwn', WHERE WHAT IT READS IS OF BULK AT MOST 1048576: true; the input reads as it did. -/
def chunkOwnUptoRow : OpenClaim := { program := "ytllpeenjfjobaaa", sum := "c4144f2e224923720fa25aa79df990b0766fbaf3e221e6963fa58415b705762b", func := "huddle/huddlelaw26.ChunkOwn", spec := "chunkOwn", inPlace := ["internal/bytealg.MakeNoZero"], unfollowed := true, recurses := true, apart := false, narrowed := true }
def ChunkOwnUptoSaid : Prop := chunkOwnUptoRow.holds Try.pinned (OpenSpec.upto chunkOwnSpec)

end Rows
end Go.Proofs.Ytllpeenjfjobaaa
