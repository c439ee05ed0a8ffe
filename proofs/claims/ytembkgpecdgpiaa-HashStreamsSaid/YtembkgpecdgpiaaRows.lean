/-
  No cell of these rows narrows 'for every input' (looked for: loops, veiled, ifaces, maps, wideKeys, modest, calm, conditions, laid).
  DERIVED. THE GIVEN ROWS OF THIS SEAT. 8 by the template 'for every input the law returns true; each argument reads behind the call as it read before'; 0 by the template 'total and deterministic' (their statements: YtembkgpecdgpiaaTotals.lean).
  GIVEN WITH THE SEED: the statements are not yours to turn. If you find one false, say at which input.
  Laid BY PROGRAM, IN A SANDBOX (cutbox-rows.mjs): the forced cells as the released guide's own fill.sh prints them over the translation 435d2e1e3948b159… (all of the seat's roots in one cut). By AI agents, Wed Nov 11 2026. No macro, syntax, notation, axiom, sorry.
-/
import Derived.Test.YtembkgpecdgpiaaChecked
import GoSem.Claim
import GoSem.ClaimJoined
import GoSem.ClaimMapViews
import Derived.JoinedTies
import Derived.KernelRfl
namespace Go.Proofs.Ytembkgpecdgpiaa
/- THE CELL 'sum', in the pinned program and in every row, IS THE sha256 OF THE DUMP (.gsa) THAT YtembkgpecdgpiaaProg.lean LOADS. Nothing in Lean hashes anything: it is a label: what it is worth is what the hold of that sum in a sandbox is worth. -/
noncomputable def Try.pinned : Pinned := { name := "ytembkgpecdgpiaa", sum := "435d2e1e3948b15978c391453af697990a3eab362767195678571f397ddead65", checked := Try.checked }
namespace Rows
def none {H : Type} : Left H := { results := [], args := [] }

/-- 'huddlelaw02.HashSums': WHATEVER THE INPUT: true; the input reads as it did. -/
def hashSumsSpec : ChangeSpec := { name := "hashSums", fn := fun _ => fun
  | [d1, d2] => { results := [.lit (.bool true)], args := [d1, d2] }
  | _ => none }
def hashSumsRow : OpenClaim := { program := "ytembkgpecdgpiaa", sum := "435d2e1e3948b15978c391453af697990a3eab362767195678571f397ddead65", func := "huddle/huddlelaw02.HashSums", spec := "hashSums", unfollowed := true, recurses := true, apart := false }
def HashSumsSaid : Prop := hashSumsRow.holds Try.pinned (OpenSpec.ofChange hashSumsSpec)

/-- ITS FALSE NEIGHBOUR: 'it returns false'. Refute it at one input. -/
def hashSumsWrong : ChangeSpec := { name := "hashSums", fn := fun _ => fun
  | [d1, d2] => { results := [.lit (.bool false)], args := [d1, d2] }
  | _ => none }
def HashSumsWrongFalsely : Prop := hashSumsRow.holds Try.pinned (OpenSpec.ofChange hashSumsWrong)

/-- 'huddlelaw02.HashStreams': WHATEVER THE INPUT: true; the input reads as it did. -/
def hashStreamsSpec : ChangeSpec := { name := "hashStreams", fn := fun _ => fun
  | [d1, d2, d3] => { results := [.lit (.bool true)], args := [d1, d2, d3] }
  | _ => none }
def hashStreamsRow : OpenClaim := { program := "ytembkgpecdgpiaa", sum := "435d2e1e3948b15978c391453af697990a3eab362767195678571f397ddead65", func := "huddle/huddlelaw02.HashStreams", spec := "hashStreams", unfollowed := true, recurses := true, apart := false }
def HashStreamsSaid : Prop := hashStreamsRow.holds Try.pinned (OpenSpec.ofChange hashStreamsSpec)

/-- ITS FALSE NEIGHBOUR: 'it returns false'. Refute it at one input. -/
def hashStreamsWrong : ChangeSpec := { name := "hashStreams", fn := fun _ => fun
  | [d1, d2, d3] => { results := [.lit (.bool false)], args := [d1, d2, d3] }
  | _ => none }
def HashStreamsWrongFalsely : Prop := hashStreamsRow.holds Try.pinned (OpenSpec.ofChange hashStreamsWrong)

/-- 'huddlelaw02.HashOne': WHATEVER THE INPUT: true; the input reads as it did. -/
def hashOneSpec : ChangeSpec := { name := "hashOne", fn := fun _ => fun
  | [d1, d2, d3, d4] => { results := [.lit (.bool true)], args := [d1, d2, d3, d4] }
  | _ => none }
def hashOneRow : OpenClaim := { program := "ytembkgpecdgpiaa", sum := "435d2e1e3948b15978c391453af697990a3eab362767195678571f397ddead65", func := "huddle/huddlelaw02.HashOne", spec := "hashOne", unfollowed := true, recurses := true, apart := false }
def HashOneSaid : Prop := hashOneRow.holds Try.pinned (OpenSpec.ofChange hashOneSpec)

/-- ITS FALSE NEIGHBOUR: 'it returns false'. Refute it at one input. -/
def hashOneWrong : ChangeSpec := { name := "hashOne", fn := fun _ => fun
  | [d1, d2, d3, d4] => { results := [.lit (.bool false)], args := [d1, d2, d3, d4] }
  | _ => none }
def HashOneWrongFalsely : Prop := hashOneRow.holds Try.pinned (OpenSpec.ofChange hashOneWrong)

/-- 'huddlelaw02.HashBytes': WHATEVER THE INPUT: true; the input reads as it did. -/
def hashBytesSpec : ChangeSpec := { name := "hashBytes", fn := fun _ => fun
  | [d1, d2, d3] => { results := [.lit (.bool true)], args := [d1, d2, d3] }
  | _ => none }
def hashBytesRow : OpenClaim := { program := "ytembkgpecdgpiaa", sum := "435d2e1e3948b15978c391453af697990a3eab362767195678571f397ddead65", func := "huddle/huddlelaw02.HashBytes", spec := "hashBytes", unfollowed := true, recurses := true, apart := false }
def HashBytesSaid : Prop := hashBytesRow.holds Try.pinned (OpenSpec.ofChange hashBytesSpec)

/-- ITS FALSE NEIGHBOUR: 'it returns false'. Refute it at one input. -/
def hashBytesWrong : ChangeSpec := { name := "hashBytes", fn := fun _ => fun
  | [d1, d2, d3] => { results := [.lit (.bool false)], args := [d1, d2, d3] }
  | _ => none }
def HashBytesWrongFalsely : Prop := hashBytesRow.holds Try.pinned (OpenSpec.ofChange hashBytesWrong)

/-- 'huddlelaw02.HashModulo': WHATEVER THE INPUT: true; the input reads as it did. -/
def hashModuloSpec : ChangeSpec := { name := "hashModulo", fn := fun _ => fun
  | [d1, d2] => { results := [.lit (.bool true)], args := [d1, d2] }
  | _ => none }
def hashModuloRow : OpenClaim := { program := "ytembkgpecdgpiaa", sum := "435d2e1e3948b15978c391453af697990a3eab362767195678571f397ddead65", func := "huddle/huddlelaw02.HashModulo", spec := "hashModulo", unfollowed := true, recurses := true, apart := false }
def HashModuloSaid : Prop := hashModuloRow.holds Try.pinned (OpenSpec.ofChange hashModuloSpec)

/-- ITS FALSE NEIGHBOUR: 'it returns false'. Refute it at one input. -/
def hashModuloWrong : ChangeSpec := { name := "hashModulo", fn := fun _ => fun
  | [d1, d2] => { results := [.lit (.bool false)], args := [d1, d2] }
  | _ => none }
def HashModuloWrongFalsely : Prop := hashModuloRow.holds Try.pinned (OpenSpec.ofChange hashModuloWrong)

/-- 'huddlelaw02.HashByte': WHATEVER THE INPUT: true; the input reads as it did. -/
def hashByteSpec : ChangeSpec := { name := "hashByte", fn := fun _ => fun
  | [d1, d2, d3, d4, d5] => { results := [.lit (.bool true)], args := [d1, d2, d3, d4, d5] }
  | _ => none }
def hashByteRow : OpenClaim := { program := "ytembkgpecdgpiaa", sum := "435d2e1e3948b15978c391453af697990a3eab362767195678571f397ddead65", func := "huddle/huddlelaw02.HashByte", spec := "hashByte", unfollowed := true, recurses := true, apart := false }
def HashByteSaid : Prop := hashByteRow.holds Try.pinned (OpenSpec.ofChange hashByteSpec)

/-- ITS FALSE NEIGHBOUR: 'it returns false'. Refute it at one input. -/
def hashByteWrong : ChangeSpec := { name := "hashByte", fn := fun _ => fun
  | [d1, d2, d3, d4, d5] => { results := [.lit (.bool false)], args := [d1, d2, d3, d4, d5] }
  | _ => none }
def HashByteWrongFalsely : Prop := hashByteRow.holds Try.pinned (OpenSpec.ofChange hashByteWrong)

/-- 'huddlelaw02.HashOwn': WHATEVER THE INPUT: true; the input reads as it did. -/
def hashOwnSpec : ChangeSpec := { name := "hashOwn", fn := fun _ => fun
  | [d1, d2, d3] => { results := [.lit (.bool true)], args := [d1, d2, d3] }
  | _ => none }
def hashOwnRow : OpenClaim := { program := "ytembkgpecdgpiaa", sum := "435d2e1e3948b15978c391453af697990a3eab362767195678571f397ddead65", func := "huddle/huddlelaw02.HashOwn", spec := "hashOwn", unfollowed := true, recurses := true, apart := false }
def HashOwnSaid : Prop := hashOwnRow.holds Try.pinned (OpenSpec.ofChange hashOwnSpec)

/-- ITS FALSE NEIGHBOUR: 'it returns false'. Refute it at one input. -/
def hashOwnWrong : ChangeSpec := { name := "hashOwn", fn := fun _ => fun
  | [d1, d2, d3] => { results := [.lit (.bool false)], args := [d1, d2, d3] }
  | _ => none }
def HashOwnWrongFalsely : Prop := hashOwnRow.holds Try.pinned (OpenSpec.ofChange hashOwnWrong)

/-- 'huddlelaw02.HashWords': WHATEVER THE INPUT: true; the input reads as it did. -/
def hashWordsSpec : ChangeSpec := { name := "hashWords", fn := fun _ => fun
  | [d1, d2] => { results := [.lit (.bool true)], args := [d1, d2] }
  | _ => none }
def hashWordsRow : OpenClaim := { program := "ytembkgpecdgpiaa", sum := "435d2e1e3948b15978c391453af697990a3eab362767195678571f397ddead65", func := "huddle/huddlelaw02.HashWords", spec := "hashWords", unfollowed := true, recurses := true, apart := false }
def HashWordsSaid : Prop := hashWordsRow.holds Try.pinned (OpenSpec.ofChange hashWordsSpec)

/-- ITS FALSE NEIGHBOUR: 'it returns false'. Refute it at one input. -/
def hashWordsWrong : ChangeSpec := { name := "hashWords", fn := fun _ => fun
  | [d1, d2] => { results := [.lit (.bool false)], args := [d1, d2] }
  | _ => none }
def HashWordsWrongFalsely : Prop := hashWordsRow.holds Try.pinned (OpenSpec.ofChange hashWordsWrong)

/- THE SECOND FORM. 'bulk': how many values and letters a reading holds, each counted each time it is reached (what is shared counts as often as it is met; a slice's spare places count too). A statement '..UptoSaid' is the law's where the arguments, and the package variables that the reading takes, are together of bulk at most 1048576: NARROWER than '..Said'. Prove '..Said' where nothing that the law and all that it calls make is longer than what came in: it says more and counts as full. Else prove '..UptoSaid'. A law counts once. -/
mutual
def uptoBulk {H : Type} : DataW H → Nat
  | .lit (.string bytes) => bytes.length + 1
  | .lit _ => 1
  | .nil => 1
  | .ptr d => uptoBulk d + 1
  | .slice elems spare => uptoBulkAll elems + uptoBulkAll spare + 1
  | .agg parts => uptoBulkAll parts + 1
  | .iface _ d => uptoBulk d + 1
  | .map entries => uptoBulkEntries entries + 1
  | .held _ => 1
def uptoBulkAll {H : Type} : List (DataW H) → Nat
  | [] => 0
  | d :: r => uptoBulk d + uptoBulkAll r
def uptoBulkEntries {H : Type} : List (Lit × DataW H) → Nat
  | [] => 0
  | x :: r => uptoBulkEntry x + uptoBulkEntries r
def uptoBulkEntry {H : Type} : Lit × DataW H → Nat
  | (.string bytes, d) => bytes.length + uptoBulk d + 1
  | (_, d) => uptoBulk d + 1
 end
def uptoSmall : (H : Type) → List (DataW H) → Bool := fun _ ds => decide (uptoBulkAll ds ≤ 1048576)
def OpenSpec.upto (s : _root_.Go.ChangeSpec) : _root_.Go.OpenSpec := { _root_.Go.OpenSpec.ofChange s with cond := some uptoSmall }

/-- 'huddlelaw02.HashSums', WHERE WHAT IT READS IS OF BULK AT MOST 1048576: true; the input reads as it did. -/
def hashSumsUptoRow : OpenClaim := { program := "ytembkgpecdgpiaa", sum := "435d2e1e3948b15978c391453af697990a3eab362767195678571f397ddead65", func := "huddle/huddlelaw02.HashSums", spec := "hashSums", unfollowed := true, recurses := true, apart := false, narrowed := true }
def HashSumsUptoSaid : Prop := hashSumsUptoRow.holds Try.pinned (OpenSpec.upto hashSumsSpec)

/-- 'huddlelaw02.HashStreams', WHERE WHAT IT READS IS OF BULK AT MOST 1048576: true; the input reads as it did. -/
def hashStreamsUptoRow : OpenClaim := { program := "ytembkgpecdgpiaa", sum := "435d2e1e3948b15978c391453af697990a3eab362767195678571f397ddead65", func := "huddle/huddlelaw02.HashStreams", spec := "hashStreams", unfollowed := true, recurses := true, apart := false, narrowed := true }
def HashStreamsUptoSaid : Prop := hashStreamsUptoRow.holds Try.pinned (OpenSpec.upto hashStreamsSpec)

/-- 'huddlelaw02.HashOne', WHERE WHAT IT READS IS OF BULK AT MOST 1048576: true; the input reads as it did. -/
def hashOneUptoRow : OpenClaim := { program := "ytembkgpecdgpiaa", sum := "435d2e1e3948b15978c391453af697990a3eab362767195678571f397ddead65", func := "huddle/huddlelaw02.HashOne", spec := "hashOne", unfollowed := true, recurses := true, apart := false, narrowed := true }
def HashOneUptoSaid : Prop := hashOneUptoRow.holds Try.pinned (OpenSpec.upto hashOneSpec)

/-- 'huddlelaw02.HashBytes', WHERE WHAT IT READS IS OF BULK AT MOST 1048576: true; the input reads as it did. -/
def hashBytesUptoRow : OpenClaim := { program := "ytembkgpecdgpiaa", sum := "435d2e1e3948b15978c391453af697990a3eab362767195678571f397ddead65", func := "huddle/huddlelaw02.HashBytes", spec := "hashBytes", unfollowed := true, recurses := true, apart := false, narrowed := true }
def HashBytesUptoSaid : Prop := hashBytesUptoRow.holds Try.pinned (OpenSpec.upto hashBytesSpec)

/-- 'huddlelaw02.HashModulo', WHERE WHAT IT READS IS OF BULK AT MOST 1048576: true; the input reads as it did. -/
def hashModuloUptoRow : OpenClaim := { program := "ytembkgpecdgpiaa", sum := "435d2e1e3948b15978c391453af697990a3eab362767195678571f397ddead65", func := "huddle/huddlelaw02.HashModulo", spec := "hashModulo", unfollowed := true, recurses := true, apart := false, narrowed := true }
def HashModuloUptoSaid : Prop := hashModuloUptoRow.holds Try.pinned (OpenSpec.upto hashModuloSpec)

/-- 'huddlelaw02.HashByte', WHERE WHAT IT READS IS OF BULK AT MOST 1048576: true; the input reads as it did. -/
def hashByteUptoRow : OpenClaim := { program := "ytembkgpecdgpiaa", sum := "435d2e1e3948b15978c391453af697990a3eab362767195678571f397ddead65", func := "huddle/huddlelaw02.HashByte", spec := "hashByte", unfollowed := true, recurses := true, apart := false, narrowed := true }
def HashByteUptoSaid : Prop := hashByteUptoRow.holds Try.pinned (OpenSpec.upto hashByteSpec)

/-- 'huddlelaw02.HashOwn', WHERE WHAT IT READS IS OF BULK AT MOST 1048576: true; the input reads as it did. -/
def hashOwnUptoRow : OpenClaim := { program := "ytembkgpecdgpiaa", sum := "435d2e1e3948b15978c391453af697990a3eab362767195678571f397ddead65", func := "huddle/huddlelaw02.HashOwn", spec := "hashOwn", unfollowed := true, recurses := true, apart := false, narrowed := true }
def HashOwnUptoSaid : Prop := hashOwnUptoRow.holds Try.pinned (OpenSpec.upto hashOwnSpec)

/-- 'huddlelaw02.HashWords', WHERE WHAT IT READS IS OF BULK AT MOST 1048576: true; the input reads as it did. -/
def hashWordsUptoRow : OpenClaim := { program := "ytembkgpecdgpiaa", sum := "435d2e1e3948b15978c391453af697990a3eab362767195678571f397ddead65", func := "huddle/huddlelaw02.HashWords", spec := "hashWords", unfollowed := true, recurses := true, apart := false, narrowed := true }
def HashWordsUptoSaid : Prop := hashWordsUptoRow.holds Try.pinned (OpenSpec.upto hashWordsSpec)

end Rows
end Go.Proofs.Ytembkgpecdgpiaa
