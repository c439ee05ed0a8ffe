/-
  No cell of these rows narrows 'for every input' (looked for: loops, veiled, ifaces, maps, wideKeys, modest, calm, conditions, laid).
  DERIVED. THE GIVEN ROWS OF THIS SEAT. 7 by the template 'for every input the law returns true; each argument reads behind the call as it read before'; 0 by the template 'total and deterministic' (their statements: YtgmdiekjefgikaaTotals.lean).
  GIVEN WITH THE SEED: the statements are not yours to turn. If you find one false, say at which input.
  Laid BY PROGRAM, IN A SANDBOX (cutbox-rows.mjs): the forced cells as the released guide's own fill.sh prints them over the translation f1819297c0d80b90… (all of the seat's roots in one cut). By AI agents, Wed Nov 11 2026. No macro, syntax, notation, axiom, sorry.
-/
import Derived.Test.YtgmdiekjefgikaaChecked
import GoSem.Claim
import GoSem.ClaimJoined
import GoSem.ClaimMapViews
import Derived.JoinedTies
import Derived.KernelRfl
namespace Go.Proofs.Ytgmdiekjefgikaa
/- THE CELL 'sum', in the pinned program and in every row, IS THE sha256 OF THE DUMP (.gsa) THAT YtgmdiekjefgikaaProg.lean LOADS. Nothing in Lean hashes anything: it is a label: what it is worth is what the hold of that sum in a sandbox is worth. -/
noncomputable def Try.pinned : Pinned := { name := "ytgmdiekjefgikaa", sum := "f1819297c0d80b901df569f84f7ec9fe27655b696fe4720b8df6eb0055cea70c", checked := Try.checked }
namespace Rows
def none {H : Type} : Left H := { results := [], args := [] }

/-- 'huddlelaw03.DrawPlays': WHATEVER THE INPUT: true; the input reads as it did. -/
def drawPlaysSpec : ChangeSpec := { name := "drawPlays", fn := fun _ => fun
  | [d1, d2, d3, d4] => { results := [.lit (.bool true)], args := [d1, d2, d3, d4] }
  | _ => none }
def drawPlaysRow : OpenClaim := { program := "ytgmdiekjefgikaa", sum := "f1819297c0d80b901df569f84f7ec9fe27655b696fe4720b8df6eb0055cea70c", func := "huddle/huddlelaw03.DrawPlays", spec := "drawPlays", unfollowed := true, recurses := true, apart := false }
def DrawPlaysSaid : Prop := drawPlaysRow.holds Try.pinned (OpenSpec.ofChange drawPlaysSpec)

/-- ITS FALSE NEIGHBOUR: 'it returns false'. Refute it at one input. -/
def drawPlaysWrong : ChangeSpec := { name := "drawPlays", fn := fun _ => fun
  | [d1, d2, d3, d4] => { results := [.lit (.bool false)], args := [d1, d2, d3, d4] }
  | _ => none }
def DrawPlaysWrongFalsely : Prop := drawPlaysRow.holds Try.pinned (OpenSpec.ofChange drawPlaysWrong)

/-- 'huddlelaw03.DrawSecrets': WHATEVER THE INPUT: true; the input reads as it did. -/
def drawSecretsSpec : ChangeSpec := { name := "drawSecrets", fn := fun _ => fun
  | [d1, d2, d3] => { results := [.lit (.bool true)], args := [d1, d2, d3] }
  | _ => none }
def drawSecretsRow : OpenClaim := { program := "ytgmdiekjefgikaa", sum := "f1819297c0d80b901df569f84f7ec9fe27655b696fe4720b8df6eb0055cea70c", func := "huddle/huddlelaw03.DrawSecrets", spec := "drawSecrets", unfollowed := true, recurses := true, apart := false }
def DrawSecretsSaid : Prop := drawSecretsRow.holds Try.pinned (OpenSpec.ofChange drawSecretsSpec)

/-- ITS FALSE NEIGHBOUR: 'it returns false'. Refute it at one input. -/
def drawSecretsWrong : ChangeSpec := { name := "drawSecrets", fn := fun _ => fun
  | [d1, d2, d3] => { results := [.lit (.bool false)], args := [d1, d2, d3] }
  | _ => none }
def DrawSecretsWrongFalsely : Prop := drawSecretsRow.holds Try.pinned (OpenSpec.ofChange drawSecretsWrong)

/-- 'huddlelaw03.DrawAgain': WHATEVER THE INPUT: true; the input reads as it did. -/
def drawAgainSpec : ChangeSpec := { name := "drawAgain", fn := fun _ => fun
  | [d1, d2, d3] => { results := [.lit (.bool true)], args := [d1, d2, d3] }
  | _ => none }
def drawAgainRow : OpenClaim := { program := "ytgmdiekjefgikaa", sum := "f1819297c0d80b901df569f84f7ec9fe27655b696fe4720b8df6eb0055cea70c", func := "huddle/huddlelaw03.DrawAgain", spec := "drawAgain", unfollowed := true, recurses := true, apart := false }
def DrawAgainSaid : Prop := drawAgainRow.holds Try.pinned (OpenSpec.ofChange drawAgainSpec)

/-- ITS FALSE NEIGHBOUR: 'it returns false'. Refute it at one input. -/
def drawAgainWrong : ChangeSpec := { name := "drawAgain", fn := fun _ => fun
  | [d1, d2, d3] => { results := [.lit (.bool false)], args := [d1, d2, d3] }
  | _ => none }
def DrawAgainWrongFalsely : Prop := drawAgainRow.holds Try.pinned (OpenSpec.ofChange drawAgainWrong)

/-- 'huddlelaw03.DrawBehind': WHATEVER THE INPUT: true; the input reads as it did. -/
def drawBehindSpec : ChangeSpec := { name := "drawBehind", fn := fun _ => fun
  | [d1, d2, d3, d4] => { results := [.lit (.bool true)], args := [d1, d2, d3, d4] }
  | _ => none }
def drawBehindRow : OpenClaim := { program := "ytgmdiekjefgikaa", sum := "f1819297c0d80b901df569f84f7ec9fe27655b696fe4720b8df6eb0055cea70c", func := "huddle/huddlelaw03.DrawBehind", spec := "drawBehind", unfollowed := true, recurses := true, apart := false }
def DrawBehindSaid : Prop := drawBehindRow.holds Try.pinned (OpenSpec.ofChange drawBehindSpec)

/-- ITS FALSE NEIGHBOUR: 'it returns false'. Refute it at one input. -/
def drawBehindWrong : ChangeSpec := { name := "drawBehind", fn := fun _ => fun
  | [d1, d2, d3, d4] => { results := [.lit (.bool false)], args := [d1, d2, d3, d4] }
  | _ => none }
def DrawBehindWrongFalsely : Prop := drawBehindRow.holds Try.pinned (OpenSpec.ofChange drawBehindWrong)

/-- 'huddlelaw03.DrawBelow': WHATEVER THE INPUT: true; the input reads as it did. -/
def drawBelowSpec : ChangeSpec := { name := "drawBelow", fn := fun _ => fun
  | [d1, d2, d3] => { results := [.lit (.bool true)], args := [d1, d2, d3] }
  | _ => none }
def drawBelowRow : OpenClaim := { program := "ytgmdiekjefgikaa", sum := "f1819297c0d80b901df569f84f7ec9fe27655b696fe4720b8df6eb0055cea70c", func := "huddle/huddlelaw03.DrawBelow", spec := "drawBelow", unfollowed := true, recurses := true, apart := false }
def DrawBelowSaid : Prop := drawBelowRow.holds Try.pinned (OpenSpec.ofChange drawBelowSpec)

/-- ITS FALSE NEIGHBOUR: 'it returns false'. Refute it at one input. -/
def drawBelowWrong : ChangeSpec := { name := "drawBelow", fn := fun _ => fun
  | [d1, d2, d3] => { results := [.lit (.bool false)], args := [d1, d2, d3] }
  | _ => none }
def DrawBelowWrongFalsely : Prop := drawBelowRow.holds Try.pinned (OpenSpec.ofChange drawBelowWrong)

/-- 'huddlelaw03.DrawEven': WHATEVER THE INPUT: true; the input reads as it did. -/
def drawEvenSpec : ChangeSpec := { name := "drawEven", fn := fun _ => fun
  | [d1, d2] => { results := [.lit (.bool true)], args := [d1, d2] }
  | _ => none }
def drawEvenRow : OpenClaim := { program := "ytgmdiekjefgikaa", sum := "f1819297c0d80b901df569f84f7ec9fe27655b696fe4720b8df6eb0055cea70c", func := "huddle/huddlelaw03.DrawEven", spec := "drawEven", unfollowed := true, recurses := true, apart := false }
def DrawEvenSaid : Prop := drawEvenRow.holds Try.pinned (OpenSpec.ofChange drawEvenSpec)

/-- ITS FALSE NEIGHBOUR: 'it returns false'. Refute it at one input. -/
def drawEvenWrong : ChangeSpec := { name := "drawEven", fn := fun _ => fun
  | [d1, d2] => { results := [.lit (.bool false)], args := [d1, d2] }
  | _ => none }
def DrawEvenWrongFalsely : Prop := drawEvenRow.holds Try.pinned (OpenSpec.ofChange drawEvenWrong)

/-- 'huddlelaw03.DrawOwns': WHATEVER THE INPUT: true; the input reads as it did. -/
def drawOwnsSpec : ChangeSpec := { name := "drawOwns", fn := fun _ => fun
  | [d1, d2, d3] => { results := [.lit (.bool true)], args := [d1, d2, d3] }
  | _ => none }
def drawOwnsRow : OpenClaim := { program := "ytgmdiekjefgikaa", sum := "f1819297c0d80b901df569f84f7ec9fe27655b696fe4720b8df6eb0055cea70c", func := "huddle/huddlelaw03.DrawOwns", spec := "drawOwns", unfollowed := true, recurses := true, apart := false }
def DrawOwnsSaid : Prop := drawOwnsRow.holds Try.pinned (OpenSpec.ofChange drawOwnsSpec)

/-- ITS FALSE NEIGHBOUR: 'it returns false'. Refute it at one input. -/
def drawOwnsWrong : ChangeSpec := { name := "drawOwns", fn := fun _ => fun
  | [d1, d2, d3] => { results := [.lit (.bool false)], args := [d1, d2, d3] }
  | _ => none }
def DrawOwnsWrongFalsely : Prop := drawOwnsRow.holds Try.pinned (OpenSpec.ofChange drawOwnsWrong)

/- THE SECOND FORM. 'bulk': how many values and letters a reading holds, each counted each time it is reached (what is shared counts as often as it is met; a slice's spare places count too). A statement '..UptoSaid' is the law's where the arguments, and the package variables that the reading takes, are together of bulk at most 1048576: NARROWER than '..Said'. Prove '..Said' where nothing that the law and all that it calls make is longer than what came in: it says more and counts as full. Else prove '..UptoSaid'. A law counts once. -/
mutual
def uptoBulk {H : Type} : DataW H → Nat
  | .lit (.string bytes) => bytes.length + 1
  | .lit _ => 1
  | .nil => 1
  | .ptr d => uptoBulk d + 1
  | .slice elems spare => uptoBulkAll elems + uptoBulkAll spare + 1
  | .agg parts => uptoBulkAll parts + 1
  | .iface _ d => uptoBulk d + 1
  | .map entries => uptoBulkEntries entries + 1
  | .held _ => 1
def uptoBulkAll {H : Type} : List (DataW H) → Nat
  | [] => 0
  | d :: r => uptoBulk d + uptoBulkAll r
def uptoBulkEntries {H : Type} : List (Lit × DataW H) → Nat
  | [] => 0
  | x :: r => uptoBulkEntry x + uptoBulkEntries r
def uptoBulkEntry {H : Type} : Lit × DataW H → Nat
  | (.string bytes, d) => bytes.length + uptoBulk d + 1
  | (_, d) => uptoBulk d + 1
 end
def uptoSmall : (H : Type) → List (DataW H) → Bool := fun _ ds => decide (uptoBulkAll ds ≤ 1048576)
def OpenSpec.upto (s : _root_.Go.ChangeSpec) : _root_.Go.OpenSpec := { _root_.Go.OpenSpec.ofChange s with cond := some uptoSmall }

/-- 'huddlelaw03.DrawPlays', WHERE WHAT IT READS IS OF BULK AT MOST 1048576: true; the input reads as it did. -/
def drawPlaysUptoRow : OpenClaim := { program := "ytgmdiekjefgikaa", sum := "f1819297c0d80b901df569f84f7ec9fe27655b696fe4720b8df6eb0055cea70c", func := "huddle/huddlelaw03.DrawPlays", spec := "drawPlays", unfollowed := true, recurses := true, apart := false, narrowed := true }
def DrawPlaysUptoSaid : Prop := drawPlaysUptoRow.holds Try.pinned (OpenSpec.upto drawPlaysSpec)

/-- 'huddlelaw03.DrawSecrets', WHERE WHAT IT READS IS OF BULK AT MOST 1048576: true; the input reads as it did. -/
def drawSecretsUptoRow : OpenClaim := { program := "ytgmdiekjefgikaa", sum := "f1819297c0d80b901df569f84f7ec9fe27655b696fe4720b8df6eb0055cea70c", func := "huddle/huddlelaw03.DrawSecrets", spec := "drawSecrets", unfollowed := true, recurses := true, apart := false, narrowed := true }
def DrawSecretsUptoSaid : Prop := drawSecretsUptoRow.holds Try.pinned (OpenSpec.upto drawSecretsSpec)

/-- 'huddlelaw03.DrawAgain', WHERE WHAT IT READS IS OF BULK AT MOST 1048576: true; the input reads as it did. -/
def drawAgainUptoRow : OpenClaim := { program := "ytgmdiekjefgikaa", sum := "f1819297c0d80b901df569f84f7ec9fe27655b696fe4720b8df6eb0055cea70c", func := "huddle/huddlelaw03.DrawAgain", spec := "drawAgain", unfollowed := true, recurses := true, apart := false, narrowed := true }
def DrawAgainUptoSaid : Prop := drawAgainUptoRow.holds Try.pinned (OpenSpec.upto drawAgainSpec)

/-- 'huddlelaw03.DrawBehind', WHERE WHAT IT READS IS OF BULK AT MOST 1048576: true; the input reads as it did. -/
def drawBehindUptoRow : OpenClaim := { program := "ytgmdiekjefgikaa", sum := "f1819297c0d80b901df569f84f7ec9fe27655b696fe4720b8df6eb0055cea70c", func := "huddle/huddlelaw03.DrawBehind", spec := "drawBehind", unfollowed := true, recurses := true, apart := false, narrowed := true }
def DrawBehindUptoSaid : Prop := drawBehindUptoRow.holds Try.pinned (OpenSpec.upto drawBehindSpec)

/-- 'huddlelaw03.DrawBelow', WHERE WHAT IT READS IS OF BULK AT MOST 1048576: true; the input reads as it did. -/
def drawBelowUptoRow : OpenClaim := { program := "ytgmdiekjefgikaa", sum := "f1819297c0d80b901df569f84f7ec9fe27655b696fe4720b8df6eb0055cea70c", func := "huddle/huddlelaw03.DrawBelow", spec := "drawBelow", unfollowed := true, recurses := true, apart := false, narrowed := true }
def DrawBelowUptoSaid : Prop := drawBelowUptoRow.holds Try.pinned (OpenSpec.upto drawBelowSpec)

/-- 'huddlelaw03.DrawEven', WHERE WHAT IT READS IS OF BULK AT MOST 1048576: true; the input reads as it did. -/
def drawEvenUptoRow : OpenClaim := { program := "ytgmdiekjefgikaa", sum := "f1819297c0d80b901df569f84f7ec9fe27655b696fe4720b8df6eb0055cea70c", func := "huddle/huddlelaw03.DrawEven", spec := "drawEven", unfollowed := true, recurses := true, apart := false, narrowed := true }
def DrawEvenUptoSaid : Prop := drawEvenUptoRow.holds Try.pinned (OpenSpec.upto drawEvenSpec)

/-- 'huddlelaw03.DrawOwns', WHERE WHAT IT READS IS OF BULK AT MOST 1048576: true; the input reads as it did. -/
def drawOwnsUptoRow : OpenClaim := { program := "ytgmdiekjefgikaa", sum := "f1819297c0d80b901df569f84f7ec9fe27655b696fe4720b8df6eb0055cea70c", func := "huddle/huddlelaw03.DrawOwns", spec := "drawOwns", unfollowed := true, recurses := true, apart := false, narrowed := true }
def DrawOwnsUptoSaid : Prop := drawOwnsUptoRow.holds Try.pinned (OpenSpec.upto drawOwnsSpec)

end Rows
end Go.Proofs.Ytgmdiekjefgikaa
