/-
  No cell of these rows narrows 'for every input' (looked for: loops, veiled, ifaces, maps, wideKeys, modest, calm, conditions, laid).
  DERIVED. THE GIVEN ROWS OF THIS SEAT. 6 by the template 'for every input the law returns true; each argument reads behind the call as it read before'; 0 by the template 'total and deterministic' (their statements: YtpojkhjenbbodaaTotals.lean).
  GIVEN WITH THE SEED: the statements are not yours to turn. If you find one false, say at which input.
  Laid BY PROGRAM, IN A SANDBOX (cutbox-rows.mjs): the forced cells as the released guide's own fill.sh prints them over the translation 42b78a41336b39f7… (all of the seat's roots in one cut). By AI agents, Wed Nov 11 2026. No macro, syntax, notation, axiom, sorry.
-/
import Derived.Test.YtpojkhjenbbodaaChecked
import GoSem.Claim
import GoSem.ClaimJoined
import GoSem.ClaimMapViews
import Derived.JoinedTies
import Derived.KernelRfl
namespace Go.Proofs.Ytpojkhjenbbodaa
/- THE CELL 'sum', in the pinned program and in every row, IS THE sha256 OF THE DUMP (.gsa) THAT YtpojkhjenbbodaaProg.lean LOADS. Nothing in Lean hashes anything: it is a label: what it is worth is what the hold of that sum in a sandbox is worth. -/
noncomputable def Try.pinned : Pinned := { name := "ytpojkhjenbbodaa", sum := "42b78a41336b39f7950d487d1932267c1c409f33f66f86be2d1d07fd2aacc999", checked := Try.checked }
namespace Rows
def none {H : Type} : Left H := { results := [], args := [] }

/-- 'huddlelaw29.StoreCrash': WHATEVER THE INPUT: true; the input reads as it did. -/
def storeCrashSpec : ChangeSpec := { name := "storeCrash", fn := fun _ => fun
  | [d1, d2, d3, d4] => { results := [.lit (.bool true)], args := [d1, d2, d3, d4] }
  | _ => none }
def storeCrashRow : OpenClaim := { program := "ytpojkhjenbbodaa", sum := "42b78a41336b39f7950d487d1932267c1c409f33f66f86be2d1d07fd2aacc999", func := "huddle/huddlelaw29.StoreCrash", spec := "storeCrash", unfollowed := true, recurses := true, apart := false }
def StoreCrashSaid : Prop := storeCrashRow.holds Try.pinned (OpenSpec.ofChange storeCrashSpec)

/-- ITS FALSE NEIGHBOUR: 'it returns false'. Refute it at one input. -/
def storeCrashWrong : ChangeSpec := { name := "storeCrash", fn := fun _ => fun
  | [d1, d2, d3, d4] => { results := [.lit (.bool false)], args := [d1, d2, d3, d4] }
  | _ => none }
def StoreCrashWrongFalsely : Prop := storeCrashRow.holds Try.pinned (OpenSpec.ofChange storeCrashWrong)

/-- 'huddlelaw29.StoreErased': WHATEVER THE INPUT: true; the input reads as it did. -/
def storeErasedSpec : ChangeSpec := { name := "storeErased", fn := fun _ => fun
  | [d1, d2] => { results := [.lit (.bool true)], args := [d1, d2] }
  | _ => none }
def storeErasedRow : OpenClaim := { program := "ytpojkhjenbbodaa", sum := "42b78a41336b39f7950d487d1932267c1c409f33f66f86be2d1d07fd2aacc999", func := "huddle/huddlelaw29.StoreErased", spec := "storeErased", unfollowed := true, recurses := true, apart := false }
def StoreErasedSaid : Prop := storeErasedRow.holds Try.pinned (OpenSpec.ofChange storeErasedSpec)

/-- ITS FALSE NEIGHBOUR: 'it returns false'. Refute it at one input. -/
def storeErasedWrong : ChangeSpec := { name := "storeErased", fn := fun _ => fun
  | [d1, d2] => { results := [.lit (.bool false)], args := [d1, d2] }
  | _ => none }
def StoreErasedWrongFalsely : Prop := storeErasedRow.holds Try.pinned (OpenSpec.ofChange storeErasedWrong)

/-- 'huddlelaw29.StoreOwn': WHATEVER THE INPUT: true; the input reads as it did. -/
def storeOwnSpec : ChangeSpec := { name := "storeOwn", fn := fun _ => fun
  | [d1, d2] => { results := [.lit (.bool true)], args := [d1, d2] }
  | _ => none }
def storeOwnRow : OpenClaim := { program := "ytpojkhjenbbodaa", sum := "42b78a41336b39f7950d487d1932267c1c409f33f66f86be2d1d07fd2aacc999", func := "huddle/huddlelaw29.StoreOwn", spec := "storeOwn", unfollowed := true, recurses := true, apart := false }
def StoreOwnSaid : Prop := storeOwnRow.holds Try.pinned (OpenSpec.ofChange storeOwnSpec)

/-- ITS FALSE NEIGHBOUR: 'it returns false'. Refute it at one input. -/
def storeOwnWrong : ChangeSpec := { name := "storeOwn", fn := fun _ => fun
  | [d1, d2] => { results := [.lit (.bool false)], args := [d1, d2] }
  | _ => none }
def StoreOwnWrongFalsely : Prop := storeOwnRow.holds Try.pinned (OpenSpec.ofChange storeOwnWrong)

/-- 'huddlelaw29.StoreAgain': WHATEVER THE INPUT: true; the input reads as it did. -/
def storeAgainSpec : ChangeSpec := { name := "storeAgain", fn := fun _ => fun
  | [d1, d2] => { results := [.lit (.bool true)], args := [d1, d2] }
  | _ => none }
def storeAgainRow : OpenClaim := { program := "ytpojkhjenbbodaa", sum := "42b78a41336b39f7950d487d1932267c1c409f33f66f86be2d1d07fd2aacc999", func := "huddle/huddlelaw29.StoreAgain", spec := "storeAgain", unfollowed := true, recurses := true, apart := false }
def StoreAgainSaid : Prop := storeAgainRow.holds Try.pinned (OpenSpec.ofChange storeAgainSpec)

/-- ITS FALSE NEIGHBOUR: 'it returns false'. Refute it at one input. -/
def storeAgainWrong : ChangeSpec := { name := "storeAgain", fn := fun _ => fun
  | [d1, d2] => { results := [.lit (.bool false)], args := [d1, d2] }
  | _ => none }
def StoreAgainWrongFalsely : Prop := storeAgainRow.holds Try.pinned (OpenSpec.ofChange storeAgainWrong)

/-- 'huddlelaw29.StoreSmall': WHATEVER THE INPUT: true; the input reads as it did. -/
def storeSmallSpec : ChangeSpec := { name := "storeSmall", fn := fun _ => fun
  | [d1, d2] => { results := [.lit (.bool true)], args := [d1, d2] }
  | _ => none }
def storeSmallRow : OpenClaim := { program := "ytpojkhjenbbodaa", sum := "42b78a41336b39f7950d487d1932267c1c409f33f66f86be2d1d07fd2aacc999", func := "huddle/huddlelaw29.StoreSmall", spec := "storeSmall", unfollowed := true, recurses := true, apart := false }
def StoreSmallSaid : Prop := storeSmallRow.holds Try.pinned (OpenSpec.ofChange storeSmallSpec)

/-- ITS FALSE NEIGHBOUR: 'it returns false'. Refute it at one input. -/
def storeSmallWrong : ChangeSpec := { name := "storeSmall", fn := fun _ => fun
  | [d1, d2] => { results := [.lit (.bool false)], args := [d1, d2] }
  | _ => none }
def StoreSmallWrongFalsely : Prop := storeSmallRow.holds Try.pinned (OpenSpec.ofChange storeSmallWrong)

/-- 'huddlelaw29.StorePlays': WHATEVER THE INPUT: true; the input reads as it did. -/
def storePlaysSpec : ChangeSpec := { name := "storePlays", fn := fun _ => fun
  | [d1, d2] => { results := [.lit (.bool true)], args := [d1, d2] }
  | _ => none }
def storePlaysRow : OpenClaim := { program := "ytpojkhjenbbodaa", sum := "42b78a41336b39f7950d487d1932267c1c409f33f66f86be2d1d07fd2aacc999", func := "huddle/huddlelaw29.StorePlays", spec := "storePlays", unfollowed := true, recurses := true, apart := false }
def StorePlaysSaid : Prop := storePlaysRow.holds Try.pinned (OpenSpec.ofChange storePlaysSpec)

/-- ITS FALSE NEIGHBOUR: 'it returns false'. Refute it at one input. -/
def storePlaysWrong : ChangeSpec := { name := "storePlays", fn := fun _ => fun
  | [d1, d2] => { results := [.lit (.bool false)], args := [d1, d2] }
  | _ => none }
def StorePlaysWrongFalsely : Prop := storePlaysRow.holds Try.pinned (OpenSpec.ofChange storePlaysWrong)

/- THE SECOND FORM. 'bulk': how many values and letters a reading holds, each counted each time it is reached (what is shared counts as often as it is met; a slice's spare places count too). A statement '..UptoSaid' is the law's where the arguments, and the package variables that the reading takes, are together of bulk at most 1048576: NARROWER than '..Said'. Prove '..Said' where nothing that the law and all that it calls make is longer than what came in: it says more and counts as full. Else prove '..UptoSaid'. A law counts once. -/
mutual
def uptoBulk {H : Type} : DataW H → Nat
  | .lit (.string bytes) => bytes.length + 1
  | .lit _ => 1
  | .nil => 1
  | .ptr d => uptoBulk d + 1
  | .slice elems spare => uptoBulkAll elems + uptoBulkAll spare + 1
  | .agg parts => uptoBulkAll parts + 1
  | .iface _ d => uptoBulk d + 1
  | .map entries => uptoBulkEntries entries + 1
  | .held _ => 1
def uptoBulkAll {H : Type} : List (DataW H) → Nat
  | [] => 0
  | d :: r => uptoBulk d + uptoBulkAll r
def uptoBulkEntries {H : Type} : List (Lit × DataW H) → Nat
  | [] => 0
  | x :: r => uptoBulkEntry x + uptoBulkEntries r
def uptoBulkEntry {H : Type} : Lit × DataW H → Nat
  | (.string bytes, d) => bytes.length + uptoBulk d + 1
  | (_, d) => uptoBulk d + 1
 end
def uptoSmall : (H : Type) → List (DataW H) → Bool := fun _ ds => decide (uptoBulkAll ds ≤ 1048576)
def OpenSpec.upto (s : _root_.Go.ChangeSpec) : _root_.Go.OpenSpec := { _root_.Go.OpenSpec.ofChange s with cond := some uptoSmall }

/-- 'huddlelaw29.StoreCrash', WHERE WHAT IT READS IS OF BULK AT MOST 1048576: true; the input reads as it did. -/
def storeCrashUptoRow : OpenClaim := { program := "ytpojkhjenbbodaa", sum := "42b78a41336b39f7950d487d1932267c1c409f33f66f86be2d1d07fd2aacc999", func := "huddle/huddlelaw29.StoreCrash", spec := "storeCrash", unfollowed := true, recurses := true, apart := false, narrowed := true }
def StoreCrashUptoSaid : Prop := storeCrashUptoRow.holds Try.pinned (OpenSpec.upto storeCrashSpec)

/-- 'huddlelaw29.StoreErased', WHERE WHAT IT READS IS OF BULK AT MOST 1048576: true; the input reads as it did. -/
def storeErasedUptoRow : OpenClaim := { program := "ytpojkhjenbbodaa", sum := "42b78a41336b39f7950d487d1932267c1c409f33f66f86be2d1d07fd2aacc999", func := "huddle/huddlelaw29.StoreErased", spec := "storeErased", unfollowed := true, recurses := true, apart := false, narrowed := true }
def StoreErasedUptoSaid : Prop := storeErasedUptoRow.holds Try.pinned (OpenSpec.upto storeErasedSpec)

/-- 'huddlelaw29.StoreOwn', WHERE WHAT IT READS IS OF BULK AT MOST 1048576: true; the input reads as it did. -/
def storeOwnUptoRow : OpenClaim := { program := "ytpojkhjenbbodaa", sum := "42b78a41336b39f7950d487d1932267c1c409f33f66f86be2d1d07fd2aacc999", func := "huddle/huddlelaw29.StoreOwn", spec := "storeOwn", unfollowed := true, recurses := true, apart := false, narrowed := true }
def StoreOwnUptoSaid : Prop := storeOwnUptoRow.holds Try.pinned (OpenSpec.upto storeOwnSpec)

/-- 'huddlelaw29.StoreAgain', WHERE WHAT IT READS IS OF BULK AT MOST 1048576: true; the input reads as it did. -/
def storeAgainUptoRow : OpenClaim := { program := "ytpojkhjenbbodaa", sum := "42b78a41336b39f7950d487d1932267c1c409f33f66f86be2d1d07fd2aacc999", func := "huddle/huddlelaw29.StoreAgain", spec := "storeAgain", unfollowed := true, recurses := true, apart := false, narrowed := true }
def StoreAgainUptoSaid : Prop := storeAgainUptoRow.holds Try.pinned (OpenSpec.upto storeAgainSpec)

/-- 'huddlelaw29.StoreSmall', WHERE WHAT IT READS IS OF BULK AT MOST 1048576: true; the input reads as it did. -/
def storeSmallUptoRow : OpenClaim := { program := "ytpojkhjenbbodaa", sum := "42b78a41336b39f7950d487d1932267c1c409f33f66f86be2d1d07fd2aacc999", func := "huddle/huddlelaw29.StoreSmall", spec := "storeSmall", unfollowed := true, recurses := true, apart := false, narrowed := true }
def StoreSmallUptoSaid : Prop := storeSmallUptoRow.holds Try.pinned (OpenSpec.upto storeSmallSpec)

/-- 'huddlelaw29.StorePlays', WHERE WHAT IT READS IS OF BULK AT MOST 1048576: true; the input reads as it did. -/
def storePlaysUptoRow : OpenClaim := { program := "ytpojkhjenbbodaa", sum := "42b78a41336b39f7950d487d1932267c1c409f33f66f86be2d1d07fd2aacc999", func := "huddle/huddlelaw29.StorePlays", spec := "storePlays", unfollowed := true, recurses := true, apart := false, narrowed := true }
def StorePlaysUptoSaid : Prop := storePlaysUptoRow.holds Try.pinned (OpenSpec.upto storePlaysSpec)

end Rows
end Go.Proofs.Ytpojkhjenbbodaa
