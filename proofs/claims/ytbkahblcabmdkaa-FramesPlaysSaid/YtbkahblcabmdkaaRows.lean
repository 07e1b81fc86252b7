/-
  No cell of these rows narrows 'for every input' (looked for: loops, veiled, ifaces, maps, wideKeys, modest, calm, conditions, laid).
  DERIVED. THE GIVEN ROWS OF THIS SEAT. 6 by the template 'for every input the law returns true; each argument reads behind the call as it read before'; 0 by the template 'total and deterministic' (their statements: YtbkahblcabmdkaaTotals.lean).
  GIVEN WITH THE SEED: the statements are not yours to turn. If you find one false, say at which input.
  Laid BY PROGRAM, IN A SANDBOX (cutbox-rows.mjs): the forced cells as the released guide's own fill.sh prints them over the translation 93e7683153c68d5b… (all of the seat's roots in one cut). By AI agents, Wed Nov 11 2026. No macro, syntax, notation, axiom, sorry.
-/
import Derived.Test.YtbkahblcabmdkaaChecked
import GoSem.Claim
import GoSem.ClaimJoined
import GoSem.ClaimMapViews
import Derived.JoinedTies
import Derived.KernelRfl
namespace Go.Proofs.Ytbkahblcabmdkaa
/- THE CELL 'sum', in the pinned program and in every row, IS THE sha256 OF THE DUMP (.gsa) THAT YtbkahblcabmdkaaProg.lean LOADS. Nothing in Lean hashes anything: it is a label: what it is worth is what the hold of that sum in a sandbox is worth. -/
noncomputable def Try.pinned : Pinned := { name := "ytbkahblcabmdkaa", sum := "93e7683153c68d5bdfe8a301dd826f11df8bc1ec0af7accae9c0e469b3eb8a8d", checked := Try.checked }
namespace Rows
def none {H : Type} : Left H := { results := [], args := [] }

/-- 'glacislaw16.FramesNames': WHATEVER THE INPUT: true; the input reads as it did. -/
def framesNamesSpec : ChangeSpec := { name := "framesNames", fn := fun _ => fun
  | [] => { results := [.lit (.bool true)], args := [] }
  | _ => none }
def framesNamesRow : OpenClaim := { program := "ytbkahblcabmdkaa", sum := "93e7683153c68d5bdfe8a301dd826f11df8bc1ec0af7accae9c0e469b3eb8a8d", func := "glacis/glacislaw16.FramesNames", spec := "framesNames", inPlace := ["sync/atomic.AddInt64"], unfollowed := true, recurses := true, apart := false }
def FramesNamesSaid : Prop := framesNamesRow.holds Try.pinned (OpenSpec.ofChange framesNamesSpec)

/-- ITS FALSE NEIGHBOUR: 'it returns false'. Refute it at one input. -/
def framesNamesWrong : ChangeSpec := { name := "framesNames", fn := fun _ => fun
  | [] => { results := [.lit (.bool false)], args := [] }
  | _ => none }
def FramesNamesWrongFalsely : Prop := framesNamesRow.holds Try.pinned (OpenSpec.ofChange framesNamesWrong)

/-- 'glacislaw16.FramesGone': WHATEVER THE INPUT: true; the input reads as it did. -/
def framesGoneSpec : ChangeSpec := { name := "framesGone", fn := fun _ => fun
  | [d1, d2, d3] => { results := [.lit (.bool true)], args := [d1, d2, d3] }
  | _ => none }
def framesGoneRow : OpenClaim := { program := "ytbkahblcabmdkaa", sum := "93e7683153c68d5bdfe8a301dd826f11df8bc1ec0af7accae9c0e469b3eb8a8d", func := "glacis/glacislaw16.FramesGone", spec := "framesGone", inPlace := ["sync/atomic.AddInt64"], unfollowed := true, recurses := true, apart := false }
def FramesGoneSaid : Prop := framesGoneRow.holds Try.pinned (OpenSpec.ofChange framesGoneSpec)

/-- ITS FALSE NEIGHBOUR: 'it returns false'. Refute it at one input. -/
def framesGoneWrong : ChangeSpec := { name := "framesGone", fn := fun _ => fun
  | [d1, d2, d3] => { results := [.lit (.bool false)], args := [d1, d2, d3] }
  | _ => none }
def FramesGoneWrongFalsely : Prop := framesGoneRow.holds Try.pinned (OpenSpec.ofChange framesGoneWrong)

/-- 'glacislaw16.FramesFull': WHATEVER THE INPUT: true; the input reads as it did. -/
def framesFullSpec : ChangeSpec := { name := "framesFull", fn := fun _ => fun
  | [d1, d2] => { results := [.lit (.bool true)], args := [d1, d2] }
  | _ => none }
def framesFullRow : OpenClaim := { program := "ytbkahblcabmdkaa", sum := "93e7683153c68d5bdfe8a301dd826f11df8bc1ec0af7accae9c0e469b3eb8a8d", func := "glacis/glacislaw16.FramesFull", spec := "framesFull", inPlace := ["sync/atomic.AddInt64"], unfollowed := true, recurses := true, apart := false }
def FramesFullSaid : Prop := framesFullRow.holds Try.pinned (OpenSpec.ofChange framesFullSpec)

/-- ITS FALSE NEIGHBOUR: 'it returns false'. Refute it at one input. -/
def framesFullWrong : ChangeSpec := { name := "framesFull", fn := fun _ => fun
  | [d1, d2] => { results := [.lit (.bool false)], args := [d1, d2] }
  | _ => none }
def FramesFullWrongFalsely : Prop := framesFullRow.holds Try.pinned (OpenSpec.ofChange framesFullWrong)

/-- 'glacislaw16.FramesPlays': WHATEVER THE INPUT: true; the input reads as it did. -/
def framesPlaysSpec : ChangeSpec := { name := "framesPlays", fn := fun _ => fun
  | [d1, d2, d3] => { results := [.lit (.bool true)], args := [d1, d2, d3] }
  | _ => none }
def framesPlaysRow : OpenClaim := { program := "ytbkahblcabmdkaa", sum := "93e7683153c68d5bdfe8a301dd826f11df8bc1ec0af7accae9c0e469b3eb8a8d", func := "glacis/glacislaw16.FramesPlays", spec := "framesPlays", inPlace := ["sync/atomic.AddInt64"], unfollowed := true, recurses := true, apart := false }
def FramesPlaysSaid : Prop := framesPlaysRow.holds Try.pinned (OpenSpec.ofChange framesPlaysSpec)

/-- ITS FALSE NEIGHBOUR: 'it returns false'. Refute it at one input. -/
def framesPlaysWrong : ChangeSpec := { name := "framesPlays", fn := fun _ => fun
  | [d1, d2, d3] => { results := [.lit (.bool false)], args := [d1, d2, d3] }
  | _ => none }
def FramesPlaysWrongFalsely : Prop := framesPlaysRow.holds Try.pinned (OpenSpec.ofChange framesPlaysWrong)

/-- 'glacislaw16.FramesTree': WHATEVER THE INPUT: true; the input reads as it did. -/
def framesTreeSpec : ChangeSpec := { name := "framesTree", fn := fun _ => fun
  | [d1, d2] => { results := [.lit (.bool true)], args := [d1, d2] }
  | _ => none }
def framesTreeRow : OpenClaim := { program := "ytbkahblcabmdkaa", sum := "93e7683153c68d5bdfe8a301dd826f11df8bc1ec0af7accae9c0e469b3eb8a8d", func := "glacis/glacislaw16.FramesTree", spec := "framesTree", inPlace := ["sync/atomic.AddInt64"], unfollowed := true, recurses := true, apart := false }
def FramesTreeSaid : Prop := framesTreeRow.holds Try.pinned (OpenSpec.ofChange framesTreeSpec)

/-- ITS FALSE NEIGHBOUR: 'it returns false'. Refute it at one input. -/
def framesTreeWrong : ChangeSpec := { name := "framesTree", fn := fun _ => fun
  | [d1, d2] => { results := [.lit (.bool false)], args := [d1, d2] }
  | _ => none }
def FramesTreeWrongFalsely : Prop := framesTreeRow.holds Try.pinned (OpenSpec.ofChange framesTreeWrong)

/-- 'glacislaw16.FramesNil': WHATEVER THE INPUT: true; the input reads as it did. -/
def framesNilSpec : ChangeSpec := { name := "framesNil", fn := fun _ => fun
  | [d] => { results := [.lit (.bool true)], args := [d] }
  | _ => none }
def framesNilRow : OpenClaim := { program := "ytbkahblcabmdkaa", sum := "93e7683153c68d5bdfe8a301dd826f11df8bc1ec0af7accae9c0e469b3eb8a8d", func := "glacis/glacislaw16.FramesNil", spec := "framesNil", inPlace := ["sync/atomic.AddInt64"], unfollowed := true, recurses := true, apart := false }
def FramesNilSaid : Prop := framesNilRow.holds Try.pinned (OpenSpec.ofChange framesNilSpec)

/-- ITS FALSE NEIGHBOUR: 'it returns false'. Refute it at one input. -/
def framesNilWrong : ChangeSpec := { name := "framesNil", fn := fun _ => fun
  | [d] => { results := [.lit (.bool false)], args := [d] }
  | _ => none }
def FramesNilWrongFalsely : Prop := framesNilRow.holds Try.pinned (OpenSpec.ofChange framesNilWrong)

/- THE SECOND FORM. 'bulk': how many values and letters a reading holds, each counted each time it is reached (what is shared counts as often as it is met; a slice's spare places count too). A statement '..UptoSaid' is the law's where the arguments, and the package variables that the reading takes, are together of bulk at most 1048576: NARROWER than '..Said'. Prove '..Said' where nothing that the law and all that it calls make is longer than what came in: it says more and counts as full. Else prove '..UptoSaid'. A law counts once. -/
mutual
def uptoBulk {H : Type} : DataW H → Nat
  | .lit (.string bytes) => bytes.length + 1
  | .lit _ => 1
  | .nil => 1
  | .ptr d => uptoBulk d + 1
  | .slice elems spare => uptoBulkAll elems + uptoBulkAll spare + 1
  | .agg parts => uptoBulkAll parts + 1
  | .iface _ d => uptoBulk d + 1
  | .map entries => uptoBulkEntries entries + 1
  | .held _ => 1
def uptoBulkAll {H : Type} : List (DataW H) → Nat
  | [] => 0
  | d :: r => uptoBulk d + uptoBulkAll r
def uptoBulkEntries {H : Type} : List (Lit × DataW H) → Nat
  | [] => 0
  | x :: r => uptoBulkEntry x + uptoBulkEntries r
def uptoBulkEntry {H : Type} : Lit × DataW H → Nat
  | (.string bytes, d) => bytes.length + uptoBulk d + 1
  | (_, d) => uptoBulk d + 1
 end
def uptoSmall : (H : Type) → List (DataW H) → Bool := fun _ ds => decide (uptoBulkAll ds ≤ 1048576)
def OpenSpec.upto (s : _root_.Go.ChangeSpec) : _root_.Go.OpenSpec := { _root_.Go.OpenSpec.ofChange s with cond := some uptoSmall }

/-- 'glacislaw16.FramesNames', WHERE WHAT IT READS IS OF BULK AT MOST 1048576: true; the input reads as it did. -/
def framesNamesUptoRow : OpenClaim := { program := "ytbkahblcabmdkaa", sum := "93e7683153c68d5bdfe8a301dd826f11df8bc1ec0af7accae9c0e469b3eb8a8d", func := "glacis/glacislaw16.FramesNames", spec := "framesNames", inPlace := ["sync/atomic.AddInt64"], unfollowed := true, recurses := true, apart := false, narrowed := true }
def FramesNamesUptoSaid : Prop := framesNamesUptoRow.holds Try.pinned (OpenSpec.upto framesNamesSpec)

/-- 'glacislaw16.FramesGone', WHERE WHAT IT READS IS OF BULK AT MOST 1048576: true; the input reads as it did. -/
def framesGoneUptoRow : OpenClaim := { program := "ytbkahblcabmdkaa", sum := "93e7683153c68d5bdfe8a301dd826f11df8bc1ec0af7accae9c0e469b3eb8a8d", func := "glacis/glacislaw16.FramesGone", spec := "framesGone", inPlace := ["sync/atomic.AddInt64"], unfollowed := true, recurses := true, apart := false, narrowed := true }
def FramesGoneUptoSaid : Prop := framesGoneUptoRow.holds Try.pinned (OpenSpec.upto framesGoneSpec)

/-- 'glacislaw16.FramesFull', WHERE WHAT IT READS IS OF BULK AT MOST 1048576: true; the input reads as it did. -/
def framesFullUptoRow : OpenClaim := { program := "ytbkahblcabmdkaa", sum := "93e7683153c68d5bdfe8a301dd826f11df8bc1ec0af7accae9c0e469b3eb8a8d", func := "glacis/glacislaw16.FramesFull", spec := "framesFull", inPlace := ["sync/atomic.AddInt64"], unfollowed := true, recurses := true, apart := false, narrowed := true }
def FramesFullUptoSaid : Prop := framesFullUptoRow.holds Try.pinned (OpenSpec.upto framesFullSpec)

/-- 'glacislaw16.FramesPlays', WHERE WHAT IT READS IS OF BULK AT MOST 1048576: true; the input reads as it did. -/
def framesPlaysUptoRow : OpenClaim := { program := "ytbkahblcabmdkaa", sum := "93e7683153c68d5bdfe8a301dd826f11df8bc1ec0af7accae9c0e469b3eb8a8d", func := "glacis/glacislaw16.FramesPlays", spec := "framesPlays", inPlace := ["sync/atomic.AddInt64"], unfollowed := true, recurses := true, apart := false, narrowed := true }
def FramesPlaysUptoSaid : Prop := framesPlaysUptoRow.holds Try.pinned (OpenSpec.upto framesPlaysSpec)

/-- 'glacislaw16.FramesTree', WHERE WHAT IT READS IS OF BULK AT MOST 1048576: true; the input reads as it did. -/
def framesTreeUptoRow : OpenClaim := { program := "ytbkahblcabmdkaa", sum := "93e7683153c68d5bdfe8a301dd826f11df8bc1ec0af7accae9c0e469b3eb8a8d", func := "glacis/glacislaw16.FramesTree", spec := "framesTree", inPlace := ["sync/atomic.AddInt64"], unfollowed := true, recurses := true, apart := false, narrowed := true }
def FramesTreeUptoSaid : Prop := framesTreeUptoRow.holds Try.pinned (OpenSpec.upto framesTreeSpec)

/-- 'glacislaw16.FramesNil', WHERE WHAT IT READS IS OF BULK AT MOST 1048576: true; the input reads as it did. -/
def framesNilUptoRow : OpenClaim := { program := "ytbkahblcabmdkaa", sum := "93e7683153c68d5bdfe8a301dd826f11df8bc1ec0af7accae9c0e469b3eb8a8d", func := "glacis/glacislaw16.FramesNil", spec := "framesNil", inPlace := ["sync/atomic.AddInt64"], unfollowed := true, recurses := true, apart := false, narrowed := true }
def FramesNilUptoSaid : Prop := framesNilUptoRow.holds Try.pinned (OpenSpec.upto framesNilSpec)

end Rows
end Go.Proofs.Ytbkahblcabmdkaa
