/-
  No cell of these rows narrows 'for every input' (looked for: loops, veiled, ifaces, maps, wideKeys, modest, calm, conditions, laid).
  DERIVED. THE GIVEN ROWS OF THIS SEAT. 6 by the template 'for every input the law returns true; each argument reads behind the call as it read before'; 0 by the template 'total and deterministic' (their statements: YtdccplnfnjpfpaaTotals.lean).
  GIVEN WITH THE SEED: the statements are not yours to turn. If you find one false, say at which input.
  Laid BY PROGRAM, IN A SANDBOX (cutbox-rows.mjs): the forced cells as the released guide's own fill.sh prints them over the translation 0d4bc9cb9f381a66… (all of the seat's roots in one cut). By AI agents, Wed Nov 11 2026. No macro, syntax, notation, axiom, sorry.
-/
import Derived.Test.YtdccplnfnjpfpaaChecked
import GoSem.Claim
import GoSem.ClaimJoined
import GoSem.ClaimMapViews
import Derived.JoinedTies
import Derived.KernelRfl
namespace Go.Proofs.Ytdccplnfnjpfpaa
/- THE CELL 'sum', in the pinned program and in every row, IS THE sha256 OF THE DUMP (.gsa) THAT YtdccplnfnjpfpaaProg.lean LOADS. Nothing in Lean hashes anything: it is a label: what it is worth is what the hold of that sum in a sandbox is worth. -/
noncomputable def Try.pinned : Pinned := { name := "ytdccplnfnjpfpaa", sum := "0d4bc9cb9f381a66110c894bc1d6711c016394e9f8ddd6100d0576d54e3788b2", checked := Try.checked }
namespace Rows
def none {H : Type} : Left H := { results := [], args := [] }

/-- 'glacislaw12.SandboxNames': WHATEVER THE INPUT: true; the input reads as it did. -/
def sandboxNamesSpec : ChangeSpec := { name := "sandboxNames", fn := fun _ => fun
  | [] => { results := [.lit (.bool true)], args := [] }
  | _ => none }
def sandboxNamesRow : OpenClaim := { program := "ytdccplnfnjpfpaa", sum := "0d4bc9cb9f381a66110c894bc1d6711c016394e9f8ddd6100d0576d54e3788b2", func := "glacis/glacislaw12.SandboxNames", spec := "sandboxNames", unfollowed := true, recurses := true, apart := false }
def SandboxNamesSaid : Prop := sandboxNamesRow.holds Try.pinned (OpenSpec.ofChange sandboxNamesSpec)

/-- ITS FALSE NEIGHBOUR: 'it returns false'. Refute it at one input. -/
def sandboxNamesWrong : ChangeSpec := { name := "sandboxNames", fn := fun _ => fun
  | [] => { results := [.lit (.bool false)], args := [] }
  | _ => none }
def SandboxNamesWrongFalsely : Prop := sandboxNamesRow.holds Try.pinned (OpenSpec.ofChange sandboxNamesWrong)

/-- 'glacislaw12.SandboxTells': WHATEVER THE INPUT: true; the input reads as it did. -/
def sandboxTellsSpec : ChangeSpec := { name := "sandboxTells", fn := fun _ => fun
  | [d1, d2] => { results := [.lit (.bool true)], args := [d1, d2] }
  | _ => none }
def sandboxTellsRow : OpenClaim := { program := "ytdccplnfnjpfpaa", sum := "0d4bc9cb9f381a66110c894bc1d6711c016394e9f8ddd6100d0576d54e3788b2", func := "glacis/glacislaw12.SandboxTells", spec := "sandboxTells", unfollowed := true, recurses := true, apart := false }
def SandboxTellsSaid : Prop := sandboxTellsRow.holds Try.pinned (OpenSpec.ofChange sandboxTellsSpec)

/-- ITS FALSE NEIGHBOUR: 'it returns false'. Refute it at one input. -/
def sandboxTellsWrong : ChangeSpec := { name := "sandboxTells", fn := fun _ => fun
  | [d1, d2] => { results := [.lit (.bool false)], args := [d1, d2] }
  | _ => none }
def SandboxTellsWrongFalsely : Prop := sandboxTellsRow.holds Try.pinned (OpenSpec.ofChange sandboxTellsWrong)

/-- 'glacislaw12.SandboxAll': WHATEVER THE INPUT: true; the input reads as it did. -/
def sandboxAllSpec : ChangeSpec := { name := "sandboxAll", fn := fun _ => fun
  | [d] => { results := [.lit (.bool true)], args := [d] }
  | _ => none }
def sandboxAllRow : OpenClaim := { program := "ytdccplnfnjpfpaa", sum := "0d4bc9cb9f381a66110c894bc1d6711c016394e9f8ddd6100d0576d54e3788b2", func := "glacis/glacislaw12.SandboxAll", spec := "sandboxAll", unfollowed := true, recurses := true, apart := false }
def SandboxAllSaid : Prop := sandboxAllRow.holds Try.pinned (OpenSpec.ofChange sandboxAllSpec)

/-- ITS FALSE NEIGHBOUR: 'it returns false'. Refute it at one input. -/
def sandboxAllWrong : ChangeSpec := { name := "sandboxAll", fn := fun _ => fun
  | [d] => { results := [.lit (.bool false)], args := [d] }
  | _ => none }
def SandboxAllWrongFalsely : Prop := sandboxAllRow.holds Try.pinned (OpenSpec.ofChange sandboxAllWrong)

/-- 'glacislaw12.SandboxMore': WHATEVER THE INPUT: true; the input reads as it did. -/
def sandboxMoreSpec : ChangeSpec := { name := "sandboxMore", fn := fun _ => fun
  | [d1, d2, d3, d4] => { results := [.lit (.bool true)], args := [d1, d2, d3, d4] }
  | _ => none }
def sandboxMoreRow : OpenClaim := { program := "ytdccplnfnjpfpaa", sum := "0d4bc9cb9f381a66110c894bc1d6711c016394e9f8ddd6100d0576d54e3788b2", func := "glacis/glacislaw12.SandboxMore", spec := "sandboxMore", unfollowed := true, recurses := true, apart := false }
def SandboxMoreSaid : Prop := sandboxMoreRow.holds Try.pinned (OpenSpec.ofChange sandboxMoreSpec)

/-- ITS FALSE NEIGHBOUR: 'it returns false'. Refute it at one input. -/
def sandboxMoreWrong : ChangeSpec := { name := "sandboxMore", fn := fun _ => fun
  | [d1, d2, d3, d4] => { results := [.lit (.bool false)], args := [d1, d2, d3, d4] }
  | _ => none }
def SandboxMoreWrongFalsely : Prop := sandboxMoreRow.holds Try.pinned (OpenSpec.ofChange sandboxMoreWrong)

/-- 'glacislaw12.SandboxBack': WHATEVER THE INPUT: true; the input reads as it did. -/
def sandboxBackSpec : ChangeSpec := { name := "sandboxBack", fn := fun _ => fun
  | [d] => { results := [.lit (.bool true)], args := [d] }
  | _ => none }
def sandboxBackRow : OpenClaim := { program := "ytdccplnfnjpfpaa", sum := "0d4bc9cb9f381a66110c894bc1d6711c016394e9f8ddd6100d0576d54e3788b2", func := "glacis/glacislaw12.SandboxBack", spec := "sandboxBack", unfollowed := true, recurses := true, apart := false }
def SandboxBackSaid : Prop := sandboxBackRow.holds Try.pinned (OpenSpec.ofChange sandboxBackSpec)

/-- ITS FALSE NEIGHBOUR: 'it returns false'. Refute it at one input. -/
def sandboxBackWrong : ChangeSpec := { name := "sandboxBack", fn := fun _ => fun
  | [d] => { results := [.lit (.bool false)], args := [d] }
  | _ => none }
def SandboxBackWrongFalsely : Prop := sandboxBackRow.holds Try.pinned (OpenSpec.ofChange sandboxBackWrong)

/-- 'glacislaw12.SandboxSum': WHATEVER THE INPUT: true; the input reads as it did. -/
def sandboxSumSpec : ChangeSpec := { name := "sandboxSum", fn := fun _ => fun
  | [d] => { results := [.lit (.bool true)], args := [d] }
  | _ => none }
def sandboxSumRow : OpenClaim := { program := "ytdccplnfnjpfpaa", sum := "0d4bc9cb9f381a66110c894bc1d6711c016394e9f8ddd6100d0576d54e3788b2", func := "glacis/glacislaw12.SandboxSum", spec := "sandboxSum", unfollowed := true, recurses := true, apart := false }
def SandboxSumSaid : Prop := sandboxSumRow.holds Try.pinned (OpenSpec.ofChange sandboxSumSpec)

/-- ITS FALSE NEIGHBOUR: 'it returns false'. Refute it at one input. -/
def sandboxSumWrong : ChangeSpec := { name := "sandboxSum", fn := fun _ => fun
  | [d] => { results := [.lit (.bool false)], args := [d] }
  | _ => none }
def SandboxSumWrongFalsely : Prop := sandboxSumRow.holds Try.pinned (OpenSpec.ofChange sandboxSumWrong)

/- THE SECOND FORM. 'bulk': how many values and letters a reading holds, each counted each time it is reached (what is shared counts as often as it is met; a slice's spare places count too). A statement '..UptoSaid' is the law's where the arguments, and the package variables that the reading takes, are together of bulk at most 1048576: NARROWER than '..Said'. Prove '..Said' where nothing that the law and all that it calls make is longer than what came in: it says more and counts as full. Else prove '..UptoSaid'. A law counts once. -/
mutual
def uptoBulk {H : Type} : DataW H → Nat
  | .lit (.string bytes) => bytes.length + 1
  | .lit _ => 1
  | .nil => 1
  | .ptr d => uptoBulk d + 1
  | .slice elems spare => uptoBulkAll elems + uptoBulkAll spare + 1
  | .agg parts => uptoBulkAll parts + 1
  | .iface _ d => uptoBulk d + 1
  | .map entries => uptoBulkEntries entries + 1
  | .held _ => 1
def uptoBulkAll {H : Type} : List (DataW H) → Nat
  | [] => 0
  | d :: r => uptoBulk d + uptoBulkAll r
def uptoBulkEntries {H : Type} : List (Lit × DataW H) → Nat
  | [] => 0
  | x :: r => uptoBulkEntry x + uptoBulkEntries r
def uptoBulkEntry {H : Type} : Lit × DataW H → Nat
  | (.string bytes, d) => bytes.length + uptoBulk d + 1
  | (_, d) => uptoBulk d + 1
 end
def uptoSmall : (H : Type) → List (DataW H) → Bool := fun _ ds => decide (uptoBulkAll ds ≤ 1048576)
def OpenSpec.upto (s : _root_.Go.ChangeSpec) : _root_.Go.OpenSpec := { _root_.Go.OpenSpec.ofChange s with cond := some uptoSmall }

/-- 'glacislaw12.SandboxNames', WHERE WHAT IT READS IS OF BULK AT MOST 1048576: true; the input reads as it did. -/
def sandboxNamesUptoRow : OpenClaim := { program := "ytdccplnfnjpfpaa", sum := "0d4bc9cb9f381a66110c894bc1d6711c016394e9f8ddd6100d0576d54e3788b2", func := "glacis/glacislaw12.SandboxNames", spec := "sandboxNames", unfollowed := true, recurses := true, apart := false, narrowed := true }
def SandboxNamesUptoSaid : Prop := sandboxNamesUptoRow.holds Try.pinned (OpenSpec.upto sandboxNamesSpec)

/-- 'glacislaw12.SandboxTells', WHERE WHAT IT READS IS OF BULK AT MOST 1048576: true; the input reads as it did. -/
def sandboxTellsUptoRow : OpenClaim := { program := "ytdccplnfnjpfpaa", sum := "0d4bc9cb9f381a66110c894bc1d6711c016394e9f8ddd6100d0576d54e3788b2", func := "glacis/glacislaw12.SandboxTells", spec := "sandboxTells", unfollowed := true, recurses := true, apart := false, narrowed := true }
def SandboxTellsUptoSaid : Prop := sandboxTellsUptoRow.holds Try.pinned (OpenSpec.upto sandboxTellsSpec)

/-- 'glacislaw12.SandboxAll', WHERE WHAT IT READS IS OF BULK AT MOST 1048576: true; the input reads as it did. -/
def sandboxAllUptoRow : OpenClaim := { program := "ytdccplnfnjpfpaa", sum := "0d4bc9cb9f381a66110c894bc1d6711c016394e9f8ddd6100d0576d54e3788b2", func := "glacis/glacislaw12.SandboxAll", spec := "sandboxAll", unfollowed := true, recurses := true, apart := false, narrowed := true }
def SandboxAllUptoSaid : Prop := sandboxAllUptoRow.holds Try.pinned (OpenSpec.upto sandboxAllSpec)

/-- 'glacislaw12.SandboxMore', WHERE WHAT IT READS IS OF BULK AT MOST 1048576: true; the input reads as it did. -/
def sandboxMoreUptoRow : OpenClaim := { program := "ytdccplnfnjpfpaa", sum := "0d4bc9cb9f381a66110c894bc1d6711c016394e9f8ddd6100d0576d54e3788b2", func := "glacis/glacislaw12.SandboxMore", spec := "sandboxMore", unfollowed := true, recurses := true, apart := false, narrowed := true }
def SandboxMoreUptoSaid : Prop := sandboxMoreUptoRow.holds Try.pinned (OpenSpec.upto sandboxMoreSpec)

/-- 'glacislaw12.SandboxBack', WHERE WHAT IT READS IS OF BULK AT MOST 1048576: true; the input reads as it did. -/
def sandboxBackUptoRow : OpenClaim := { program := "ytdccplnfnjpfpaa", sum := "0d4bc9cb9f381a66110c894bc1d6711c016394e9f8ddd6100d0576d54e3788b2", func := "glacis/glacislaw12.SandboxBack", spec := "sandboxBack", unfollowed := true, recurses := true, apart := false, narrowed := true }
def SandboxBackUptoSaid : Prop := sandboxBackUptoRow.holds Try.pinned (OpenSpec.upto sandboxBackSpec)

/-- 'glacislaw12.SandboxSum', WHERE WHAT IT READS IS OF BULK AT MOST 1048576: true; the input reads as it did. -/
def sandboxSumUptoRow : OpenClaim := { program := "ytdccplnfnjpfpaa", sum := "0d4bc9cb9f381a66110c894bc1d6711c016394e9f8ddd6100d0576d54e3788b2", func := "glacis/glacislaw12.SandboxSum", spec := "sandboxSum", unfollowed := true, recurses := true, apart := false, narrowed := true }
def SandboxSumUptoSaid : Prop := sandboxSumUptoRow.holds Try.pinned (OpenSpec.upto sandboxSumSpec)

end Rows
end Go.Proofs.Ytdccplnfnjpfpaa
