import Derived.Test.YtbhlmdaogdhjdaaDoorRows
import Derived.Test.YtbhlmdaogdhjdaaDoorCards
import Derived.Test.YtbhlmdaogdhjdaaDoorTie
import Derived.Test.YtbhlmdaogdhjdaaDoorRo
import Derived.Test.YtbhlmdaogdhjdaaDoorHj
import Derived.ProofKit
import Derived.LaidMore
import Derived.OpenShut
import Derived.Stop.Joined
import Derived.Stop.LaidErr
import Derived.SevenTiedAt
/-! What the rows of this seat share: the laid tables. -/
namespace Go.Proofs.YtbhlmdaogdhjdaaDoor.Rd
open Go.ChangeShapes Go.WideShapes Go.ChangeAt Go.RowKit

theorem own : ownKnob Tryd.prog.godebug = none := by kernel_rfl
theorem gTType : (Tryd.prog.globals[0]?).map (·.type) = some 77 := by kernel_rfl
def L3 : List (String × DataW Unit) := [("math/bits.deBruijn32tab", Rows.laid_math_bits_deBruijn32tab), ("math/bits.deBruijn64tab", Rows.laid_math_bits_deBruijn64tab), ("internal/strconv.uint64pow10", Rows.laid_internal_strconv_uint64pow10)]
theorem door_met (os : Os) (args : Array Value) : laidMetH Tryd.prog L3 ((World.doorLaid Tryd.prog 400 os).forCall (fun _ _ => 0) ⟨#[], args, []⟩).memory :=
  laidMetH_of_parts3 (fuel := 8) (laidMet_of_run' 8 (by kernel_rfl) (by kernel_rfl)) (by kernel_rfl) (by kernel_rfl)
theorem tab_of {W : World} (h : laidMetH Tryd.prog L3 W) : H.Tab W := by
  rw [MakeChecks.laidMetH_plain _ _ _ (by kernel_rfl)] at h
  have h2 := laidMet.tail (laidMet.tail h)
  exact Lib.tabIs_of_head H.tab_glob gTType Tryd.underlying77 Tryd.underlying67 (by kernel_rfl) (by kernel_rfl) h2
open Go.Proofs.YtbhlmdaogdhjdaaDoorW.PrintWords in
/-- A host, field by field. -/
structure HH where
  nm : ByteArray
  v4 : Bool
  ad : Int
open Go.Proofs.YtbhlmdaogdhjdaaDoorW.PrintWords in
def kHost : Kd HH := Kd.iso (Kd.pair Kd.string (Kd.pair Kd.bool (Kd.int .u32))) (fun x : HH => (x.nm, x.v4, x.ad))
open Go.Proofs.YtbhlmdaogdhjdaaDoorW.PrintWords in
theorem kHost_open {w : World} {x : HH} {cs : List Value} (h : kHost.K w x cs) : cs = [.string x.nm, .bool x.v4, .int .u32 x.ad] := by
  obtain ⟨_, _, rfl, rfl, ⟨_, _, rfl, rfl, rfl⟩⟩ := h
  rfl
theorem ub {x : Int} (h : (Lit.int .u32 x).wf = true) : 0 ≤ x ∧ x ≤ 4294967295 := by
  simp only [Lit.wf, Bool.and_eq_true, decide_eq_true_eq] at h
  exact h
end Go.Proofs.YtbhlmdaogdhjdaaDoor.Rd
