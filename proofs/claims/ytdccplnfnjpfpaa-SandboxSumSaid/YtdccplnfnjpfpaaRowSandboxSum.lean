/- glacis/glacislaw12.SandboxSum: whatever the input, the law returns true, and each argument reads behind the call as it did before. No condition. -/
import Derived.Test.YtdccplnfnjpfpaaRows
import Derived.Test.YtdccplnfnjpfpaaRo
import Derived.Test.YtdccplnfnjpfpaaPb
import Derived.WalkKit
import Derived.ProofKit
import Derived.OpenShut
import Derived.ShutString
import Derived.ChangeOld
import Derived.Below
import Derived.SizedLaws
namespace Go.Proofs.Ytdccplnfnjpfpaa.sandboxSum
open Go.ChangeShapes Go.WideShapes Go.ChangeAt Go.RowKit Go.Joins Go.Deep Ro X Go.Proofs.YtdccplnfnjpfpaaW.PrintWords Go.Proofs.YtdccplnfnjpfpaaW.PrintLast Go.Proofs.YtdccplnfnjpfpaaW.PrintMore
open Go.ChangeMaps (open_string shut_string)
set_option linter.unusedVariables false
theorem own : ownKnob Try.prog.godebug = none := by kernel_rfl
theorem laidOut : laidOutB Try.prog = true := by kernel_rfl
theorem vOf {α : Type} {d : Kd α} (hd : Kd.Heap d) (e : Nat) {w : World} {A : Option Addr} {c : Nat} {xs : List α} (h : d.C w A xs.length xs) (hc : xs.length ≤ c) : Kd.V d e w w.heap.size (fun _ => True) (.slice A xs.length c) xs := Kd.V_mk hc (fun _ hW => hd.C (fun k hk => hW k trivial hk) h)
set_option maxRecDepth 100000 in
theorem lifted (os : Os) (started : os.Started) (H : Type) (enc : TypeId × Value → H) :
    ReturnsInHanded {} Try.checked os 8 .any (Rows.sandboxSumSpec.pre6 enc Try.prog Try.f8 Rows.sandboxSumRow.domain false) (Rows.sandboxSumSpec.post enc Try.prog Try.f8 false true false false) := by
  refine returnsInHanded_of_change_sized (C := Try.checked) own started (by kernel_rfl) Try.func8
    (ChangeSpec.witness6 (enc := enc) (C := Try.checked) false ⟨#[], #[.slice none 0 0], []⟩ 8 (by kernel_rfl) (by kernel_rfl) (by kernel_rfl) (by kernel_rfl)) ?_
  intro W base args ds gs before hval0 hW hcnd hsz0 _
  have hsz : (DataW.weightsEach Try.prog (Try.f8.params.toList ++ Rows.sandboxSumSpec.plain.varTypes Try.prog) (ds ++ gs)).all (· ≤ reachBytes) = true := hsz0
  have hval : ∀ (j : Nat) t v, Try.f8.params[j]? = some t → args[j]? = some v → Value.okWide Try.prog W .any base t v := hval0
  have hW' := hW
  obtain ⟨p, q, hA0, hV, rfl, hfz, hnd⟩ := hW
  have hA : DataW.TrodAll enc Try.prog W 0 (fun _ => true) true Try.f8.params.toList args.toList ds p := hA0
  rw [Try.params8] at hA hval hsz
  obtain ⟨v0, vs0, d0, ds0, p0, q0, hargs, rfl, rfl, h0, g0⟩ := trodAll_cons hA
  obtain ⟨rfl, rfl, rfl⟩ := trodAll_nil g0
  obtain rfl : args = #[v0] := by cases args; simp_all
  obtain ⟨rfl, rfl⟩ := trodVars_none hV
  obtain ⟨A0, len0, c0, rfl⟩ := okWide_slice Try.underlying23 (hval 0 23 v0 rfl rfl)
  have lt0 := lt_of h0
  have k0 := h0
  have z0 := slice_size Try.underlying23 hsz (j := 0) (t := 23) rfl rfl (B := 16) (by kernel_rfl) h0
  obtain ⟨x0, rfl, l0, r0, w0⟩ := slice_arg (Opens.slice Try.underlying23 (by kernel_rfl) (Opens.string Try.underlying9)) h0
  clear hA0 hval0 hsz0 hsz
  obtain ⟨k, hk⟩ := SandboxSum_pure x0
  refine (glacislaw12_SandboxSum.calls k (fun _ => True) A0 c0 x0 true W (vOf Kd.heap_string _ r0 l0) hk).mono fun e W' ⟨he, bel⟩ => ?_
  subst he
  exact ⟨_, rfl, _, _, _, [], _, [], hW', trodAll_mk1 (shut_bool Try.underlying4 _), (trodAll_cons_mk (Below.trod laidOut (by kernel_rfl) (of_decide_eq_true (by kernel_rfl)) k0 bel lt0) trodAll_mk0), rfl, bel.frame _, fun h => by cases h⟩
theorem over : Rows.sandboxSumRow.holds Try.pinned (OpenSpec.ofChange Rows.sandboxSumSpec) :=
  OpenClaim.holds_of_wide 8 Try.f8 rfl rfl rfl rfl rfl rfl rfl ⟨rfl, rfl, rfl, rfl, rfl⟩ rfl rfl rfl rfl rfl (by kernel_rfl) Try.func8 (by kernel_rfl)
    (of_decide_eq_true (by kernel_rfl)) (by unfold Func.isWrapper; first | (rw [if_pos (by decide +kernel)]; kernel_rfl) | (rw [if_neg (by decide +kernel)]; exact ⟨rfl, rfl⟩))
    (fun os started H enc _ => lifted os started H enc)
end Go.Proofs.Ytdccplnfnjpfpaa.sandboxSum
namespace Go.Proofs.Ytdccplnfnjpfpaa
theorem sandboxSum_holds : Rows.SandboxSumSaid := sandboxSum.over
#print axioms sandboxSum_holds
end Go.Proofs.Ytdccplnfnjpfpaa