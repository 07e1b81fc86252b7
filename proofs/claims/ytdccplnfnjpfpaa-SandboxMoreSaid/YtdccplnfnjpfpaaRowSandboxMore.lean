/- glacis/glacislaw12.SandboxMore: whatever the input, the law returns true, and each argument reads behind the call as it did before. No condition. -/
import Derived.Test.YtdccplnfnjpfpaaRows
import Derived.Test.YtdccplnfnjpfpaaRo
import Derived.Test.YtdccplnfnjpfpaaPc
import Derived.WalkKit
import Derived.ProofKit
import Derived.OpenShut
import Derived.ShutString
import Derived.ChangeOld
import Derived.Below
import Derived.SizedLaws
namespace Go.Proofs.Ytdccplnfnjpfpaa.sandboxMore
open Go.ChangeShapes Go.WideShapes Go.ChangeAt Go.RowKit Go.Joins Go.Deep Ro X Go.Proofs.YtdccplnfnjpfpaaW.PrintWords Go.Proofs.YtdccplnfnjpfpaaW.PrintLast Go.Proofs.YtdccplnfnjpfpaaW.PrintMore
open Go.ChangeMaps (open_string shut_string)
set_option linter.unusedVariables false
theorem own : ownKnob Try.prog.godebug = none := by kernel_rfl
theorem laidOut : laidOutB Try.prog = true := by kernel_rfl
theorem vOf {α : Type} {d : Kd α} (hd : Kd.Heap d) (e : Nat) {w : World} {A : Option Addr} {c : Nat} {xs : List α} (h : d.C w A xs.length xs) (hc : xs.length ≤ c) : Kd.V d e w w.heap.size (fun _ => True) (.slice A xs.length c) xs := Kd.V_mk hc (fun _ hW => hd.C (fun k hk => hW k trivial hk) h)
set_option maxRecDepth 100000 in
theorem lifted (os : Os) (started : os.Started) (H : Type) (enc : TypeId × Value → H) :
    ReturnsInHanded {} Try.checked os 6 .any (Rows.sandboxMoreSpec.pre6 enc Try.prog Try.f6 Rows.sandboxMoreRow.domain false) (Rows.sandboxMoreSpec.post enc Try.prog Try.f6 false true false false) := by
  refine returnsInHanded_of_change_sized (C := Try.checked) own started (by kernel_rfl) Try.func6
    (ChangeSpec.witness6 (enc := enc) (C := Try.checked) false ⟨#[], #[.slice none 0 0, .string ByteArray.empty, .slice none 0 0, .agg #[.bool false, .slice none 0 0, .bool false, .slice none 0 0]], []⟩ 8 (by kernel_rfl) (by kernel_rfl) (by kernel_rfl) (by kernel_rfl)) ?_
  intro W base args ds gs before hval0 hW hcnd hsz0 _
  have hsz : (DataW.weightsEach Try.prog (Try.f6.params.toList ++ Rows.sandboxMoreSpec.plain.varTypes Try.prog) (ds ++ gs)).all (· ≤ reachBytes) = true := hsz0
  have hval : ∀ (j : Nat) t v, Try.f6.params[j]? = some t → args[j]? = some v → Value.okWide Try.prog W .any base t v := hval0
  have hW' := hW
  obtain ⟨p, q, hA0, hV, rfl, hfz, hnd⟩ := hW
  have hA : DataW.TrodAll enc Try.prog W 0 (fun _ => true) true Try.f6.params.toList args.toList ds p := hA0
  rw [Try.params6] at hA hval hsz
  obtain ⟨v0, vs0, d0, ds0, p0, q0, hargs, rfl, rfl, h0, g0⟩ := trodAll_cons hA
  obtain ⟨v1, vs1, d1, ds1, p1, q1, rfl, rfl, rfl, h1, g1⟩ := trodAll_cons g0
  obtain ⟨v2, vs2, d2, ds2, p2, q2, rfl, rfl, rfl, h2, g2⟩ := trodAll_cons g1
  obtain ⟨v3, vs3, d3, ds3, p3, q3, rfl, rfl, rfl, h3, g3⟩ := trodAll_cons g2
  obtain ⟨rfl, rfl, rfl⟩ := trodAll_nil g3
  obtain rfl : args = #[v0, v1, v2, v3] := by cases args; simp_all
  obtain ⟨rfl, rfl⟩ := trodVars_none hV
  obtain ⟨A0, len0, c0, rfl⟩ := okWide_slice Try.underlying23 (hval 0 23 v0 rfl rfl)
  have lt0 := lt_of h0
  have k0 := h0
  have z0 := slice_size Try.underlying23 hsz (j := 0) (t := 23) rfl rfl (B := 16) (by kernel_rfl) h0
  obtain ⟨x0, rfl, l0, r0, w0⟩ := slice_arg (Opens.slice Try.underlying23 (by kernel_rfl) (Opens.string Try.underlying9)) h0
  obtain ⟨x1, rfl, rfl, rfl, y1⟩ := open_string Try.underlying9 (hval 1 9 v1 rfl rfl) h1
  have z1 : x1.size ≤ 140737488351232 := by
    have z := sized_string hsz (j := 1) (t := 9) rfl rfl
    rw [Array.length_toList] at z
    exact z
  obtain ⟨A2, len2, c2, rfl⟩ := okWide_slice Try.underlying30 (hval 2 30 v2 rfl rfl)
  have lt2 := lt_of h2
  have k2 := h2
  have z2 := slice_size Try.underlying30 hsz (j := 2) (t := 30) rfl rfl (B := 64) (by kernel_rfl) h2
  obtain ⟨x2, rfl, l2, r2, w2⟩ := slice_arg (Opens.slice (d := k32) Try.underlying30 (by kernel_rfl) (Opens.struct (β := S32) (fun x : S32 => (x.f0, x.f1, x.f2, x.f3)) (fun a => ⟨a.1, a.2.1, a.2.2.1, a.2.2.2⟩) (fun _ => rfl) Try.underlying32 (by kernel_rfl) (by kernel_rfl) rfl (OpensL.cons (Opens.bool Try.underlying4) (OpensL.cons (Opens.slice Try.underlying23 (by kernel_rfl) (Opens.string Try.underlying9)) (OpensL.cons (Opens.bool Try.underlying4) (OpensL.one (Opens.slice Try.underlying23 (by kernel_rfl) (Opens.string Try.underlying9)))))))) h2
  have lt3 := lt_of h3
  have k3 := h3
  obtain ⟨cs3, rfl, hcz3⟩ := okWide_struct Try.underlying32 (hval 3 32 v3 rfl rfl)
  obtain ⟨fuel3, hf3⟩ := h3
  obtain ⟨x3, hx3, w3⟩ := (Opens.struct (β := S32) (fun x : S32 => (x.f0, x.f1, x.f2, x.f3)) (fun a => ⟨a.1, a.2.1, a.2.2.1, a.2.2.2⟩) (fun _ => rfl) Try.underlying32 (by kernel_rfl) (by kernel_rfl) rfl (OpensL.cons (Opens.bool Try.underlying4) (OpensL.cons (Opens.slice Try.underlying23 (by kernel_rfl) (Opens.string Try.underlying9)) (OpensL.cons (Opens.bool Try.underlying4) (OpensL.one (Opens.slice Try.underlying23 (by kernel_rfl) (Opens.string Try.underlying9))))))) H enc W _ _ _ _ _ _ hf3
  obtain ⟨A31, c31, A33, c33, hcs3, l31, r31, l33, r33⟩ := k32_open hx3
  obtain rfl : cs3 = #[.bool x3.f0, .slice A31 x3.f1.length c31, .bool x3.f2, .slice A33 x3.f3.length c33] := Array.toList_inj.1 hcs3
  clear hA0 hval0 hsz0 hsz
  obtain ⟨k, hk⟩ := SandboxMore_pure x0 x1 x2 x3 z0
  refine (glacislaw12_SandboxMore.calls k A0 c0 x0 x1 (fun _ => True) A2 c2 x2 x3.f0 (fun _ => True) A31 c31 x3.f1 x3.f2 (fun _ => True) A33 c33 x3.f3 true W r0 l0 (vOf (Kd.heap_iso _ (Kd.heap_pair Kd.heap_bool (Kd.heap_pair (Kd.heap_slice 9 Kd.heap_string) (Kd.heap_pair Kd.heap_bool (Kd.heap_slice 9 Kd.heap_string))))) _ r2 l2) (vOf Kd.heap_string _ r31 l31) (vOf Kd.heap_string _ r33 l33) hk).mono fun e W' ⟨he, bel⟩ => ?_
  subst he
  exact ⟨_, rfl, _, _, _, [], _, [], hW', trodAll_mk1 (shut_bool Try.underlying4 _), (trodAll_cons_mk (Below.trod laidOut (by kernel_rfl) (of_decide_eq_true (by kernel_rfl)) k0 bel lt0) (trodAll_cons_mk (shut_string Try.underlying9 y1) (trodAll_cons_mk (Below.trod laidOut (by kernel_rfl) (of_decide_eq_true (by kernel_rfl)) k2 bel lt2) (trodAll_cons_mk (Below.trod laidOut (by kernel_rfl) (of_decide_eq_true (by kernel_rfl)) k3 bel lt3) trodAll_mk0)))), rfl, bel.frame _, fun h => by cases h⟩
theorem over : Rows.sandboxMoreRow.holds Try.pinned (OpenSpec.ofChange Rows.sandboxMoreSpec) :=
  OpenClaim.holds_of_wide 6 Try.f6 rfl rfl rfl rfl rfl rfl rfl ⟨rfl, rfl, rfl, rfl, rfl⟩ rfl rfl rfl rfl rfl (by kernel_rfl) Try.func6 (by kernel_rfl)
    (of_decide_eq_true (by kernel_rfl)) (by unfold Func.isWrapper; first | (rw [if_pos (by decide +kernel)]; kernel_rfl) | (rw [if_neg (by decide +kernel)]; exact ⟨rfl, rfl⟩))
    (fun os started H enc _ => lifted os started H enc)
end Go.Proofs.Ytdccplnfnjpfpaa.sandboxMore
namespace Go.Proofs.Ytdccplnfnjpfpaa
theorem sandboxMore_holds : Rows.SandboxMoreSaid := sandboxMore.over
#print axioms sandboxMore_holds
end Go.Proofs.Ytdccplnfnjpfpaa