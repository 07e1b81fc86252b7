/- glacis/glacislaw02.HostTells: whatever the input, the law returns true, and each argument reads behind the call as it did before. No condition. -/
import Derived.Test.YtbhlmdaogdhjdaaDoorRows
import Derived.Test.YtbhlmdaogdhjdaaDoorRo
import Derived.Test.YtbhlmdaogdhjdaaDoorRd
import Derived.Test.YtbhlmdaogdhjdaaDoorHv
import Derived.WalkKit
import Derived.ProofKit
import Derived.OpenShut
import Derived.ShutString
import Derived.ChangeOld
import Derived.Below
import Derived.SizedLaws
namespace Go.Proofs.YtbhlmdaogdhjdaaDoor.hostTells
open Go.ChangeShapes Go.WideShapes Go.ChangeAt Go.RowKit Go.Joins Go.Deep Ro Go.Proofs.YtbhlmdaogdhjdaaDoorW.PrintWords Go.Proofs.YtbhlmdaogdhjdaaDoorW.PrintLast Go.Proofs.YtbhlmdaogdhjdaaDoorW.PrintMore
open Go.ChangeMaps (open_string shut_string)
set_option linter.unusedVariables false
theorem own : ownKnob Tryd.prog.godebug = none := by kernel_rfl
theorem laidOut : laidOutB Tryd.prog = true := by kernel_rfl
set_option maxRecDepth 100000 in
theorem lifted (os : Os) (started : os.Started) (H : Type) (enc : TypeId × Value → H) :
    ReturnsInHanded {} Tryd.checked os 5 .any (fun w args => (Rows.hostTellsSpec.pre enc Tryd.prog Tryd.f5 [] false w args ∧ laidMetH Tryd.prog Rd.L3 w) ∧ sizedMet enc Tryd.prog Tryd.f5 (OpenSpec.ofChange Rows.hostTellsSpec) false w args)
      (Rows.hostTellsSpec.post enc Tryd.prog Tryd.f5 false true false false) := by
  refine returnsInHanded_of_change_and (C := Tryd.checked) (X := fun w _ => laidMetH Tryd.prog Rd.L3 w) (fun _ _ _ hh h => h.of_heap hh) own started (by kernel_rfl) Tryd.func5
    (ChangeSpec.witness_shaped (enc := enc) (C := Tryd.checked) (os := os) (X := fun w _ => laidMetH Tryd.prog Rd.L3 w) false (World.doorLaid Tryd.prog 400 os) #[.agg #[.string ByteArray.empty, .bool false, .int .u32 0], .slice none 0 0] 8 rfl (World.shaped_of_RefB (by kernel_rfl) (by kernel_rfl)) (by kernel_rfl) (by kernel_rfl) (by kernel_rfl) (Rd.door_met os _)) ?_
  intro W base args ds gs before hval0 hW hcnd hsz0 hL _
  have hsz : (DataW.weightsEach Tryd.prog (Tryd.f5.params.toList ++ Rows.hostTellsSpec.plain.varTypes Tryd.prog) (ds ++ gs)).all (· ≤ reachBytes) = true := hsz0
  have hval : ∀ (j : Nat) t v, Tryd.f5.params[j]? = some t → args[j]? = some v → Value.okWide Tryd.prog W .any base t v := hval0
  have hW' := hW
  obtain ⟨p, q, hA0, hV, rfl, hfz, hnd⟩ := hW
  have hA : DataW.TrodAll enc Tryd.prog W 0 (fun _ => true) true Tryd.f5.params.toList args.toList ds p := hA0
  rw [Tryd.params5] at hA hval hsz
  obtain ⟨v0, vs0, d0, ds0, p0, q0, hargs, rfl, rfl, h0, g0⟩ := trodAll_cons hA
  obtain ⟨v1, vs1, d1, ds1, p1, q1, rfl, rfl, rfl, h1, g1⟩ := trodAll_cons g0
  obtain ⟨rfl, rfl, rfl⟩ := trodAll_nil g1
  obtain rfl : args = #[v0, v1] := by cases args; simp_all
  obtain ⟨rfl, rfl⟩ := trodVars_none hV
  have lt0 := lt_of h0
  have k0 := h0
  obtain ⟨cs0, rfl, hcz0⟩ := okWide_struct Tryd.underlying25 (hval 0 25 v0 rfl rfl)
  obtain ⟨fuel0, hf0⟩ := h0
  obtain ⟨x0, hx0, w0⟩ := (Opens.struct (d := Kd.pair Kd.string (Kd.pair Kd.bool (Kd.int .u32))) (β := Rd.HH) (fun x : Rd.HH => (x.nm, x.v4, x.ad)) (fun a => ⟨a.1, a.2.1, a.2.2⟩) (fun _ => rfl) Tryd.underlying25 (by kernel_rfl) (by kernel_rfl) rfl (OpensL.cons (Opens.string Tryd.underlying9) (OpensL.cons (Opens.bool Tryd.underlying4) (OpensL.one (Opens.int Tryd.underlying23))))) H enc W _ _ _ _ _ _ hf0
  obtain ⟨-, hcs0⟩ := And.intro trivial <| Rd.kHost_open hx0
  obtain rfl : cs0 = #[.string x0.nm, .bool x0.v4, .int .u32 x0.ad] := Array.toList_inj.1 hcs0
  obtain ⟨A1, len1, c1, rfl⟩ := okWide_slice Tryd.underlying30 (hval 1 30 v1 rfl rfl)
  have lt1 := lt_of h1
  have k1 := h1
  have z1 := slice_size Tryd.underlying30 hsz (j := 1) (t := 30) rfl rfl (B := 16) (by kernel_rfl) h1
  obtain ⟨x1, rfl, l1, r1, w1⟩ := slice_arg (Opens.slice Tryd.underlying30 (by kernel_rfl) (Opens.string Tryd.underlying9)) h1
  clear hA0 hval0 hsz0 hsz
  refine (_root_.Go.Proofs.YtbhlmdaogdhjdaaDoor.H.tells_calls x0.nm x0.v4 x0.ad (Rd.ub w0.2.2).1 (Rd.ub w0.2.2).2 A1 c1 x1 W (Rd.tab_of hL) r1 l1 w0.1 w1.2).mono fun e W' ⟨he, bel⟩ => ?_
  subst he
  exact ⟨_, rfl, _, _, _, [], _, [], hW', trodAll_mk1 (shut_bool Tryd.underlying4 _), (trodAll_cons_mk (Below.trod laidOut (by kernel_rfl) (of_decide_eq_true (by kernel_rfl)) k0 bel lt0) (trodAll_cons_mk (Below.trod laidOut (by kernel_rfl) (of_decide_eq_true (by kernel_rfl)) k1 bel lt1) trodAll_mk0)), rfl, bel.frame _, fun h => by cases h⟩
theorem over : Rows.hostTellsRow.holds Tryd.pinned (OpenSpec.ofChange Rows.hostTellsSpec) :=
  OpenClaim.holds_of_wide 5 Tryd.f5 rfl rfl rfl rfl rfl rfl rfl ⟨rfl, rfl, rfl, rfl, rfl⟩ rfl rfl rfl rfl rfl (by kernel_rfl) Tryd.func5 (by kernel_rfl)
    (of_decide_eq_true (by kernel_rfl)) (by unfold Func.isWrapper; first | (rw [if_pos (by decide +kernel)]; kernel_rfl) | (rw [if_neg (by decide +kernel)]; exact ⟨rfl, rfl⟩))
    (fun os started H enc _ => lifted os started H enc)
theorem card_over : Rows.HostTellsCardSaid :=
  Claim7.holds_tied_plain_at .later [] [.data, .data, .data] true (true, "0cdef6c97c46c832a74cb43e9d658fd35811a3d81dc2e35f048344eddba1f885") false
    over (fun _ h => by cases h) (by kernel_rfl) (fun _ h => by cases h) hostTells_row_tie rfl ⟨rfl, rfl⟩ (by kernel_rfl) rfl
    (fun f fn hf hfn => by
      obtain rfl : f = 5 := Option.some.inj ((show Tryd.prog.funcNamed "glacis/glacislaw02.HostTells" = some 5 by kernel_rfl).symm.trans hf) |>.symm
      obtain rfl : fn = Tryd.f5 := (Option.some.inj (Tryd.func5.symm.trans hfn)).symm
      exact ⟨by kernel_rfl, fun j t ht => by
        rw [Tryd.params5] at ht
        have hm : t ∈ [25, 30] := by simpa using Array.mem_of_getElem? ht
        have hall : ([25, 30].all fun u => !Tryd.prog.wantsStandIn u) = true := by kernel_rfl
        exact (show Tryd.prog.wantsStandIn t = false by simpa using List.all_eq_true.1 hall t hm)⟩)
    (by kernel_rfl)
end Go.Proofs.YtbhlmdaogdhjdaaDoor.hostTells
namespace Go.Proofs.YtbhlmdaogdhjdaaDoor
theorem hostTells_holds : Rows.HostTellsCardSaid := hostTells.card_over
#print axioms hostTells_holds
end Go.Proofs.YtbhlmdaogdhjdaaDoor