-- Written by a program of this session for this claim (the kit's printer, with contracts of this session's own); Lean checks it.
import Derived.Test.YtdccplnfnjpfpaaX0
import Derived.Test.YtdccplnfnjpfpaaX1
import Derived.Test.YtdccplnfnjpfpaaX2
import Derived.Test.YtdccplnfnjpfpaaX3
namespace Go.Proofs.Ytdccplnfnjpfpaa.X
open Go.RowKit Go.Proofs.YtdccplnfnjpfpaaW.PrintWords Go.Proofs.YtdccplnfnjpfpaaW.PrintLast Go.Proofs.YtdccplnfnjpfpaaW.PrintMore
attribute [local go_sem] max2_int min2_int max_two min_two max_three min_three max_four min_four   -- for this text's walks alone
set_option linter.unusedVariables false
set_option linter.unusedSimpArgs false

/-! ### glacislaw12_SandboxBack: function 7 -/
def glacislaw12_SandboxBack.f (k : Nat) (a0 : Int) : Option (Bool) := (glacislaw12_awake.f k).bind fun t235 => ((sandbox_Words.f k a0).bind fun t236 => ((sandbox_Flags.f t236).bind fun t239 => ((sandbox_Popup.f a0).bind fun t240 => (if t235 = true then (if t239 = (Go.bits .and .i64 a0 63) then (if (Int.tmod (wrap64 (Int.tdiv (Go.bits .and .i64 a0 63) 16)) 2) = 0 then (if t240 = 0 then ((sandbox_Popup.f t240).bind fun t241 => (some (t241 == t240))) else (none)) else (if t240 = (Go.bits .and .i64 a0 63) then ((sandbox_Popup.f t240).bind fun t242 => (some (t242 == t240))) else (none))) else (none)) else (none)))))
theorem glacislaw12_SandboxBack.mono : ∀ a0 k, LeO (glacislaw12_SandboxBack.f k a0) (glacislaw12_SandboxBack.f (k + 1) a0) := by
  intro a0 k
  unfold glacislaw12_SandboxBack.f
  repeat' first
      | (with_reducible exact glacislaw12_awake.mono _)
      | (with_reducible exact sandbox_Words.mono _ _)
      | (with_reducible exact LeO.refl _)
      | (with_reducible exact LeO.none _)
      | (with_reducible refine LeO.ite ?_ ?_)
      | (with_reducible refine LeO.bind ?_ (fun _ => ?_))
      | exact glacislaw12_awake.mono _
      | exact sandbox_Words.mono _ _
      | exact LeO.none _
      | refine LeO.ite ?_ ?_
      | refine LeO.bind ?_ (fun _ => ?_)
set_option maxHeartbeats 8000000 in
set_option maxRecDepth 100000 in
theorem glacislaw12_SandboxBack.calls (k : Nat) (a0 : Int) (r : Bool) (w : World) (h : glacislaw12_SandboxBack.f k a0 = some r) :
    Calls Try.prog 7 #[.int .i64 a0] w fun e w' => e = .returned (.bool r) ∧ Below w.heap.size w w' := by
  have HB := Aside0.mk (Below.refl w.heap.size w)
  have H : ((glacislaw12_awake.f k).bind fun t235 => ((sandbox_Words.f k a0).bind fun t236 => ((sandbox_Flags.f t236).bind fun t239 => ((sandbox_Popup.f a0).bind fun t240 => (if t235 = true then (if t239 = (Go.bits .and .i64 a0 63) then (if (Int.tmod (wrap64 (Int.tdiv (Go.bits .and .i64 a0 63) 16)) 2) = 0 then (if t240 = 0 then ((sandbox_Popup.f t240).bind fun t241 => (some (t241 == t240))) else (none)) else (if t240 = (Go.bits .and .i64 a0 63) then ((sandbox_Popup.f t240).bind fun t242 => (some (t242 == t240))) else (none))) else (none)) else (none)))))) = some r := h
  clear h
  replace H := Option.bind_eq_some_iff.mp H
  obtain ⟨t235, A20, H⟩ := H
  replace H : ((sandbox_Words.f k a0).bind fun t236 => ((sandbox_Flags.f t236).bind fun t239 => ((sandbox_Popup.f a0).bind fun t240 => (if t235 = true then (if t239 = (Go.bits .and .i64 a0 63) then (if (Int.tmod (wrap64 (Int.tdiv (Go.bits .and .i64 a0 63) 16)) 2) = 0 then (if t240 = 0 then ((sandbox_Popup.f t240).bind fun t241 => (some (t241 == t240))) else (none)) else (if t240 = (Go.bits .and .i64 a0 63) then ((sandbox_Popup.f t240).bind fun t242 => (some (t242 == t240))) else (none))) else (none)) else (none))))) = some r := H
  have A2 := Aside0.mk A20
  clear A20
  replace H := Option.bind_eq_some_iff.mp H
  obtain ⟨t236, A30, H⟩ := H
  replace H : ((sandbox_Flags.f t236).bind fun t239 => ((sandbox_Popup.f a0).bind fun t240 => (if t235 = true then (if t239 = (Go.bits .and .i64 a0 63) then (if (Int.tmod (wrap64 (Int.tdiv (Go.bits .and .i64 a0 63) 16)) 2) = 0 then (if t240 = 0 then ((sandbox_Popup.f t240).bind fun t241 => (some (t241 == t240))) else (none)) else (if t240 = (Go.bits .and .i64 a0 63) then ((sandbox_Popup.f t240).bind fun t242 => (some (t242 == t240))) else (none))) else (none)) else (none)))) = some r := H
  have A3 := Aside0.mk A30
  clear A30
  replace H := Option.bind_eq_some_iff.mp H
  obtain ⟨t239, A40, H⟩ := H
  replace H : ((sandbox_Popup.f a0).bind fun t240 => (if t235 = true then (if t239 = (Go.bits .and .i64 a0 63) then (if (Int.tmod (wrap64 (Int.tdiv (Go.bits .and .i64 a0 63) 16)) 2) = 0 then (if t240 = 0 then ((sandbox_Popup.f t240).bind fun t241 => (some (t241 == t240))) else (none)) else (if t240 = (Go.bits .and .i64 a0 63) then ((sandbox_Popup.f t240).bind fun t242 => (some (t242 == t240))) else (none))) else (none)) else (none))) = some r := H
  have A4 := Aside0.mk A40
  clear A40
  replace H := Option.bind_eq_some_iff.mp H
  obtain ⟨t240, A50, H⟩ := H
  replace H : (if t235 = true then (if t239 = (Go.bits .and .i64 a0 63) then (if (Int.tmod (wrap64 (Int.tdiv (Go.bits .and .i64 a0 63) 16)) 2) = 0 then (if t240 = 0 then ((sandbox_Popup.f t240).bind fun t241 => (some (t241 == t240))) else (none)) else (if t240 = (Go.bits .and .i64 a0 63) then ((sandbox_Popup.f t240).bind fun t242 => (some (t242 == t240))) else (none))) else (none)) else (none)) = some r := H
  have A5 := Aside0.mk A50
  clear A50
  by_cases c6 : t235 = true
  · subst c6
    have H1 : (if t239 = (Go.bits .and .i64 a0 63) then (if (Int.tmod (wrap64 (Int.tdiv (Go.bits .and .i64 a0 63) 16)) 2) = 0 then (if t240 = 0 then ((sandbox_Popup.f t240).bind fun t241 => (some (t241 == t240))) else (none)) else (if t240 = (Go.bits .and .i64 a0 63) then ((sandbox_Popup.f t240).bind fun t242 => (some (t242 == t240))) else (none))) else (none)) = some r := by rw [if_pos rfl] at H; exact H
    clear H
    have H := H1
    clear H1
    by_cases c7 : t239 = (Go.bits .and .i64 a0 63)
    · rw [if_pos c7] at H
      have c7b0 : (t239 == (Go.bits .and .i64 a0 63)) = true := beq_iff_eq.mpr c7
      have c7b1 : (t239 != (Go.bits .and .i64 a0 63)) = false := bne_eq_false_iff_eq.mpr c7
      clear c7
      by_cases c8 : (Int.tmod (wrap64 (Int.tdiv (Go.bits .and .i64 a0 63) 16)) 2) = 0
      · rw [if_pos c8] at H
        have c8b0 : ((Int.tmod (wrap64 (Int.tdiv (Go.bits .and .i64 a0 63) 16)) 2) == 0) = true := beq_iff_eq.mpr c8
        have c8b1 : ((Int.tmod (wrap64 (Int.tdiv (Go.bits .and .i64 a0 63) 16)) 2) != 0) = false := bne_eq_false_iff_eq.mpr c8
        clear c8
        by_cases c9 : t240 = 0
        · rw [if_pos c9] at H
          have c9b0 : (t240 == 0) = true := beq_iff_eq.mpr c9
          have c9b1 : (t240 != 0) = false := bne_eq_false_iff_eq.mpr c9
          clear c9
          replace H := Option.bind_eq_some_iff.mp H
          obtain ⟨t241, A100, H⟩ := H
          replace H : (some (t241 == t240)) = some r := H
          have A10 := Aside0.mk A100
          clear A100
          obtain rfl := Option.some.inj H
          go_enter Try.func7, Try.ntmps7
          go_wp2_with (first | ((with_reducible refine gate_callee (f := 9) rfl ?_); refine goesL_ (some 9) rfl rfl Try.func9 (by kernel_rfl) rfl #[] rfl (by (try simp only [List.map_toArray, List.map_cons, List.map_nil]); first | done | rfl | (simp only [List.length_drop, List.length_take]; rfl)) ?_; (with_reducible refine (glacislaw12_awake.calls k  true _ A2.out).mono ?_); rintro e w11 ⟨rfl, hb⟩; refine ⟨_, rfl, ?_⟩; have n0_ := Aside0.mk (below_step (by repeat (first | (with_reducible first | exact HB.out | apply below_alloc | apply pw_below_drewN | apply below_drew1) | exact HB.out)) hb); clear HB; have HB := n0_; clear n0_; (try clear hb); (try clear hb2); (try clear hk); (try clear hi)) | ((with_reducible refine gate_callee (f := 12) rfl ?_); refine goesL_ (some 13) rfl rfl Try.func12 (by kernel_rfl) rfl #[.int .i64 a0] rfl (by (try simp only [List.map_toArray, List.map_cons, List.map_nil]); first | done | rfl | (simp only [List.length_drop, List.length_take]; rfl)) ?_; (with_reducible refine (sandbox_Words.calls k a0 t236 _ A3.out).mono ?_); rintro e w12 ⟨v237, rfl, ho0, hb⟩; refine ⟨_, rfl, ?_⟩; have n0_ := Aside0.mk (Kd.R_lower ho0 (below_size (by repeat (first | (with_reducible first | exact HB.out | apply below_alloc | apply pw_below_drewN | apply below_drew1) | exact HB.out)))); have n1_ := Aside0.mk (below_step (by repeat (first | (with_reducible first | exact HB.out | apply below_alloc | apply pw_below_drewN | apply below_drew1) | exact HB.out)) hb); clear HB; have HO238 := n0_; have HB := n1_; clear n0_ n1_; (try clear hb); (try clear hb2); (try clear hk); (try clear hi); (try clear ho0); obtain ⟨Ao13, co13, eo13⟩ := Kd.R_slice HO238.out; subst eo13) | ((with_reducible refine gate_callee (f := 14) rfl ?_); refine goesL_ (some 15) rfl rfl Try.func14 (by kernel_rfl) rfl #[.slice Ao13 t236.length co13] rfl (by (try simp only [List.map_toArray, List.map_cons, List.map_nil]); first | done | rfl | (simp only [List.length_drop, List.length_take]; rfl)) ?_; (with_reducible refine (sandbox_Flags.calls _ _ t236 t239 _ ?side1 ?side2 A4.out).mono ?_); (case side1 => repeat (first | exact (Kd.R_reads' HO238.out).2.2 | (with_reducible refine Kd.C_alloc ?_ _) | (with_reducible refine Kd.C_drewN ?_ _) | (with_reducible refine Kd.C_drew ?_))); (case side2 => exact (Kd.R_reads' HO238.out).2.1); rintro e w14 ⟨rfl, hb⟩; refine ⟨_, rfl, ?_⟩; have n0_ := Aside0.mk (Kd.R_below (by (with_reducible repeat (first | apply Kd.R_alloc | apply Kd.R_drewN | apply Kd.R_drew)); exact HO238.out) hb); have n1_ := Aside0.mk (below_step (by repeat (first | (with_reducible first | exact HB.out | apply below_alloc | apply pw_below_drewN | apply below_drew1) | exact HB.out)) hb); clear HO238; clear HB; have HO238 := n0_; have HB := n1_; clear n0_ n1_; (try clear hb); (try clear hb2); (try clear hk); (try clear hi)) | ((with_reducible refine gate_callee (f := 16) rfl ?_); refine goesL_ (some 17) rfl rfl Try.func16 (by kernel_rfl) rfl #[.int .i64 a0] rfl (by (try simp only [List.map_toArray, List.map_cons, List.map_nil]); first | done | rfl | (simp only [List.length_drop, List.length_take]; rfl)) ?_; (with_reducible refine (sandbox_Popup.calls a0 t240 _ A5.out).mono ?_); rintro e w' ⟨rfl, ⟨nd, rfl⟩⟩; refine ⟨_, rfl, ?_⟩) | (go_at_call 16; (with_reducible refine (sandbox_Popup.calls t240 t241 _ A10.out).mono ?_); rintro e w' ⟨rfl, ⟨nd, rfl⟩⟩))
          go_ret
          exact ⟨by first | rfl | (simp [errW_none, errW_some] <;> rfl) | (simp [*, errW_none, errW_some] <;> rfl), by repeat (first | (with_reducible first | exact HB.out | apply below_alloc | apply pw_below_drewN | apply below_drew1) | exact HB.out)⟩
        · rw [if_neg c9] at H
          exact absurd H (by simp)
      · rw [if_neg c8] at H
        have c8b0 : ((Int.tmod (wrap64 (Int.tdiv (Go.bits .and .i64 a0 63) 16)) 2) == 0) = false := beq_eq_false_iff_ne.mpr c8
        have c8b1 : ((Int.tmod (wrap64 (Int.tdiv (Go.bits .and .i64 a0 63) 16)) 2) != 0) = true := bne_iff_ne.mpr c8
        by_cases c15 : t240 = (Go.bits .and .i64 a0 63)
        · rw [if_pos c15] at H
          have c15b0 : (t240 == (Go.bits .and .i64 a0 63)) = true := beq_iff_eq.mpr c15
          have c15b1 : (t240 != (Go.bits .and .i64 a0 63)) = false := bne_eq_false_iff_eq.mpr c15
          clear c15
          replace H := Option.bind_eq_some_iff.mp H
          obtain ⟨t242, A160, H⟩ := H
          replace H : (some (t242 == t240)) = some r := H
          have A16 := Aside0.mk A160
          clear A160
          obtain rfl := Option.some.inj H
          go_enter Try.func7, Try.ntmps7
          go_wp2_with (first | ((with_reducible refine gate_callee (f := 9) rfl ?_); refine goesL_ (some 9) rfl rfl Try.func9 (by kernel_rfl) rfl #[] rfl (by (try simp only [List.map_toArray, List.map_cons, List.map_nil]); first | done | rfl | (simp only [List.length_drop, List.length_take]; rfl)) ?_; (with_reducible refine (glacislaw12_awake.calls k  true _ A2.out).mono ?_); rintro e w17 ⟨rfl, hb⟩; refine ⟨_, rfl, ?_⟩; have n0_ := Aside0.mk (below_step (by repeat (first | (with_reducible first | exact HB.out | apply below_alloc | apply pw_below_drewN | apply below_drew1) | exact HB.out)) hb); clear HB; have HB := n0_; clear n0_; (try clear hb); (try clear hb2); (try clear hk); (try clear hi)) | ((with_reducible refine gate_callee (f := 12) rfl ?_); refine goesL_ (some 13) rfl rfl Try.func12 (by kernel_rfl) rfl #[.int .i64 a0] rfl (by (try simp only [List.map_toArray, List.map_cons, List.map_nil]); first | done | rfl | (simp only [List.length_drop, List.length_take]; rfl)) ?_; (with_reducible refine (sandbox_Words.calls k a0 t236 _ A3.out).mono ?_); rintro e w18 ⟨v237, rfl, ho0, hb⟩; refine ⟨_, rfl, ?_⟩; have n0_ := Aside0.mk (Kd.R_lower ho0 (below_size (by repeat (first | (with_reducible first | exact HB.out | apply below_alloc | apply pw_below_drewN | apply below_drew1) | exact HB.out)))); have n1_ := Aside0.mk (below_step (by repeat (first | (with_reducible first | exact HB.out | apply below_alloc | apply pw_below_drewN | apply below_drew1) | exact HB.out)) hb); clear HB; have HO238 := n0_; have HB := n1_; clear n0_ n1_; (try clear hb); (try clear hb2); (try clear hk); (try clear hi); (try clear ho0); obtain ⟨Ao19, co19, eo19⟩ := Kd.R_slice HO238.out; subst eo19) | ((with_reducible refine gate_callee (f := 14) rfl ?_); refine goesL_ (some 15) rfl rfl Try.func14 (by kernel_rfl) rfl #[.slice Ao19 t236.length co19] rfl (by (try simp only [List.map_toArray, List.map_cons, List.map_nil]); first | done | rfl | (simp only [List.length_drop, List.length_take]; rfl)) ?_; (with_reducible refine (sandbox_Flags.calls _ _ t236 t239 _ ?side1 ?side2 A4.out).mono ?_); (case side1 => repeat (first | exact (Kd.R_reads' HO238.out).2.2 | (with_reducible refine Kd.C_alloc ?_ _) | (with_reducible refine Kd.C_drewN ?_ _) | (with_reducible refine Kd.C_drew ?_))); (case side2 => exact (Kd.R_reads' HO238.out).2.1); rintro e w20 ⟨rfl, hb⟩; refine ⟨_, rfl, ?_⟩; have n0_ := Aside0.mk (Kd.R_below (by (with_reducible repeat (first | apply Kd.R_alloc | apply Kd.R_drewN | apply Kd.R_drew)); exact HO238.out) hb); have n1_ := Aside0.mk (below_step (by repeat (first | (with_reducible first | exact HB.out | apply below_alloc | apply pw_below_drewN | apply below_drew1) | exact HB.out)) hb); clear HO238; clear HB; have HO238 := n0_; have HB := n1_; clear n0_ n1_; (try clear hb); (try clear hb2); (try clear hk); (try clear hi)) | ((with_reducible refine gate_callee (f := 16) rfl ?_); refine goesL_ (some 17) rfl rfl Try.func16 (by kernel_rfl) rfl #[.int .i64 a0] rfl (by (try simp only [List.map_toArray, List.map_cons, List.map_nil]); first | done | rfl | (simp only [List.length_drop, List.length_take]; rfl)) ?_; (with_reducible refine (sandbox_Popup.calls a0 t240 _ A5.out).mono ?_); rintro e w' ⟨rfl, ⟨nd, rfl⟩⟩; refine ⟨_, rfl, ?_⟩) | (go_at_call 16; (with_reducible refine (sandbox_Popup.calls t240 t242 _ A16.out).mono ?_); rintro e w' ⟨rfl, ⟨nd, rfl⟩⟩))
          go_ret
          exact ⟨by first | rfl | (simp [errW_none, errW_some] <;> rfl) | (simp [*, errW_none, errW_some] <;> rfl), by repeat (first | (with_reducible first | exact HB.out | apply below_alloc | apply pw_below_drewN | apply below_drew1) | exact HB.out)⟩
        · rw [if_neg c15] at H
          exact absurd H (by simp)
    · rw [if_neg c7] at H
      exact absurd H (by simp)
  · replace c6 := Bool.eq_false_iff.mpr c6
    subst c6
    have H1 : (none) = some r := by rw [if_neg (show ¬ (false = true) by decide)] at H; exact H
    clear H
    have H := H1
    clear H1
    exact absurd H (by simp)

/-- THE ONE PURE STATEMENT of glacislaw12_SandboxBack: yours. -/
def glacislaw12_SandboxBack.Pure : Prop := ∀ (a0 : Int), (Lit.int .i64 a0).wf = true → ∃ k, glacislaw12_SandboxBack.f k a0 = some true
theorem glacislaw12_SandboxBack.walk (P : glacislaw12_SandboxBack.Pure) (a0 : Int) (w : World) (w0 : (Lit.int .i64 a0).wf = true) :
    Calls Try.prog 7 #[.int .i64 a0] w fun e w' => e = .returned (.bool true) ∧ Below w.heap.size w w' := by
  obtain ⟨k, h⟩ := P a0 w0
  refine (glacislaw12_SandboxBack.calls k a0 true w h).mono ?_
  rintro e w' ⟨rfl, hd⟩
  exact ⟨rfl, hd⟩

end Go.Proofs.Ytdccplnfnjpfpaa.X
