-- Written by a program of this session for this claim (the kit's printer, with contracts of this session's own); Lean checks it.
import Derived.Test.YtdccplnfnjpfpaaX0
import Derived.Test.YtdccplnfnjpfpaaX3
import Derived.Test.YtdccplnfnjpfpaaX4
import Derived.Test.YtdccplnfnjpfpaaX8
namespace Go.Proofs.Ytdccplnfnjpfpaa.X
open Go.RowKit Go.Proofs.YtdccplnfnjpfpaaW.PrintWords Go.Proofs.YtdccplnfnjpfpaaW.PrintLast Go.Proofs.YtdccplnfnjpfpaaW.PrintMore
attribute [local go_sem] max2_int min2_int max_two min_two max_three min_three max_four min_four   -- for this text's walks alone
set_option linter.unusedVariables false
set_option linter.unusedSimpArgs false

/-! ### glacislaw12_SandboxAll: function 5 -/
def glacislaw12_SandboxAll.l0 : Nat → List (S32) → Bool → Int → Option (Bool)
  | 0, _, _, _ => none
  | k + 1, x0, x3, x4 => if x4 < (x0.length : Int) then (if 0 ≤ x4 then ((glacislaw12_short.f k ((rd_T32 x0 x4).f3)).bind fun t177 => (if t177 = true then (glacislaw12_SandboxAll.l0 k x0 x3 (wrap64 (x4 + 1))) else (some x3))) else (none)) else (if x3 = true then ((sandbox_All.f k x0).bind fun t178 => ((glacisref12_All.f k x0).bind fun t179 => (some (t178 == t179)))) else (none))
def glacislaw12_SandboxAll.f (k : Nat) (l0 : List (S32)) : Option (Bool) := (glacislaw12_awake.f k).bind fun t175 => (if (l0.length : Int) > 50 then (some t175) else (glacislaw12_SandboxAll.l0 k l0 t175 0))
theorem glacislaw12_SandboxAll.mono_l : ∀ k, (∀ y0 y1 y2, LeO (glacislaw12_SandboxAll.l0 k y0 y1 y2) (glacislaw12_SandboxAll.l0 (k + 1) y0 y1 y2))
  | 0 => fun _ _ _ r h => by simp [glacislaw12_SandboxAll.l0] at h
  | k + 1 => by
    have ih0 := glacislaw12_SandboxAll.mono_l k
    · intro y0 y1 y2
      unfold glacislaw12_SandboxAll.l0
      repeat' first
      | (with_reducible exact ih0 _ _ _)
      | (with_reducible exact glacislaw12_awake.mono _)
      | (with_reducible exact glacislaw12_short.mono _ _)
      | (with_reducible exact glacisref12_All.mono _ _)
      | (with_reducible exact sandbox_All.mono _ _)
      | (with_reducible exact LeO.refl _)
      | (with_reducible exact LeO.none _)
      | (with_reducible refine LeO.ite ?_ ?_)
      | (with_reducible refine LeO.bind ?_ (fun _ => ?_))
      | exact ih0 _ _ _
      | exact glacislaw12_awake.mono _
      | exact glacislaw12_short.mono _ _
      | exact glacisref12_All.mono _ _
      | exact sandbox_All.mono _ _
      | exact LeO.none _
      | refine LeO.ite ?_ ?_
      | refine LeO.bind ?_ (fun _ => ?_)
theorem glacislaw12_SandboxAll.mono : ∀ a0 k, LeO (glacislaw12_SandboxAll.f k a0) (glacislaw12_SandboxAll.f (k + 1) a0) := by
  intro a0 k
  have ih0 := glacislaw12_SandboxAll.mono_l k
  unfold glacislaw12_SandboxAll.f
  repeat' first
      | (with_reducible exact ih0 _ _ _)
      | (with_reducible exact glacislaw12_awake.mono _)
      | (with_reducible exact glacislaw12_short.mono _ _)
      | (with_reducible exact glacisref12_All.mono _ _)
      | (with_reducible exact sandbox_All.mono _ _)
      | (with_reducible exact LeO.refl _)
      | (with_reducible exact LeO.none _)
      | (with_reducible refine LeO.ite ?_ ?_)
      | (with_reducible refine LeO.bind ?_ (fun _ => ?_))
      | exact ih0 _ _ _
      | exact glacislaw12_awake.mono _
      | exact glacislaw12_short.mono _ _
      | exact glacisref12_All.mono _ _
      | exact sandbox_All.mono _ _
      | exact LeO.none _
      | refine LeO.ite ?_ ?_
      | refine LeO.bind ?_ (fun _ => ?_)
set_option maxHeartbeats 8000000 in
set_option maxRecDepth 100000 in
theorem glacislaw12_SandboxAll.calls (k : Nat) (A0 : Option Addr) (c0 : Nat) (l0 : List (S32)) (r : Bool) (w : World) (hr0 : Kd.C k32 w A0 l0.length l0) (hc0 : l0.length ≤ c0) (h : glacislaw12_SandboxAll.f k l0 = some r) :
    Calls Try.prog 5 #[.slice A0 l0.length c0] w fun e w' => e = .returned (.bool r) ∧ Below w.heap.size w w' := by
  have HR0 := Aside0.mk hr0
  have HC0 := Aside0.mk hc0
  clear hr0 hc0
  have HB := Aside0.mk (Below.refl w.heap.size w)
  have H : ((glacislaw12_awake.f k).bind fun t175 => (if (l0.length : Int) > 50 then (some t175) else (glacislaw12_SandboxAll.l0 k l0 t175 0))) = some r := h
  clear h
  replace H := Option.bind_eq_some_iff.mp H
  obtain ⟨t175, A20, H⟩ := H
  replace H : (if (l0.length : Int) > 50 then (some t175) else (glacislaw12_SandboxAll.l0 k l0 t175 0)) = some r := H
  have A2 := Aside0.mk A20
  clear A20
  by_cases c3 : (l0.length : Int) > 50
  · rw [if_pos c3] at H
    have c3b0 : decide (50 < (l0.length : Int)) = true := decide_eq_true c3
    have c3b1 : decide (50 < l0.length) = true := decide_eq_true (by omega)
    clear c3
    obtain rfl := Option.some.inj H
    go_enter Try.func5, Try.ntmps5
    go_wp2_with (first | ((with_reducible refine gate_callee (f := 9) rfl ?_); refine goesL_ (some 6) rfl rfl Try.func9 (by kernel_rfl) rfl #[] rfl (by (try simp only [List.map_toArray, List.map_cons, List.map_nil]); first | done | rfl | (simp only [List.length_drop, List.length_take]; rfl)) ?_; (with_reducible refine (glacislaw12_awake.calls k  t175 _ A2.out).mono ?_); rintro e w4 ⟨rfl, hb⟩; refine ⟨_, rfl, ?_⟩; have n0_ := Aside0.mk (below_step (by repeat (first | (with_reducible first | exact HB.out | apply below_alloc | apply pw_below_drewN | apply below_drew1) | exact HB.out)) hb); clear HB; have HB := n0_; clear n0_; (try clear hb); (try clear hb2); (try clear hk); (try clear hi)))
    go_ret
    exact ⟨by first | rfl | (simp [errW_none, errW_some] <;> rfl) | (simp [*, errW_none, errW_some] <;> rfl), by repeat (first | (with_reducible first | exact HB.out | apply below_alloc | apply pw_below_drewN | apply below_drew1) | exact HB.out)⟩
  · rw [if_neg c3] at H
    have c3b0 : decide (50 < (l0.length : Int)) = false := decide_eq_false c3
    have c3b1 : decide (50 < l0.length) = false := decide_eq_false (by omega)
    clear c3
    have H' := Aside0.mk H
    clear H
    go_enter Try.func5, Try.ntmps5
    go_wp2_with (first | ((with_reducible refine gate_callee (f := 9) rfl ?_); refine goesL_ (some 6) rfl rfl Try.func9 (by kernel_rfl) rfl #[] rfl (by (try simp only [List.map_toArray, List.map_cons, List.map_nil]); first | done | rfl | (simp only [List.length_drop, List.length_take]; rfl)) ?_; (with_reducible refine (glacislaw12_awake.calls k  t175 _ A2.out).mono ?_); rintro e w5 ⟨rfl, hb⟩; refine ⟨_, rfl, ?_⟩; have n0_ := Aside0.mk (below_step (by repeat (first | (with_reducible first | exact HB.out | apply below_alloc | apply pw_below_drewN | apply below_drew1) | exact HB.out)) hb); clear HB; have HB := n0_; clear n0_; (try clear hb); (try clear hb2); (try clear hk); (try clear hi)))
    go_loopg [4] k (fun kq v4 w' => ∃ (x4_1 : Int), v4 = .int .i64 x4_1 ∧ Aside0 (glacislaw12_SandboxAll.l0 kq l0 t175 x4_1 = some r) ∧ Aside0 (kq ≤ k) ∧ Aside0 (Below w.heap.size w w'))
    case atStart => exact ⟨(0), (by first | rfl | (simp; done) | (simp [*]; done)), H', ⟨Nat.le_refl _⟩, ⟨by repeat (first | (with_reducible first | exact HB.out | apply below_alloc | apply pw_below_drewN | apply below_drew1) | exact HB.out)⟩⟩
    case round =>
      clear H'
      try clear p2
      try clear c3
      try clear c3b0
      try clear c3b1
      try clear c5
      obtain ⟨x4_1, rfl, HA, HK1, HB⟩ := hrel
      cases gk with
      | zero => exact absurd HA.out (by simp [glacislaw12_SandboxAll.l0])
      | succ k1 =>
        have H := HA.out
        clear HA
        simp only [glacislaw12_SandboxAll.l0] at H
        by_cases c6 : x4_1 < (l0.length : Int)
        · rw [if_pos c6] at H
          have c6b0 : decide (x4_1 < (l0.length : Int)) = true := decide_eq_true c6
          clear c6
          by_cases c7 : 0 ≤ x4_1
          · rw [if_pos c7] at H
            have c7b0 : decide (0 ≤ x4_1) = true := decide_eq_true c7
            clear c7
            replace H := Option.bind_eq_some_iff.mp H
            obtain ⟨t177, A80, H⟩ := H
            replace H : (if t177 = true then (glacislaw12_SandboxAll.l0 k1 l0 t175 (wrap64 (x4_1 + 1))) else (some t175)) = some r := H
            have A8 := Aside0.mk A80
            clear A80
            by_cases c9 : t177 = true
            · subst c9
              have H1 : (glacislaw12_SandboxAll.l0 k1 l0 t175 (wrap64 (x4_1 + 1))) = some r := by rw [if_pos rfl] at H; exact H
              clear H
              have H := H1
              clear H1
              have H' := Aside0.mk H
              clear H
              have p176 : 0 ≤ (x4_1 : Int) := of_decide_eq_true (by first | (with_reducible assumption) | assumption)
              have q176 : x4_1 < (l0.length : Int) := of_decide_eq_true (by first | (with_reducible assumption) | assumption)
              obtain ⟨ad176, A176_1, c176_1, A176_3, c176_3, e176, hx176_0, hx176_1, hx176_2, hx176_3, hl176_1, hi176_1, hl176_3, hi176_3⟩ := at_T32 HR0.out x4_1 p176 q176
              cases e176
              replace hx176_0 := (HB.out.cell (World.block_lt_of_cell? w _ hx176_0)).trans hx176_0
              replace hx176_1 := (HB.out.cell (World.block_lt_of_cell? w _ hx176_1)).trans hx176_1
              replace hx176_2 := (HB.out.cell (World.block_lt_of_cell? w _ hx176_2)).trans hx176_2
              replace hx176_3 := (HB.out.cell (World.block_lt_of_cell? w _ hx176_3)).trans hx176_3
              have HR176_1 := Aside0.mk hi176_1
              have HC176_1 := Aside0.mk hl176_1
              clear hi176_1 hl176_1
              have HR176_3 := Aside0.mk hi176_3
              have HC176_3 := Aside0.mk hl176_3
              clear hi176_3 hl176_3
              replace p176 := eq_true p176
              replace q176 := eq_true q176
              go_wp2_with (first | ((with_reducible refine gate_callee (f := 10) rfl ?_); refine goesL_ (some 22) rfl rfl Try.func10 (by kernel_rfl) rfl #[.slice A176_3 ((rd_T32 l0 x4_1).f3).length c176_3] rfl (by (try simp only [List.map_toArray, List.map_cons, List.map_nil]); first | done | rfl | (simp only [List.length_drop, List.length_take]; rfl)) ?_; (with_reducible refine (glacislaw12_short.calls k1 _ _ ((rd_T32 l0 x4_1).f3) true _ ?side1 ?side2 A8.out).mono ?_); (case side1 => repeat (first | exact (Kd.C_below HR176_3.out HB.out) | (with_reducible refine Kd.C_alloc ?_ _) | (with_reducible refine Kd.C_drewN ?_ _) | (with_reducible refine Kd.C_drew ?_))); (case side2 => exact HC176_3.out); rintro e w' ⟨rfl, ⟨nd, rfl⟩⟩; refine ⟨_, rfl, ?_⟩))
              go_roundg k1
              case measure => have := HK1.out; omega
              case rel => exact ⟨(wrap64 (x4_1 + 1)), (by first | rfl | (simp; done) | (simp [*]; done)), H', ⟨by have := HK1.out; omega⟩, ⟨by repeat (first | (with_reducible first | exact HB.out | apply below_alloc | apply pw_below_drewN | apply below_drew1) | exact HB.out)⟩⟩
            · replace c9 := Bool.eq_false_iff.mpr c9
              subst c9
              have H1 : (some t175) = some r := by rw [if_neg (show ¬ (false = true) by decide)] at H; exact H
              clear H
              have H := H1
              clear H1
              obtain rfl := Option.some.inj H
              have p176 : 0 ≤ (x4_1 : Int) := of_decide_eq_true (by first | (with_reducible assumption) | assumption)
              have q176 : x4_1 < (l0.length : Int) := of_decide_eq_true (by first | (with_reducible assumption) | assumption)
              obtain ⟨ad176, A176_1, c176_1, A176_3, c176_3, e176, hx176_0, hx176_1, hx176_2, hx176_3, hl176_1, hi176_1, hl176_3, hi176_3⟩ := at_T32 HR0.out x4_1 p176 q176
              cases e176
              replace hx176_0 := (HB.out.cell (World.block_lt_of_cell? w _ hx176_0)).trans hx176_0
              replace hx176_1 := (HB.out.cell (World.block_lt_of_cell? w _ hx176_1)).trans hx176_1
              replace hx176_2 := (HB.out.cell (World.block_lt_of_cell? w _ hx176_2)).trans hx176_2
              replace hx176_3 := (HB.out.cell (World.block_lt_of_cell? w _ hx176_3)).trans hx176_3
              have HR176_1 := Aside0.mk hi176_1
              have HC176_1 := Aside0.mk hl176_1
              clear hi176_1 hl176_1
              have HR176_3 := Aside0.mk hi176_3
              have HC176_3 := Aside0.mk hl176_3
              clear hi176_3 hl176_3
              replace p176 := eq_true p176
              replace q176 := eq_true q176
              go_wp2_with (first | ((with_reducible refine gate_callee (f := 10) rfl ?_); refine goesL_ (some 22) rfl rfl Try.func10 (by kernel_rfl) rfl #[.slice A176_3 ((rd_T32 l0 x4_1).f3).length c176_3] rfl (by (try simp only [List.map_toArray, List.map_cons, List.map_nil]); first | done | rfl | (simp only [List.length_drop, List.length_take]; rfl)) ?_; (with_reducible refine (glacislaw12_short.calls k1 _ _ ((rd_T32 l0 x4_1).f3) false _ ?side1 ?side2 A8.out).mono ?_); (case side1 => repeat (first | exact (Kd.C_below HR176_3.out HB.out) | (with_reducible refine Kd.C_alloc ?_ _) | (with_reducible refine Kd.C_drewN ?_ _) | (with_reducible refine Kd.C_drew ?_))); (case side2 => exact HC176_3.out); rintro e w' ⟨rfl, ⟨nd, rfl⟩⟩; refine ⟨_, rfl, ?_⟩))
              go_ret
              exact ⟨by first | rfl | (simp [errW_none, errW_some] <;> rfl) | (simp [*, errW_none, errW_some] <;> rfl), by repeat (first | (with_reducible first | exact HB.out | apply below_alloc | apply pw_below_drewN | apply below_drew1) | exact HB.out)⟩
          · rw [if_neg c7] at H
            exact absurd H (by simp)
        · rw [if_neg c6] at H
          have c6b0 : decide (x4_1 < (l0.length : Int)) = false := decide_eq_false c6
          clear c6
          by_cases c10 : t175 = true
          · subst c10
            have H1 : ((sandbox_All.f k1 l0).bind fun t178 => ((glacisref12_All.f k1 l0).bind fun t179 => (some (t178 == t179)))) = some r := by rw [if_pos rfl] at H; exact H
            clear H
            have H := H1
            clear H1
            replace H := Option.bind_eq_some_iff.mp H
            obtain ⟨t178, A110, H⟩ := H
            replace H : ((glacisref12_All.f k1 l0).bind fun t179 => (some (t178 == t179))) = some r := H
            have A11 := Aside0.mk A110
            clear A110
            replace H := Option.bind_eq_some_iff.mp H
            obtain ⟨t179, A120, H⟩ := H
            replace H : (some (t178 == t179)) = some r := H
            have A12 := Aside0.mk A120
            clear A120
            obtain rfl := Option.some.inj H
            go_wp2_with (first | (go_at_call 18; (with_reducible refine (sandbox_All.calls k1 _ _ l0 t178 _ ?side1 ?side2 A11.out).mono ?_); (case side1 => repeat (first | exact (Kd.C_below HR0.out HB.out) | (with_reducible refine Kd.C_alloc ?_ _) | (with_reducible refine Kd.C_drewN ?_ _) | (with_reducible refine Kd.C_drew ?_))); (case side2 => exact HC0.out); rintro e w13 ⟨rfl, hb⟩; have n0_ := Aside0.mk (below_step (by repeat (first | (with_reducible first | exact HB.out | apply below_alloc | apply pw_below_drewN | apply below_drew1) | exact HB.out)) hb); clear HB; have HB := n0_; clear n0_; (try clear hb); (try clear hb2); (try clear hk); (try clear hi)) | (go_at_call 19; (with_reducible refine (glacisref12_All.calls k1 _ _ l0 t179 _ ?side1 ?side2 A12.out).mono ?_); (case side1 => repeat (first | exact (Kd.C_below HR0.out HB.out) | (with_reducible refine Kd.C_alloc ?_ _) | (with_reducible refine Kd.C_drewN ?_ _) | (with_reducible refine Kd.C_drew ?_))); (case side2 => exact HC0.out); rintro e w14 ⟨rfl, hb⟩; have n0_ := Aside0.mk (below_step (by repeat (first | (with_reducible first | exact HB.out | apply below_alloc | apply pw_below_drewN | apply below_drew1) | exact HB.out)) hb); clear HB; have HB := n0_; clear n0_; (try clear hb); (try clear hb2); (try clear hk); (try clear hi)))
            go_ret
            exact ⟨by first | rfl | (simp [errW_none, errW_some] <;> rfl) | (simp [*, errW_none, errW_some] <;> rfl), by repeat (first | (with_reducible first | exact HB.out | apply below_alloc | apply pw_below_drewN | apply below_drew1) | exact HB.out)⟩
          · replace c10 := Bool.eq_false_iff.mpr c10
            subst c10
            have H1 : (none) = some r := by rw [if_neg (show ¬ (false = true) by decide)] at H; exact H
            clear H
            have H := H1
            clear H1
            exact absurd H (by simp)

end Go.Proofs.Ytdccplnfnjpfpaa.X
