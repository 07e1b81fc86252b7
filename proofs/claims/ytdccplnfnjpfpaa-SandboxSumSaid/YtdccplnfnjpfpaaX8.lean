-- Written by a program of this session for this claim (the kit's printer, with contracts of this session's own); Lean checks it.
import Derived.Test.YtdccplnfnjpfpaaX0
import Derived.Test.YtdccplnfnjpfpaaX6
import Derived.Test.YtdccplnfnjpfpaaX7
namespace Go.Proofs.Ytdccplnfnjpfpaa.X
open Go.RowKit Go.Proofs.YtdccplnfnjpfpaaW.PrintWords Go.Proofs.YtdccplnfnjpfpaaW.PrintLast Go.Proofs.YtdccplnfnjpfpaaW.PrintMore
attribute [local go_sem] max2_int min2_int max_two min_two max_three min_three max_four min_four   -- for this text's walks alone
set_option linter.unusedVariables false
set_option linter.unusedSimpArgs false

/-! ### glacisref12_All: function 19 -/
def glacisref12_All.l0 : Nat → List (S32) → Int → Int → Option (Int)
  | 0, _, _, _ => none
  | k + 1, x0, x3, x4 => if x4 < (x0.length : Int) then (if 0 ≤ x4 then (if (rd_T32 x0 x4).f2 = true then ((glacisref12_Flags.f k ((rd_T32 x0 x4).f3)).bind fun t173 => ((glacisref12_Union.f k x3 t173).bind fun t174 => (glacisref12_All.l0 k x0 t174 (wrap64 (x4 + 1))))) else (glacisref12_All.l0 k x0 x3 (wrap64 (x4 + 1)))) else (none)) else (some x3)
def glacisref12_All.f (k : Nat) (l0 : List (S32)) : Option (Int) := glacisref12_All.l0 k l0 0 0
theorem glacisref12_All.mono_l : ∀ k, (∀ y0 y1 y2, LeO (glacisref12_All.l0 k y0 y1 y2) (glacisref12_All.l0 (k + 1) y0 y1 y2))
  | 0 => fun _ _ _ r h => by simp [glacisref12_All.l0] at h
  | k + 1 => by
    have ih0 := glacisref12_All.mono_l k
    · intro y0 y1 y2
      unfold glacisref12_All.l0
      repeat' first
      | (with_reducible exact ih0 _ _ _)
      | (with_reducible exact glacisref12_Flags.mono _ _)
      | (with_reducible exact glacisref12_Union.mono _ _ _)
      | (with_reducible exact LeO.refl _)
      | (with_reducible exact LeO.none _)
      | (with_reducible refine LeO.ite ?_ ?_)
      | (with_reducible refine LeO.bind ?_ (fun _ => ?_))
      | exact ih0 _ _ _
      | exact glacisref12_Flags.mono _ _
      | exact glacisref12_Union.mono _ _ _
      | exact LeO.none _
      | refine LeO.ite ?_ ?_
      | refine LeO.bind ?_ (fun _ => ?_)
theorem glacisref12_All.mono : ∀ a0 k, LeO (glacisref12_All.f k a0) (glacisref12_All.f (k + 1) a0) := by
  intro a0 k
  have ih0 := glacisref12_All.mono_l k
  unfold glacisref12_All.f
  repeat' first
      | (with_reducible exact ih0 _ _ _)
      | (with_reducible exact glacisref12_Flags.mono _ _)
      | (with_reducible exact glacisref12_Union.mono _ _ _)
      | (with_reducible exact LeO.refl _)
      | (with_reducible exact LeO.none _)
      | (with_reducible refine LeO.ite ?_ ?_)
      | (with_reducible refine LeO.bind ?_ (fun _ => ?_))
      | exact ih0 _ _ _
      | exact glacisref12_Flags.mono _ _
      | exact glacisref12_Union.mono _ _ _
      | exact LeO.none _
      | refine LeO.ite ?_ ?_
      | refine LeO.bind ?_ (fun _ => ?_)
set_option maxHeartbeats 8000000 in
set_option maxRecDepth 100000 in
theorem glacisref12_All.calls (k : Nat) (A0 : Option Addr) (c0 : Nat) (l0 : List (S32)) (r : Int) (w : World) (hr0 : Kd.C k32 w A0 l0.length l0) (hc0 : l0.length ≤ c0) (h : glacisref12_All.f k l0 = some r) :
    Calls Try.prog 19 #[.slice A0 l0.length c0] w fun e w' => e = .returned (.int .i64 r) ∧ Below w.heap.size w w' := by
  have HR0 := Aside0.mk hr0
  have HC0 := Aside0.mk hc0
  clear hr0 hc0
  have HB := Aside0.mk (Below.refl w.heap.size w)
  have H : (glacisref12_All.l0 k l0 0 0) = some r := h
  clear h
  have H' := Aside0.mk H
  clear H
  go_enter Try.func19, Try.ntmps19
  go_wp2
  go_loopg [3, 4] k (fun kq v3 v4 w' => ∃ (x3_1 : Int) (x4_1 : Int), v3 = .int .i64 x3_1 ∧ v4 = .int .i64 x4_1 ∧ Aside0 (glacisref12_All.l0 kq l0 x3_1 x4_1 = some r) ∧ Aside0 (kq ≤ k) ∧ Aside0 (Below w.heap.size w w'))
  case atStart => exact ⟨(0), (0), (by first | rfl | (simp; done) | (simp [*]; done)), (by first | rfl | (simp; done) | (simp [*]; done)), H', ⟨Nat.le_refl _⟩, ⟨by repeat (first | (with_reducible first | exact HB.out | apply below_alloc | apply pw_below_drewN | apply below_drew1) | exact HB.out)⟩⟩
  case round =>
    clear H'
    try clear c1
    obtain ⟨x3_1, x4_1, rfl, rfl, HA, HK1, HB⟩ := hrel
    cases gk with
    | zero => exact absurd HA.out (by simp [glacisref12_All.l0])
    | succ k1 =>
      have H := HA.out
      clear HA
      simp only [glacisref12_All.l0] at H
      by_cases c2 : x4_1 < (l0.length : Int)
      · rw [if_pos c2] at H
        have c2b0 : decide (x4_1 < (l0.length : Int)) = true := decide_eq_true c2
        clear c2
        by_cases c3 : 0 ≤ x4_1
        · rw [if_pos c3] at H
          have c3b0 : decide (0 ≤ x4_1) = true := decide_eq_true c3
          clear c3
          obtain ⟨bq4, hbq4⟩ : ∃ b_ : Bool, b_ = ((rd_T32 l0 x4_1).f2) := ⟨_, rfl⟩
          replace H : (if bq4 = true then ((glacisref12_Flags.f k1 ((rd_T32 l0 x4_1).f3)).bind fun t173 => ((glacisref12_Union.f k1 x3_1 t173).bind fun t174 => (glacisref12_All.l0 k1 l0 t174 (wrap64 (x4_1 + 1))))) else (glacisref12_All.l0 k1 l0 x3_1 (wrap64 (x4_1 + 1)))) = some r := by rw [← hbq4] at H; exact H
          have Nbq4 := Aside0.mk hbq4
          clear hbq4
          by_cases c5 : bq4 = true
          · subst c5
            have H1 : ((glacisref12_Flags.f k1 ((rd_T32 l0 x4_1).f3)).bind fun t173 => ((glacisref12_Union.f k1 x3_1 t173).bind fun t174 => (glacisref12_All.l0 k1 l0 t174 (wrap64 (x4_1 + 1))))) = some r := by rw [if_pos rfl] at H; exact H
            clear H
            have H := H1
            clear H1
            replace H := Option.bind_eq_some_iff.mp H
            obtain ⟨t173, A60, H⟩ := H
            replace H : ((glacisref12_Union.f k1 x3_1 t173).bind fun t174 => (glacisref12_All.l0 k1 l0 t174 (wrap64 (x4_1 + 1)))) = some r := H
            have A6 := Aside0.mk A60
            clear A60
            replace H := Option.bind_eq_some_iff.mp H
            obtain ⟨t174, A70, H⟩ := H
            replace H : (glacisref12_All.l0 k1 l0 t174 (wrap64 (x4_1 + 1))) = some r := H
            have A7 := Aside0.mk A70
            clear A70
            have H' := Aside0.mk H
            clear H
            have p171 : 0 ≤ (x4_1 : Int) := of_decide_eq_true (by first | (with_reducible assumption) | assumption)
            have q171 : x4_1 < (l0.length : Int) := of_decide_eq_true (by first | (with_reducible assumption) | assumption)
            obtain ⟨ad171, A171_1, c171_1, A171_3, c171_3, e171, hx171_0, hx171_1, hx171_2, hx171_3, hl171_1, hi171_1, hl171_3, hi171_3⟩ := at_T32 HR0.out x4_1 p171 q171
            (try rw [← Nbq4.out] at hx171_0)
            (try rw [← Nbq4.out] at hx171_2)
            cases e171
            replace hx171_0 := (HB.out.cell (World.block_lt_of_cell? w _ hx171_0)).trans hx171_0
            replace hx171_1 := (HB.out.cell (World.block_lt_of_cell? w _ hx171_1)).trans hx171_1
            replace hx171_2 := (HB.out.cell (World.block_lt_of_cell? w _ hx171_2)).trans hx171_2
            replace hx171_3 := (HB.out.cell (World.block_lt_of_cell? w _ hx171_3)).trans hx171_3
            have HR171_1 := Aside0.mk hi171_1
            have HC171_1 := Aside0.mk hl171_1
            clear hi171_1 hl171_1
            have HR171_3 := Aside0.mk hi171_3
            have HC171_3 := Aside0.mk hl171_3
            clear hi171_3 hl171_3
            replace p171 := eq_true p171
            replace q171 := eq_true q171
            have p172 : 0 ≤ (x4_1 : Int) := of_decide_eq_true (by first | (with_reducible assumption) | assumption)
            have q172 : x4_1 < (l0.length : Int) := of_decide_eq_true (by first | (with_reducible assumption) | assumption)
            obtain ⟨ad172, A172_1, c172_1, A172_3, c172_3, e172, hx172_0, hx172_1, hx172_2, hx172_3, hl172_1, hi172_1, hl172_3, hi172_3⟩ := at_T32 HR0.out x4_1 p172 q172
            (try rw [← Nbq4.out] at hx172_0)
            (try rw [← Nbq4.out] at hx172_2)
            obtain rfl : ad171 = ad172 := (by injection e172)
            replace hx172_0 := (HB.out.cell (World.block_lt_of_cell? w _ hx172_0)).trans hx172_0
            replace hx172_1 := (HB.out.cell (World.block_lt_of_cell? w _ hx172_1)).trans hx172_1
            replace hx172_2 := (HB.out.cell (World.block_lt_of_cell? w _ hx172_2)).trans hx172_2
            replace hx172_3 := (HB.out.cell (World.block_lt_of_cell? w _ hx172_3)).trans hx172_3
            have HR172_1 := Aside0.mk hi172_1
            have HC172_1 := Aside0.mk hl172_1
            clear hi172_1 hl172_1
            have HR172_3 := Aside0.mk hi172_3
            have HC172_3 := Aside0.mk hl172_3
            clear hi172_3 hl172_3
            replace p172 := eq_true p172
            replace q172 := eq_true q172
            have ea_ := Option.some.inj (hx171_1.symm.trans hx172_1)
            injection ea_ with ea_ en_ ec_
            subst ea_
            subst ec_
            clear en_
            have ea_ := Option.some.inj (hx171_3.symm.trans hx172_3)
            injection ea_ with ea_ en_ ec_
            subst ea_
            subst ec_
            clear en_
            go_wp2_with (first | ((with_reducible refine gate_callee (f := 15) rfl ?_); refine goesL_ (some 22) rfl rfl Try.func15 (by kernel_rfl) rfl #[.slice A171_3 ((rd_T32 l0 x4_1).f3).length c171_3] rfl (by (try simp only [List.map_toArray, List.map_cons, List.map_nil]); first | done | rfl | (simp only [List.length_drop, List.length_take]; rfl)) ?_; (with_reducible refine (glacisref12_Flags.calls k1 _ _ ((rd_T32 l0 x4_1).f3) t173 _ ?side1 ?side2 A6.out).mono ?_); (case side1 => repeat (first | exact (Kd.C_below HR172_3.out HB.out) | (with_reducible refine Kd.C_alloc ?_ _) | (with_reducible refine Kd.C_drewN ?_ _) | (with_reducible refine Kd.C_drew ?_))); (case side2 => exact HC172_3.out); rintro e w8 ⟨rfl, hb⟩; refine ⟨_, rfl, ?_⟩; have n0_ := Aside0.mk (below_step (by repeat (first | (with_reducible first | exact HB.out | apply below_alloc | apply pw_below_drewN | apply below_drew1) | exact HB.out)) hb); clear HB; have HB := n0_; clear n0_; (try clear hb); (try clear hb2); (try clear hk); (try clear hi)) | ((with_reducible refine gate_callee (f := 20) rfl ?_); refine goesL_ (some 23) rfl rfl Try.func20 (by kernel_rfl) rfl #[.int .i64 x3_1, .int .i64 t173] rfl (by (try simp only [List.map_toArray, List.map_cons, List.map_nil]); first | done | rfl | (simp only [List.length_drop, List.length_take]; rfl)) ?_; (with_reducible refine (glacisref12_Union.calls k1 x3_1 t173 t174 _ A7.out).mono ?_); rintro e w' ⟨rfl, ⟨nd, rfl⟩⟩; refine ⟨_, rfl, ?_⟩))
            go_roundg k1
            case measure => have := HK1.out; omega
            case rel => exact ⟨(t174), (wrap64 (x4_1 + 1)), (by first | rfl | (simp; done) | (simp [*]; done)), (by first | rfl | (simp; done) | (simp [*]; done)), H', ⟨by have := HK1.out; omega⟩, ⟨by repeat (first | (with_reducible first | exact HB.out | apply below_alloc | apply pw_below_drewN | apply below_drew1) | exact HB.out)⟩⟩
          · replace c5 := Bool.eq_false_iff.mpr c5
            subst c5
            have H1 : (glacisref12_All.l0 k1 l0 x3_1 (wrap64 (x4_1 + 1))) = some r := by rw [if_neg (show ¬ (false = true) by decide)] at H; exact H
            clear H
            have H := H1
            clear H1
            have H' := Aside0.mk H
            clear H
            have p171 : 0 ≤ (x4_1 : Int) := of_decide_eq_true (by first | (with_reducible assumption) | assumption)
            have q171 : x4_1 < (l0.length : Int) := of_decide_eq_true (by first | (with_reducible assumption) | assumption)
            obtain ⟨ad171, A171_1, c171_1, A171_3, c171_3, e171, hx171_0, hx171_1, hx171_2, hx171_3, hl171_1, hi171_1, hl171_3, hi171_3⟩ := at_T32 HR0.out x4_1 p171 q171
            (try rw [← Nbq4.out] at hx171_0)
            (try rw [← Nbq4.out] at hx171_2)
            cases e171
            replace hx171_0 := (HB.out.cell (World.block_lt_of_cell? w _ hx171_0)).trans hx171_0
            replace hx171_1 := (HB.out.cell (World.block_lt_of_cell? w _ hx171_1)).trans hx171_1
            replace hx171_2 := (HB.out.cell (World.block_lt_of_cell? w _ hx171_2)).trans hx171_2
            replace hx171_3 := (HB.out.cell (World.block_lt_of_cell? w _ hx171_3)).trans hx171_3
            have HR171_1 := Aside0.mk hi171_1
            have HC171_1 := Aside0.mk hl171_1
            clear hi171_1 hl171_1
            have HR171_3 := Aside0.mk hi171_3
            have HC171_3 := Aside0.mk hl171_3
            clear hi171_3 hl171_3
            replace p171 := eq_true p171
            replace q171 := eq_true q171
            go_wp2
            go_roundg k1
            case measure => have := HK1.out; omega
            case rel => exact ⟨(x3_1), (wrap64 (x4_1 + 1)), (by first | rfl | (simp; done) | (simp [*]; done)), (by first | rfl | (simp; done) | (simp [*]; done)), H', ⟨by have := HK1.out; omega⟩, ⟨by repeat (first | (with_reducible first | exact HB.out | apply below_alloc | apply pw_below_drewN | apply below_drew1) | exact HB.out)⟩⟩
        · rw [if_neg c3] at H
          exact absurd H (by simp)
      · rw [if_neg c2] at H
        have c2b0 : decide (x4_1 < (l0.length : Int)) = false := decide_eq_false c2
        clear c2
        obtain rfl := Option.some.inj H
        go_wp2
        go_ret
        exact ⟨by first | rfl | (simp [errW_none, errW_some] <;> rfl) | (simp [*, errW_none, errW_some] <;> rfl), by repeat (first | (with_reducible first | exact HB.out | apply below_alloc | apply pw_below_drewN | apply below_drew1) | exact HB.out)⟩

end Go.Proofs.Ytdccplnfnjpfpaa.X
