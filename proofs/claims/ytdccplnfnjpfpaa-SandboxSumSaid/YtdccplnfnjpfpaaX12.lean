-- Written by a program of this session for this claim (the kit's printer, with contracts of this session's own); Lean checks it.
import Derived.Test.YtdccplnfnjpfpaaX0
import Derived.Test.YtdccplnfnjpfpaaX2
import Derived.Test.YtdccplnfnjpfpaaX3
import Derived.Test.YtdccplnfnjpfpaaX4
namespace Go.Proofs.Ytdccplnfnjpfpaa.X
open Go.RowKit Go.Proofs.YtdccplnfnjpfpaaW.PrintWords Go.Proofs.YtdccplnfnjpfpaaW.PrintLast Go.Proofs.YtdccplnfnjpfpaaW.PrintMore
attribute [local go_sem] max2_int min2_int max_two min_two max_three min_three max_four min_four   -- for this text's walks alone
set_option linter.unusedVariables false
set_option linter.unusedSimpArgs false

/-! ### glacislaw12_SandboxSum: function 8 -/
mutual
def glacislaw12_SandboxSum.j0 : Nat → List ByteArray → Bool → Bool → Option (Bool)
  | 0, _, _, _ => none
  | k + 1, x0, x3, x17 => if x17 = true then (some x3) else (glacislaw12_SandboxSum.l0 k x0 x3 63 0)
def glacislaw12_SandboxSum.l0 : Nat → List ByteArray → Bool → Int → Int → Option (Bool)
  | 0, _, _, _, _ => none
  | k + 1, x0, x3, x5, x6 => if x6 < (x0.length : Int) then (if 0 ≤ x6 then (if x6 ≤ (wrap64 (x6 + 1)) then (if (wrap64 (x6 + 1)) ≤ (x0.length : Int) then ((sandbox_Flags.f ((x0.take ((wrap64 (x6 + 1)) : Int).toNat).drop (x6 : Int).toNat)).bind fun t250 => (glacislaw12_SandboxSum.l0 k x0 x3 (Go.bits .and .i64 x5 t250) (wrap64 (x6 + 1)))) else (none)) else (none)) else (none)) else ((sandbox_All.f k (([(⟨false, ([] : List ByteArray), true, x0⟩ : S32), (⟨false, ([] : List ByteArray), false, x0⟩ : S32)] : List (S32)))).bind fun t254 => (if x3 = true then ((sandbox_Flags.f x0).bind fun t255 => (if t255 = x5 then (some (t254 == x5)) else (none))) else (none)))
end
def glacislaw12_SandboxSum.f (k : Nat) (l0 : List ByteArray) : Option (Bool) := (glacislaw12_awake.f k).bind fun t243 => ((glacislaw12_short.f k l0).bind fun t244 => (if t244 = true then (glacislaw12_SandboxSum.j0 k l0 t243 (decide ((l0.length : Int) > 60))) else (glacislaw12_SandboxSum.j0 k l0 t243 true)))
theorem glacislaw12_SandboxSum.mono_l : ∀ k, (∀ y0 y1 y2, LeO (glacislaw12_SandboxSum.j0 k y0 y1 y2) (glacislaw12_SandboxSum.j0 (k + 1) y0 y1 y2)) ∧ (∀ y0 y1 y2 y3, LeO (glacislaw12_SandboxSum.l0 k y0 y1 y2 y3) (glacislaw12_SandboxSum.l0 (k + 1) y0 y1 y2 y3))
  | 0 => ⟨fun _ _ _ r h => by simp [glacislaw12_SandboxSum.j0] at h, fun _ _ _ _ r h => by simp [glacislaw12_SandboxSum.l0] at h⟩
  | k + 1 => by
    obtain ⟨ih0, ih1⟩ := glacislaw12_SandboxSum.mono_l k
    refine ⟨?_, ?_⟩
    · intro y0 y1 y2
      unfold glacislaw12_SandboxSum.j0
      repeat' first
      | (with_reducible exact ih0 _ _ _)
      | (with_reducible exact ih1 _ _ _ _)
      | (with_reducible exact glacislaw12_awake.mono _)
      | (with_reducible exact glacislaw12_short.mono _ _)
      | (with_reducible exact sandbox_All.mono _ _)
      | (with_reducible exact LeO.refl _)
      | (with_reducible exact LeO.none _)
      | (with_reducible refine LeO.ite ?_ ?_)
      | (with_reducible refine LeO.bind ?_ (fun _ => ?_))
      | exact ih0 _ _ _
      | exact ih1 _ _ _ _
      | exact glacislaw12_awake.mono _
      | exact glacislaw12_short.mono _ _
      | exact sandbox_All.mono _ _
      | exact LeO.none _
      | refine LeO.ite ?_ ?_
      | refine LeO.bind ?_ (fun _ => ?_)
    · intro y0 y1 y2 y3
      unfold glacislaw12_SandboxSum.l0
      repeat' first
      | (with_reducible exact ih0 _ _ _)
      | (with_reducible exact ih1 _ _ _ _)
      | (with_reducible exact glacislaw12_awake.mono _)
      | (with_reducible exact glacislaw12_short.mono _ _)
      | (with_reducible exact sandbox_All.mono _ _)
      | (with_reducible exact LeO.refl _)
      | (with_reducible exact LeO.none _)
      | (with_reducible refine LeO.ite ?_ ?_)
      | (with_reducible refine LeO.bind ?_ (fun _ => ?_))
      | exact ih0 _ _ _
      | exact ih1 _ _ _ _
      | exact glacislaw12_awake.mono _
      | exact glacislaw12_short.mono _ _
      | exact sandbox_All.mono _ _
      | exact LeO.none _
      | refine LeO.ite ?_ ?_
      | refine LeO.bind ?_ (fun _ => ?_)
theorem glacislaw12_SandboxSum.mono : ∀ a0 k, LeO (glacislaw12_SandboxSum.f k a0) (glacislaw12_SandboxSum.f (k + 1) a0) := by
  intro a0 k
  obtain ⟨ih0, ih1⟩ := glacislaw12_SandboxSum.mono_l k
  unfold glacislaw12_SandboxSum.f
  repeat' first
      | (with_reducible exact ih0 _ _ _)
      | (with_reducible exact ih1 _ _ _ _)
      | (with_reducible exact glacislaw12_awake.mono _)
      | (with_reducible exact glacislaw12_short.mono _ _)
      | (with_reducible exact sandbox_All.mono _ _)
      | (with_reducible exact LeO.refl _)
      | (with_reducible exact LeO.none _)
      | (with_reducible refine LeO.ite ?_ ?_)
      | (with_reducible refine LeO.bind ?_ (fun _ => ?_))
      | exact ih0 _ _ _
      | exact ih1 _ _ _ _
      | exact glacislaw12_awake.mono _
      | exact glacislaw12_short.mono _ _
      | exact sandbox_All.mono _ _
      | exact LeO.none _
      | refine LeO.ite ?_ ?_
      | refine LeO.bind ?_ (fun _ => ?_)
set_option maxHeartbeats 8000000 in
set_option maxRecDepth 100000 in
theorem glacislaw12_SandboxSum.calls (k : Nat) (P0_ : Nat → Prop) (A0 : Option Addr) (c0 : Nat) (l0 : List ByteArray) (r : Bool) (w : World) (hs0 : Kd.V Kd.string 9 w w.heap.size (fun k_ => P0_ k_) (.slice A0 l0.length c0) l0) (h : glacislaw12_SandboxSum.f k l0 = some r) :
    Calls Try.prog 8 #[.slice A0 l0.length c0] w fun e w' => e = .returned (.bool r) ∧ Below w.heap.size w w' := by
  have hu32 := Try.underlying32
  have HO0 := Aside0.mk (show Kd.V Kd.string 9 w w.heap.size (fun k_ => (P0_ k_ ∨ w.heap.size ≤ k_)) (.slice A0 l0.length c0) l0 from Kd.V_mono hs0 (fun k_ hk => .inl hk))
  have HB := Aside0.mk (Below.refl w.heap.size w)
  have H : ((glacislaw12_awake.f k).bind fun t243 => ((glacislaw12_short.f k l0).bind fun t244 => (if t244 = true then (glacislaw12_SandboxSum.j0 k l0 t243 (decide ((l0.length : Int) > 60))) else (glacislaw12_SandboxSum.j0 k l0 t243 true)))) = some r := h
  clear h
  replace H := Option.bind_eq_some_iff.mp H
  obtain ⟨t243, A20, H⟩ := H
  replace H : ((glacislaw12_short.f k l0).bind fun t244 => (if t244 = true then (glacislaw12_SandboxSum.j0 k l0 t243 (decide ((l0.length : Int) > 60))) else (glacislaw12_SandboxSum.j0 k l0 t243 true))) = some r := H
  have A2 := Aside0.mk A20
  clear A20
  replace H := Option.bind_eq_some_iff.mp H
  obtain ⟨t244, A30, H⟩ := H
  replace H : (if t244 = true then (glacislaw12_SandboxSum.j0 k l0 t243 (decide ((l0.length : Int) > 60))) else (glacislaw12_SandboxSum.j0 k l0 t243 true)) = some r := H
  have A3 := Aside0.mk A30
  clear A30
  have HC4 := Aside0.mk H
  clear H
  go_enter Try.func8, Try.ntmps8
  go_upto_region 3 with (first | ((with_reducible refine gate_callee (f := 9) rfl ?_); refine goesL_ (some 8) rfl rfl Try.func9 (by kernel_rfl) rfl #[] rfl (by (try simp only [List.map_toArray, List.map_cons, List.map_nil]); first | done | rfl | (simp only [List.length_drop, List.length_take]; rfl)) ?_; (with_reducible refine (glacislaw12_awake.calls k  t243 _ A2.out).mono ?_); rintro e w5 ⟨rfl, hb⟩; refine ⟨_, rfl, ?_⟩; have n0_ := Aside0.mk (Kd.V_below (by (with_reducible repeat (first | apply Kd.V_alloc | apply Kd.V_drewN | apply Kd.V_drew)); exact HO0.out) hb); have n1_ := Aside0.mk (below_step (by repeat (first | (with_reducible first | exact HB.out | apply below_alloc | apply pw_below_drewN | apply below_drew1) | exact HB.out)) hb); clear HO0; clear HB; have HO0 := n0_; have HB := n1_; clear n0_ n1_; (try clear hb); (try clear hb2); (try clear hk); (try clear hi)) | ((with_reducible refine gate_callee (f := 10) rfl ?_); refine goesL_ (some 10) rfl rfl Try.func10 (by kernel_rfl) rfl #[.slice A0 l0.length c0] rfl (by (try simp only [List.map_toArray, List.map_cons, List.map_nil]); first | done | rfl | (simp only [List.length_drop, List.length_take]; rfl)) ?_; (with_reducible refine (glacislaw12_short.calls k _ _ l0 t244 _ ?side1 ?side2 A3.out).mono ?_); (case side1 => repeat (first | exact (Kd.V_reads' HO0.out).2.2 | (with_reducible refine Kd.C_alloc ?_ _) | (with_reducible refine Kd.C_drewN ?_ _) | (with_reducible refine Kd.C_drew ?_))); (case side2 => exact (Kd.V_reads' HO0.out).2.1); rintro e w' ⟨rfl, ⟨nd, rfl⟩⟩; refine ⟨_, rfl, ?_⟩))
  (try simp only [Act.put, List.setIfInBounds_toArray, List.set_cons_zero, List.set_cons_succ])
  go_cut [17] (fun v17 wc => ∃ (kq : Nat) (x17_3 : Bool), v17 = .bool x17_3 ∧ Aside0 (glacislaw12_SandboxSum.j0 kq l0 t243 x17_3 = some r) ∧ Aside0 (kq ≤ k) ∧ Aside0 (Kd.V Kd.string 9 wc w.heap.size (fun k_ => (P0_ k_ ∨ w.heap.size ≤ k_)) (.slice A0 l0.length c0) l0) ∧ Aside0 (Below w.heap.size w wc))
  case first =>
    have H := HC4.out
    clear HC4
    by_cases c6 : t244 = true
    · subst c6
      have H1 : (glacislaw12_SandboxSum.j0 k l0 t243 (decide ((l0.length : Int) > 60))) = some r := by rw [if_pos rfl] at H; exact H
      clear H
      have H := H1
      clear H1
      have H' := Aside0.mk H
      clear H
      go_wp2
      go_meet
      case rel => exact ⟨_, (decide ((l0.length : Int) > 60)), (by first | rfl | (simp; done) | (simp [*]; done)), H', ⟨by first | omega | exact Nat.le_refl _⟩, ⟨by (with_reducible repeat (first | apply Kd.V_alloc | apply Kd.V_drewN | apply Kd.V_drew)); exact HO0.out⟩, ⟨by repeat (first | (with_reducible first | exact HB.out | apply below_alloc | apply pw_below_drewN | apply below_drew1) | exact HB.out)⟩⟩
    · replace c6 := Bool.eq_false_iff.mpr c6
      subst c6
      have H1 : (glacislaw12_SandboxSum.j0 k l0 t243 true) = some r := by rw [if_neg (show ¬ (false = true) by decide)] at H; exact H
      clear H
      have H := H1
      clear H1
      have H' := Aside0.mk H
      clear H
      go_wp2
      go_meet
      case rel => exact ⟨_, (true), (by first | rfl | (simp; done) | (simp [*]; done)), H', ⟨by first | omega | exact Nat.le_refl _⟩, ⟨by (with_reducible repeat (first | apply Kd.V_alloc | apply Kd.V_drewN | apply Kd.V_drew)); exact HO0.out⟩, ⟨by repeat (first | (with_reducible first | exact HB.out | apply below_alloc | apply pw_below_drewN | apply below_drew1) | exact HB.out)⟩⟩
  case rest =>
    clear HC4
    try clear c1
    try clear p2
    try clear c6
    obtain ⟨kq, x17_3, rfl, HA, HJ3, HO_0, HB⟩ := hcut
    cases kq with
    | zero => exact absurd HA.out (by simp [glacislaw12_SandboxSum.j0])
    | succ kj3 =>
      have H := HA.out
      clear HA
      simp only [glacislaw12_SandboxSum.j0] at H
      by_cases c7 : x17_3 = true
      · subst c7
        have H1 : (some t243) = some r := by rw [if_pos rfl] at H; exact H
        clear H
        have H := H1
        clear H1
        obtain rfl := Option.some.inj H
        go_wp2
        go_ret
        exact ⟨by first | rfl | (simp [errW_none, errW_some] <;> rfl) | (simp [*, errW_none, errW_some] <;> rfl), by repeat (first | (with_reducible first | exact HB.out | apply below_alloc | apply pw_below_drewN | apply below_drew1) | exact HB.out)⟩
      · replace c7 := Bool.eq_false_iff.mpr c7
        subst c7
        have H1 : (glacislaw12_SandboxSum.l0 kj3 l0 t243 63 0) = some r := by rw [if_neg (show ¬ (false = true) by decide)] at H; exact H
        clear H
        have H := H1
        clear H1
        have H' := Aside0.mk H
        clear H
        go_wp2
        go_loopg [5, 6] kj3 (fun kq v5 v6 w' => ∃ (x5_2 : Int) (x6_2 : Int), v5 = .int .i64 x5_2 ∧ v6 = .int .i64 x6_2 ∧ Aside0 (glacislaw12_SandboxSum.l0 kq l0 t243 x5_2 x6_2 = some r) ∧ Aside0 (kq ≤ kj3) ∧ Aside0 (Kd.V Kd.string 9 w' w.heap.size (fun k_ => (P0_ k_ ∨ w.heap.size ≤ k_)) (.slice A0 l0.length c0) l0) ∧ Aside0 (Below w.heap.size w w'))
        case atStart => exact ⟨(63), (0), (by first | rfl | (simp; done) | (simp [*]; done)), (by first | rfl | (simp; done) | (simp [*]; done)), H', ⟨Nat.le_refl _⟩, ⟨by (with_reducible repeat (first | apply Kd.V_alloc | apply Kd.V_drewN | apply Kd.V_drew)); exact HO_0.out⟩, ⟨by repeat (first | (with_reducible first | exact HB.out | apply below_alloc | apply pw_below_drewN | apply below_drew1) | exact HB.out)⟩⟩
        case round =>
          clear H'
          try clear c1
          try clear p2
          try clear c6
          try clear c7
          try clear p2
          obtain ⟨x5_2, x6_2, rfl, rfl, HA, HK2, HO_0, HB⟩ := hrel
          cases gk with
          | zero => exact absurd HA.out (by simp [glacislaw12_SandboxSum.l0])
          | succ k2 =>
            have H := HA.out
            clear HA
            simp only [glacislaw12_SandboxSum.l0] at H
            by_cases c8 : x6_2 < (l0.length : Int)
            · rw [if_pos c8] at H
              have c8b0 : decide (x6_2 < (l0.length : Int)) = true := decide_eq_true c8
              clear c8
              by_cases c9 : 0 ≤ x6_2
              · rw [if_pos c9] at H
                have c9b0 := eq_true c9
                have c9b1 : decide (0 ≤ x6_2) = true := decide_eq_true c9
                clear c9
                by_cases c10 : x6_2 ≤ (wrap64 (x6_2 + 1))
                · rw [if_pos c10] at H
                  have c10b0 := eq_true c10
                  have c10b1 : decide (x6_2 ≤ (wrap64 (x6_2 + 1))) = true := decide_eq_true c10
                  by_cases c11 : (wrap64 (x6_2 + 1)) ≤ (l0.length : Int)
                  · rw [if_pos c11] at H
                    have c11b0 := eq_true c11
                    have c11b1 : decide ((wrap64 (x6_2 + 1)) ≤ (l0.length : Int)) = true := decide_eq_true c11
                    obtain ⟨y245, hy245⟩ : ∃ y_ : List ByteArray, y_ = ((l0.take ((wrap64 (x6_2 + 1)) : Int).toNat).drop (x6_2 : Int).toNat) := ⟨_, rfl⟩
                    replace H : ((sandbox_Flags.f y245).bind fun t250 => (glacislaw12_SandboxSum.l0 k2 l0 t243 (Go.bits .and .i64 x5_2 t250) (wrap64 (x6_2 + 1)))) = some r := by first | (rw [hy245]; with_reducible exact H) | (have H2_ := (Option.bind_some _ _).symm.trans H; rw [hy245]; with_reducible exact H2_) | (have H2_ := (Option.bind_some _ _).symm.trans H; with_reducible exact H2_) | with_reducible exact H | (rw [hy245]; exact H) | exact H
                    have Ny245 := Aside0.mk hy245
                    clear hy245
                    replace H := Option.bind_eq_some_iff.mp H
                    obtain ⟨t250, A120, H⟩ := H
                    replace H : (glacislaw12_SandboxSum.l0 k2 l0 t243 (Go.bits .and .i64 x5_2 t250) (wrap64 (x6_2 + 1))) = some r := H
                    have A12 := Aside0.mk A120
                    clear A120
                    have H' := Aside0.mk H
                    clear H
                    have q13 : ((wrap64 (x6_2 + 1)) : Int) ≤ ((l0.length : Int) : Int) := of_decide_eq_true (by first | (with_reducible assumption) | assumption)
                    obtain ⟨i013, hi013, _, hsz13, _⟩ := info_parts info9
                    have hroom13 : l0.length ≤ c0 := (Kd.V_reads' HO_0.out).2.1
                    have hC13 : Kd.F Kd.string _ _ A0 l0.length l0 := (Kd.V_at (base := w.heap.size) HO_0.out).2.2
                    have ql13 : (x6_2 : Int) ≤ ((wrap64 (x6_2 + 1)) : Int) := of_decide_eq_true (by first | (with_reducible assumption) | assumption)
                    have q013 : (0 : Int) ≤ (x6_2 : Int) := of_decide_eq_true (by first | (with_reducible assumption) | assumption)
                    have hcut13 := cut_mid (P := Try.prog) 23 9 .i64 .i64 Try.underlying23 hi013 1 hsz13 A0 l0.length c0 x6_2 (wrap64 (x6_2 + 1)) q013 ql13 q13 hroom13
                    have hr13 := Kd.F_mid (lo := (x6_2 : Int).toNat) (hi := ((wrap64 (x6_2 + 1)) : Int).toNat) (c := c0) hC13 (by omega) (by omega) hroom13
                    obtain ⟨A13, hA13⟩ : ∃ A1, A1 = (if c0 = (x6_2 : Int).toNat then A0 else (A0 : Option Addr).map (·.add ((x6_2 : Int).toNat * 1))) := ⟨_, rfl⟩
                    obtain ⟨c13, hc13⟩ : ∃ c1, c1 = c0 - (x6_2 : Int).toNat := ⟨_, rfl⟩
                    have hy13 : y245.length = ((wrap64 (x6_2 + 1)) : Int).toNat - (x6_2 : Int).toNat := (by rw [Ny245.out, List.length_drop, List.length_take] <;> omega)
                    rw [show ((l0).take ((wrap64 (x6_2 + 1)) : Int).toNat).drop (x6_2 : Int).toNat = y245 from Ny245.out.symm] at hr13
                    replace hr13 : Kd.F Kd.string _ _ A13 y245.length y245 := (by rw [hA13]; exact hr13)
                    rw [← hy13, ← hA13, ← hc13] at hcut13
                    have HO249 := Aside0.mk (show Kd.V Kd.string 9 _ w.heap.size _ (.slice A13 y245.length c13) y245 from Kd.V_mk (by rw [hy13, hc13]; exact Nat.sub_le_sub_right (Nat.le_trans (by omega) hroom13) _) hr13)
                    have HC249 := Aside0.mk (show y245.length ≤ c13 from by rw [hy13, hc13]; exact Nat.sub_le_sub_right (Nat.le_trans (by omega) hroom13) _)
                    clear hr13 hC13 hroom13 hi013 hsz13 hc13
                    have KY13 := Aside0.mk hy13
                    have KA13 := Aside0.mk hA13
                    clear hy13 hA13
                    replace q13 := eq_true q13
                    go_wp2_with (first | ((with_reducible refine gate_callee (f := 14) rfl ?_); refine goesL_ (some 31) rfl rfl Try.func14 (by kernel_rfl) rfl #[.slice A13 y245.length c13] rfl (by (try simp only [List.map_toArray, List.map_cons, List.map_nil]); first | done | rfl | (simp only [List.length_drop, List.length_take]; rfl)) ?_; (with_reducible refine (sandbox_Flags.calls _ _ y245 t250 _ ?side1 ?side2 A12.out).mono ?_); (case side1 => repeat (first | exact (Kd.V_reads' HO249.out).2.2 | (with_reducible refine Kd.C_alloc ?_ _) | (with_reducible refine Kd.C_drewN ?_ _) | (with_reducible refine Kd.C_drew ?_))); (case side2 => exact (Kd.V_reads' HO249.out).2.1); rintro e w14 ⟨rfl, hb⟩; refine ⟨_, rfl, ?_⟩; have n0_ := Aside0.mk (Kd.V_below (by (with_reducible repeat (first | apply Kd.V_alloc | apply Kd.V_drewN | apply Kd.V_drew)); exact HO_0.out) hb); have n1_ := Aside0.mk (Kd.V_below (by (with_reducible repeat (first | apply Kd.V_alloc | apply Kd.V_drewN | apply Kd.V_drew)); exact HO249.out) hb); have n2_ := Aside0.mk (below_step (by repeat (first | (with_reducible first | exact HB.out | apply below_alloc | apply pw_below_drewN | apply below_drew1) | exact HB.out)) hb); clear HO_0; clear HO249; clear HB; have HO_0 := n0_; have HO249 := n1_; have HB := n2_; clear n0_ n1_ n2_; (try clear hb); (try clear hb2); (try clear hk); (try clear hi)))
                    go_roundg k2
                    case measure => have := HJ3.out; have := HK2.out; omega
                    case rel => exact ⟨(Go.bits .and .i64 x5_2 t250), (wrap64 (x6_2 + 1)), (by first | rfl | (simp; done) | (simp [*]; done)), (by first | rfl | (simp; done) | (simp [*]; done)), H', ⟨by have := HJ3.out; have := HK2.out; omega⟩, ⟨by (with_reducible repeat (first | apply Kd.V_alloc | apply Kd.V_drewN | apply Kd.V_drew)); exact HO_0.out⟩, ⟨by repeat (first | (with_reducible first | exact HB.out | apply below_alloc | apply pw_below_drewN | apply below_drew1) | exact HB.out)⟩⟩
                  · rw [if_neg c11] at H
                    exact absurd H (by simp)
                · rw [if_neg c10] at H
                  exact absurd H (by simp)
              · rw [if_neg c9] at H
                exact absurd H (by simp)
            · rw [if_neg c8] at H
              have c8b0 : decide (x6_2 < (l0.length : Int)) = false := decide_eq_false c8
              clear c8
              obtain ⟨y251, hy251⟩ : ∃ y_ : List (S32), y_ = (([(⟨false, ([] : List ByteArray), true, l0⟩ : S32), (⟨false, ([] : List ByteArray), false, l0⟩ : S32)] : List (S32))) := ⟨_, rfl⟩
              replace H : ((sandbox_All.f k2 y251).bind fun t254 => (if t243 = true then ((sandbox_Flags.f l0).bind fun t255 => (if t255 = x5_2 then (some (t254 == x5_2)) else (none))) else (none))) = some r := by first | (rw [hy251]; with_reducible exact H) | (have H2_ := (Option.bind_some _ _).symm.trans H; rw [hy251]; with_reducible exact H2_) | (have H2_ := (Option.bind_some _ _).symm.trans H; with_reducible exact H2_) | with_reducible exact H | (rw [hy251]; exact H) | exact H
              have Ny251 := Aside0.mk hy251
              clear hy251
              replace H := Option.bind_eq_some_iff.mp H
              obtain ⟨t254, A150, H⟩ := H
              replace H : (if t243 = true then ((sandbox_Flags.f l0).bind fun t255 => (if t255 = x5_2 then (some (t254 == x5_2)) else (none))) else (none)) = some r := H
              have A15 := Aside0.mk A150
              clear A150
              by_cases c16 : t243 = true
              · subst c16
                have H1 : ((sandbox_Flags.f l0).bind fun t255 => (if t255 = x5_2 then (some (t254 == x5_2)) else (none))) = some r := by rw [if_pos rfl] at H; exact H
                clear H
                have H := H1
                clear H1
                replace H := Option.bind_eq_some_iff.mp H
                obtain ⟨t255, A170, H⟩ := H
                replace H : (if t255 = x5_2 then (some (t254 == x5_2)) else (none)) = some r := H
                have A17 := Aside0.mk A170
                clear A170
                by_cases c18 : t255 = x5_2
                · rw [if_pos c18] at H
                  have c18b0 : (t255 == x5_2) = true := beq_iff_eq.mpr c18
                  have c18b1 : (t255 != x5_2) = false := bne_eq_false_iff_eq.mpr c18
                  clear c18
                  obtain rfl := Option.some.inj H
                  go_wp2_with (first | ((with_reducible refine gate_dst (N := 37) rfl ?_); (try (refine gate_guard (by rfl) ?_; dsimp only)); refine Kd.N_lit k32 _ 32 ?hg (N' := 37) ?hd (xs := ([(⟨false, ([] : List ByteArray), true, l0⟩ : S32), (⟨false, ([] : List ByteArray), false, l0⟩ : S32)] : List (S32))) (inner := [.bool false, .slice none 0 0, .bool true, .slice A0 l0.length c0, .bool false, .slice none 0 0, .bool false, .slice A0 l0.length c0]) (ok := (fun k_ => (P0_ k_ ∨ w.heap.size ≤ k_))) (okp := (fun k_ => (P0_ k_ ∨ w.heap.size ≤ k_))) ?hr ?hp (fun _ hk => hk) ((show ∀ k_, wr.heap.size ≤ k_ → (fun k_ => (P0_ k_ ∨ w.heap.size ≤ k_)) k_ from fun k_ hk => (.inr (Nat.le_trans (below_size (by repeat (first | (with_reducible first | exact HB.out | apply below_alloc | apply pw_below_drewN | apply below_drew1) | exact HB.out))) hk))) _ (Nat.le_refl _)) (Below.refl _ _) (Nat.le_refl _) (by simp) ?_; (case hd => rfl); (case hg => rfl); (case hr => first | (go_simp; done) | (go_simp; rfl)); (case hp => exact (Reps.c4 (show Kd.FK k32 _ _ (⟨false, ([] : List ByteArray), true, l0⟩ : S32) [.bool false, .slice none 0 0, .bool true, .slice A0 l0.length c0] from (k32_mkF _ _ (⟨false, ([] : List ByteArray), true, l0⟩ : S32) (Nat.le_refl _) (Kd.F_nil _ _ _) (Kd.V_reads' (Kd.V_mono (ok' := (fun k_ => (P0_ k_ ∨ w.heap.size ≤ k_))) (HO_0.out) (fun k_ hk => hk))).2.1 (Kd.V_F (Kd.V_mono (ok' := (fun k_ => (P0_ k_ ∨ w.heap.size ≤ k_))) (HO_0.out) (fun k_ hk => hk))))) (Reps.c4 (show Kd.FK k32 _ _ (⟨false, ([] : List ByteArray), false, l0⟩ : S32) [.bool false, .slice none 0 0, .bool false, .slice A0 l0.length c0] from (k32_mkF _ _ (⟨false, ([] : List ByteArray), false, l0⟩ : S32) (Nat.le_refl _) (Kd.F_nil _ _ _) (Kd.V_reads' (Kd.V_mono (ok' := (fun k_ => (P0_ k_ ∨ w.heap.size ≤ k_))) (HO_0.out) (fun k_ hk => hk))).2.1 (Kd.V_F (Kd.V_mono (ok' := (fun k_ => (P0_ k_ ∨ w.heap.size ≤ k_))) (HO_0.out) (fun k_ hk => hk))))) (Reps.none _ _)))); intro v252 w19 ho20 hb hg_ hnew_; clear hg_ hnew_; (first | rw [← Ny251.out] at ho20 | (simp only [Int.reduceToNat] at ho20; rw [← Ny251.out] at ho20)); have n0_ := Aside0.mk (Kd.V_elder' (by (with_reducible repeat (first | apply Kd.V_alloc | apply Kd.V_drewN | apply Kd.V_drew)); exact HO_0.out) (Kd.N_base ho20) hb); have n1_ := Aside0.mk (Kd.N_lower ho20 (below_size (by repeat (first | (with_reducible first | exact HB.out | apply below_alloc | apply pw_below_drewN | apply below_drew1) | exact HB.out)))); have n2_ := Aside0.mk (below_step (by repeat (first | (with_reducible first | exact HB.out | apply below_alloc | apply pw_below_drewN | apply below_drew1) | exact HB.out)) hb); clear HO_0; clear HB; have HO_0 := n0_; have HO253 := n1_; have HB := n2_; clear n0_ n1_ n2_; clear hb ho20; obtain ⟨Ao21, co21, eo21⟩ := Kd.N_slice HO253.out; subst eo21) | ((with_reducible refine gate_callee (f := 18) rfl ?_); refine goesL_ (some 38) rfl rfl Try.func18 (by kernel_rfl) rfl #[.slice Ao21 y251.length co21] rfl (by (try simp only [List.map_toArray, List.map_cons, List.map_nil]); first | done | rfl | (simp only [List.length_drop, List.length_take]; rfl)) ?_; (with_reducible refine (sandbox_All.calls k2 _ _ y251 t254 _ ?side1 ?side2 A15.out).mono ?_); (case side1 => repeat (first | exact (Kd.N_reads' HO253.out).2.2 | (with_reducible refine Kd.C_alloc ?_ _) | (with_reducible refine Kd.C_drewN ?_ _) | (with_reducible refine Kd.C_drew ?_))); (case side2 => exact (Kd.N_reads' HO253.out).2.1); rintro e w22 ⟨rfl, hb⟩; refine ⟨_, rfl, ?_⟩; have n0_ := Aside0.mk (Kd.V_below (by (with_reducible repeat (first | apply Kd.V_alloc | apply Kd.V_drewN | apply Kd.V_drew)); exact HO_0.out) hb); have n1_ := Aside0.mk (Kd.N_below (by (with_reducible repeat (first | apply Kd.N_alloc | apply Kd.N_drewN | apply Kd.N_drew)); exact HO253.out) hb); have n2_ := Aside0.mk (below_step (by repeat (first | (with_reducible first | exact HB.out | apply below_alloc | apply pw_below_drewN | apply below_drew1) | exact HB.out)) hb); clear HO_0; clear HO253; clear HB; have HO_0 := n0_; have HO253 := n1_; have HB := n2_; clear n0_ n1_ n2_; (try clear hb); (try clear hb2); (try clear hk); (try clear hi)) | (go_at_call 14; (with_reducible refine (sandbox_Flags.calls _ _ l0 t255 _ ?side1 ?side2 A17.out).mono ?_); (case side1 => repeat (first | exact (Kd.V_reads' HO_0.out).2.2 | (with_reducible refine Kd.C_alloc ?_ _) | (with_reducible refine Kd.C_drewN ?_ _) | (with_reducible refine Kd.C_drew ?_))); (case side2 => exact (Kd.V_reads' HO_0.out).2.1); rintro e w23 ⟨rfl, hb⟩; have n0_ := Aside0.mk (Kd.V_below (by (with_reducible repeat (first | apply Kd.V_alloc | apply Kd.V_drewN | apply Kd.V_drew)); exact HO_0.out) hb); have n1_ := Aside0.mk (Kd.N_below (by (with_reducible repeat (first | apply Kd.N_alloc | apply Kd.N_drewN | apply Kd.N_drew)); exact HO253.out) hb); have n2_ := Aside0.mk (below_step (by repeat (first | (with_reducible first | exact HB.out | apply below_alloc | apply pw_below_drewN | apply below_drew1) | exact HB.out)) hb); clear HO_0; clear HO253; clear HB; have HO_0 := n0_; have HO253 := n1_; have HB := n2_; clear n0_ n1_ n2_; (try clear hb); (try clear hb2); (try clear hk); (try clear hi)))
                  go_ret
                  exact ⟨by first | rfl | (simp [errW_none, errW_some] <;> rfl) | (simp [*, errW_none, errW_some] <;> rfl), by repeat (first | (with_reducible first | exact HB.out | apply below_alloc | apply pw_below_drewN | apply below_drew1) | exact HB.out)⟩
                · rw [if_neg c18] at H
                  exact absurd H (by simp)
              · replace c16 := Bool.eq_false_iff.mpr c16
                subst c16
                have H1 : (none) = some r := by rw [if_neg (show ¬ (false = true) by decide)] at H; exact H
                clear H
                have H := H1
                clear H1
                exact absurd H (by simp)

end Go.Proofs.Ytdccplnfnjpfpaa.X
