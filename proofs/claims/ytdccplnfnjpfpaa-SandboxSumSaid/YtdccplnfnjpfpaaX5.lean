-- Written by a program of this session for this claim (the kit's printer, with contracts of this session's own); Lean checks it.
import Derived.Test.YtdccplnfnjpfpaaX0
import Derived.Test.YtdccplnfnjpfpaaX1
namespace Go.Proofs.Ytdccplnfnjpfpaa.X
open Go.RowKit Go.Proofs.YtdccplnfnjpfpaaW.PrintWords Go.Proofs.YtdccplnfnjpfpaaW.PrintLast Go.Proofs.YtdccplnfnjpfpaaW.PrintMore
attribute [local go_sem] max2_int min2_int max_two min_two max_three min_three max_four min_four   -- for this text's walks alone
set_option linter.unusedVariables false
set_option linter.unusedSimpArgs false

/-! ### glacisref12_names: function 22 -/
def glacisref12_names.f  : Option (List ByteArray) := some (([(⟨#[97, 108, 108, 111, 119, 45, 115, 99, 114, 105, 112, 116, 115]⟩ : ByteArray), (⟨#[97, 108, 108, 111, 119, 45, 115, 97, 109, 101, 45, 111, 114, 105, 103, 105, 110]⟩ : ByteArray), (⟨#[97, 108, 108, 111, 119, 45, 102, 111, 114, 109, 115]⟩ : ByteArray), (⟨#[97, 108, 108, 111, 119, 45, 112, 111, 112, 117, 112, 115]⟩ : ByteArray), (⟨#[97, 108, 108, 111, 119, 45, 112, 111, 112, 117, 112, 115, 45, 116, 111, 45, 101, 115, 99, 97, 112, 101, 45, 115, 97, 110, 100, 98, 111, 120]⟩ : ByteArray), (⟨#[97, 108, 108, 111, 119, 45, 116, 111, 112, 45, 110, 97, 118, 105, 103, 97, 116, 105, 111, 110]⟩ : ByteArray)] : List ByteArray))
set_option maxHeartbeats 8000000 in
set_option maxRecDepth 100000 in
theorem glacisref12_names.calls  (r : List ByteArray) (w : World) (h : glacisref12_names.f  = some r) :
    Calls Try.prog 22 #[] w fun e w' => ∃ v0_ : Value, e = .returned (v0_) ∧ Kd.R Kd.string 9 w' w.heap.size (fun _ => True) v0_ r ∧ Below w.heap.size w w' := by
  have HB := Aside0.mk (Below.refl w.heap.size w)
  have H : (some (([(⟨#[97, 108, 108, 111, 119, 45, 115, 99, 114, 105, 112, 116, 115]⟩ : ByteArray), (⟨#[97, 108, 108, 111, 119, 45, 115, 97, 109, 101, 45, 111, 114, 105, 103, 105, 110]⟩ : ByteArray), (⟨#[97, 108, 108, 111, 119, 45, 102, 111, 114, 109, 115]⟩ : ByteArray), (⟨#[97, 108, 108, 111, 119, 45, 112, 111, 112, 117, 112, 115]⟩ : ByteArray), (⟨#[97, 108, 108, 111, 119, 45, 112, 111, 112, 117, 112, 115, 45, 116, 111, 45, 101, 115, 99, 97, 112, 101, 45, 115, 97, 110, 100, 98, 111, 120]⟩ : ByteArray), (⟨#[97, 108, 108, 111, 119, 45, 116, 111, 112, 45, 110, 97, 118, 105, 103, 97, 116, 105, 111, 110]⟩ : ByteArray)] : List ByteArray))) = some r := h
  clear h
  obtain ⟨y136, hy136⟩ : ∃ y_ : List ByteArray, y_ = (([(⟨#[97, 108, 108, 111, 119, 45, 115, 99, 114, 105, 112, 116, 115]⟩ : ByteArray), (⟨#[97, 108, 108, 111, 119, 45, 115, 97, 109, 101, 45, 111, 114, 105, 103, 105, 110]⟩ : ByteArray), (⟨#[97, 108, 108, 111, 119, 45, 102, 111, 114, 109, 115]⟩ : ByteArray), (⟨#[97, 108, 108, 111, 119, 45, 112, 111, 112, 117, 112, 115]⟩ : ByteArray), (⟨#[97, 108, 108, 111, 119, 45, 112, 111, 112, 117, 112, 115, 45, 116, 111, 45, 101, 115, 99, 97, 112, 101, 45, 115, 97, 110, 100, 98, 111, 120]⟩ : ByteArray), (⟨#[97, 108, 108, 111, 119, 45, 116, 111, 112, 45, 110, 97, 118, 105, 103, 97, 116, 105, 111, 110]⟩ : ByteArray)] : List ByteArray)) := ⟨_, rfl⟩
  replace H : (some y136) = some r := by first | (rw [hy136]; with_reducible exact H) | (have H2_ := (Option.bind_some _ _).symm.trans H; rw [hy136]; with_reducible exact H2_) | (have H2_ := (Option.bind_some _ _).symm.trans H; with_reducible exact H2_) | with_reducible exact H | (rw [hy136]; exact H) | exact H
  have Ny136 := Aside0.mk hy136
  clear hy136
  obtain rfl := Option.some.inj H
  go_enter Try.func22, Try.ntmps22
  go_wp2_with (first | ((with_reducible refine gate_dst (N := 1) rfl ?_); refine Kd.R_lit Kd.string _ 9 ?hg (N := 1) ?hd (xs := ([(⟨#[97, 108, 108, 111, 119, 45, 115, 99, 114, 105, 112, 116, 115]⟩ : ByteArray), (⟨#[97, 108, 108, 111, 119, 45, 115, 97, 109, 101, 45, 111, 114, 105, 103, 105, 110]⟩ : ByteArray), (⟨#[97, 108, 108, 111, 119, 45, 102, 111, 114, 109, 115]⟩ : ByteArray), (⟨#[97, 108, 108, 111, 119, 45, 112, 111, 112, 117, 112, 115]⟩ : ByteArray), (⟨#[97, 108, 108, 111, 119, 45, 112, 111, 112, 117, 112, 115, 45, 116, 111, 45, 101, 115, 99, 97, 112, 101, 45, 115, 97, 110, 100, 98, 111, 120]⟩ : ByteArray), (⟨#[97, 108, 108, 111, 119, 45, 116, 111, 112, 45, 110, 97, 118, 105, 103, 97, 116, 105, 111, 110]⟩ : ByteArray)] : List ByteArray)) (inner := [.string (⟨#[97, 108, 108, 111, 119, 45, 115, 99, 114, 105, 112, 116, 115]⟩ : ByteArray), .string (⟨#[97, 108, 108, 111, 119, 45, 115, 97, 109, 101, 45, 111, 114, 105, 103, 105, 110]⟩ : ByteArray), .string (⟨#[97, 108, 108, 111, 119, 45, 102, 111, 114, 109, 115]⟩ : ByteArray), .string (⟨#[97, 108, 108, 111, 119, 45, 112, 111, 112, 117, 112, 115]⟩ : ByteArray), .string (⟨#[97, 108, 108, 111, 119, 45, 112, 111, 112, 117, 112, 115, 45, 116, 111, 45, 101, 115, 99, 97, 112, 101, 45, 115, 97, 110, 100, 98, 111, 120]⟩ : ByteArray), .string (⟨#[97, 108, 108, 111, 119, 45, 116, 111, 112, 45, 110, 97, 118, 105, 103, 97, 116, 105, 111, 110]⟩ : ByteArray)]) (ok := fun _ => True) (okp := fun _ => True) ?hr ?hp (fun _ hk => hk) trivial (Below.refl _ _) (Nat.le_refl _) (by simp) ?_; (case hd => rfl); (case hg => rfl); (case hr => first | (go_simp; done) | (go_simp; rfl)); (case hp => exact (Reps.one (show Kd.M Kd.string _ _ _ (⟨#[97, 108, 108, 111, 119, 45, 115, 99, 114, 105, 112, 116, 115]⟩ : ByteArray) [.string (⟨#[97, 108, 108, 111, 119, 45, 115, 99, 114, 105, 112, 116, 115]⟩ : ByteArray)] from rfl) (Reps.one (show Kd.M Kd.string _ _ _ (⟨#[97, 108, 108, 111, 119, 45, 115, 97, 109, 101, 45, 111, 114, 105, 103, 105, 110]⟩ : ByteArray) [.string (⟨#[97, 108, 108, 111, 119, 45, 115, 97, 109, 101, 45, 111, 114, 105, 103, 105, 110]⟩ : ByteArray)] from rfl) (Reps.one (show Kd.M Kd.string _ _ _ (⟨#[97, 108, 108, 111, 119, 45, 102, 111, 114, 109, 115]⟩ : ByteArray) [.string (⟨#[97, 108, 108, 111, 119, 45, 102, 111, 114, 109, 115]⟩ : ByteArray)] from rfl) (Reps.one (show Kd.M Kd.string _ _ _ (⟨#[97, 108, 108, 111, 119, 45, 112, 111, 112, 117, 112, 115]⟩ : ByteArray) [.string (⟨#[97, 108, 108, 111, 119, 45, 112, 111, 112, 117, 112, 115]⟩ : ByteArray)] from rfl) (Reps.one (show Kd.M Kd.string _ _ _ (⟨#[97, 108, 108, 111, 119, 45, 112, 111, 112, 117, 112, 115, 45, 116, 111, 45, 101, 115, 99, 97, 112, 101, 45, 115, 97, 110, 100, 98, 111, 120]⟩ : ByteArray) [.string (⟨#[97, 108, 108, 111, 119, 45, 112, 111, 112, 117, 112, 115, 45, 116, 111, 45, 101, 115, 99, 97, 112, 101, 45, 115, 97, 110, 100, 98, 111, 120]⟩ : ByteArray)] from rfl) (Reps.one (show Kd.M Kd.string _ _ _ (⟨#[97, 108, 108, 111, 119, 45, 116, 111, 112, 45, 110, 97, 118, 105, 103, 97, 116, 105, 111, 110]⟩ : ByteArray) [.string (⟨#[97, 108, 108, 111, 119, 45, 116, 111, 112, 45, 110, 97, 118, 105, 103, 97, 116, 105, 111, 110]⟩ : ByteArray)] from rfl) (Reps.none _ _)))))))); intro v137 w1 ho2 hb hg_ hnew_; clear hg_ hnew_; (first | rw [← Ny136.out] at ho2 | (simp only [Int.reduceToNat] at ho2; rw [← Ny136.out] at ho2)); have n0_ := Aside0.mk (Kd.R_lower ho2 (below_size (by repeat (first | (with_reducible first | exact HB.out | apply below_alloc | apply pw_below_drewN | apply below_drew1) | exact HB.out)))); have n1_ := Aside0.mk (below_step (by repeat (first | (with_reducible first | exact HB.out | apply below_alloc | apply pw_below_drewN | apply below_drew1) | exact HB.out)) hb); clear HB; have HO138 := n0_; have HB := n1_; clear n0_ n1_; clear hb ho2))
  go_ret
  exact ⟨_, by first | rfl | (simp [errW_none, errW_some] <;> rfl) | (simp [*, errW_none, errW_some] <;> rfl), by (with_reducible repeat (first | apply Kd.R_alloc | apply Kd.R_drewN | apply Kd.R_drew)); exact HO138.out, by repeat (first | (with_reducible first | exact HB.out | apply below_alloc | apply pw_below_drewN | apply below_drew1) | exact HB.out)⟩

/-! ### glacisref12_Within: function 23 -/
def glacisref12_Within.f (a0 : Int) : Option (Int) := some (Go.bits .and .i64 a0 63)
set_option maxHeartbeats 8000000 in
set_option maxRecDepth 100000 in
theorem glacisref12_Within.calls (a0 : Int) (r : Int) (w : World) (h : glacisref12_Within.f a0 = some r) :
    Calls Try.prog 23 #[.int .i64 a0] w fun e w' => e = .returned (.int .i64 r) ∧ Drawn0 w w' := by
  have H : (some (Go.bits .and .i64 a0 63)) = some r := h
  clear h
  obtain rfl := Option.some.inj H
  go_enter Try.func23, Try.ntmps23
  go_wp2
  go_ret
  exact ⟨by first | rfl | (simp; done) | (simp [*]; done), by repeat (first | exact Drawn0.refl _ | apply Drawn0.step)⟩

/-! ### glacisref12_has: function 24 -/
def glacisref12_has.f (a0 : Int) (a1 : Int) : Option (Bool) := if a1 = 0 then (none) else (some ((Int.tmod (wrap64 (Int.tdiv a0 a1)) 2) == 1))
set_option maxHeartbeats 8000000 in
set_option maxRecDepth 100000 in
theorem glacisref12_has.calls (a0 : Int) (a1 : Int) (r : Bool) (w : World) (h : glacisref12_has.f a0 a1 = some r) :
    Calls Try.prog 24 #[.int .i64 a0, .int .i64 a1] w fun e w' => e = .returned (.bool r) ∧ Drawn0 w w' := by
  have H : (if a1 = 0 then (none) else (some ((Int.tmod (wrap64 (Int.tdiv a0 a1)) 2) == 1))) = some r := h
  clear h
  by_cases c3 : a1 = 0
  · rw [if_pos c3] at H
    exact absurd H (by simp)
  · rw [if_neg c3] at H
    have c3b0 : (a1 == 0) = false := beq_eq_false_iff_ne.mpr c3
    have c3b1 : (a1 != 0) = true := bne_iff_ne.mpr c3
    obtain rfl := Option.some.inj H
    go_enter Try.func24, Try.ntmps24
    go_wp2
    go_ret
    exact ⟨by first | rfl | (simp; done) | (simp [*]; done), by repeat (first | exact Drawn0.refl _ | apply Drawn0.step)⟩

/-! ### glacisref12_Words: function 13 -/
def glacisref12_Words.l0 : Nat → Int → List ByteArray → List ByteArray → Int → Int → Option (List ByteArray)
  | 0, _, _, _, _, _ => none
  | k + 1, x0, x3, x4, x5, x6 => if x6 < (x3.length : Int) then ((glacisref12_has.f x0 x5).bind fun t143 => (if t143 = true then (glacisref12_Words.l0 k x0 x3 x4 (wrap64 (2 * x5)) (wrap64 (x6 + 1))) else (if 0 ≤ x6 then (if x4.length < 8796093022208 then (glacisref12_Words.l0 k x0 x3 (x4 ++ [rdOf ByteArray.empty x3 x6]) (wrap64 (2 * x5)) (wrap64 (x6 + 1))) else (none)) else (none)))) else (some x4)
def glacisref12_Words.f (k : Nat) (a0 : Int) : Option (List ByteArray) := (glacisref12_names.f).bind fun t139 => ((glacisref12_Within.f a0).bind fun t142 => (glacisref12_Words.l0 k t142 t139 ([] : List ByteArray) 1 0))
theorem glacisref12_Words.mono_l : ∀ k, (∀ y0 y1 y2 y3 y4, LeO (glacisref12_Words.l0 k y0 y1 y2 y3 y4) (glacisref12_Words.l0 (k + 1) y0 y1 y2 y3 y4))
  | 0 => fun _ _ _ _ _ r h => by simp [glacisref12_Words.l0] at h
  | k + 1 => by
    have ih0 := glacisref12_Words.mono_l k
    · intro y0 y1 y2 y3 y4
      unfold glacisref12_Words.l0
      repeat' first
      | (with_reducible exact ih0 _ _ _ _ _)
      | (with_reducible exact LeO.refl _)
      | (with_reducible exact LeO.none _)
      | (with_reducible refine LeO.ite ?_ ?_)
      | (with_reducible refine LeO.bind ?_ (fun _ => ?_))
      | exact ih0 _ _ _ _ _
      | exact LeO.none _
      | refine LeO.ite ?_ ?_
      | refine LeO.bind ?_ (fun _ => ?_)
theorem glacisref12_Words.mono : ∀ a0 k, LeO (glacisref12_Words.f k a0) (glacisref12_Words.f (k + 1) a0) := by
  intro a0 k
  have ih0 := glacisref12_Words.mono_l k
  unfold glacisref12_Words.f
  repeat' first
      | (with_reducible exact ih0 _ _ _ _ _)
      | (with_reducible exact LeO.refl _)
      | (with_reducible exact LeO.none _)
      | (with_reducible refine LeO.ite ?_ ?_)
      | (with_reducible refine LeO.bind ?_ (fun _ => ?_))
      | exact ih0 _ _ _ _ _
      | exact LeO.none _
      | refine LeO.ite ?_ ?_
      | refine LeO.bind ?_ (fun _ => ?_)
set_option maxHeartbeats 8000000 in
set_option maxRecDepth 100000 in
theorem glacisref12_Words.calls (k : Nat) (a0 : Int) (r : List ByteArray) (w : World) (h : glacisref12_Words.f k a0 = some r) :
    Calls Try.prog 13 #[.int .i64 a0] w fun e w' => ∃ v0_ : Value, e = .returned (v0_) ∧ Kd.R Kd.string 9 w' w.heap.size (fun _ => True) v0_ r ∧ Below w.heap.size w w' := by
  have HB := Aside0.mk (Below.refl w.heap.size w)
  have H : ((glacisref12_names.f).bind fun t139 => ((glacisref12_Within.f a0).bind fun t142 => (glacisref12_Words.l0 k t142 t139 ([] : List ByteArray) 1 0))) = some r := h
  clear h
  replace H := Option.bind_eq_some_iff.mp H
  obtain ⟨t139, A20, H⟩ := H
  replace H : ((glacisref12_Within.f a0).bind fun t142 => (glacisref12_Words.l0 k t142 t139 ([] : List ByteArray) 1 0)) = some r := H
  have A2 := Aside0.mk A20
  clear A20
  replace H := Option.bind_eq_some_iff.mp H
  obtain ⟨t142, A30, H⟩ := H
  replace H : (glacisref12_Words.l0 k t142 t139 ([] : List ByteArray) 1 0) = some r := H
  have A3 := Aside0.mk A30
  clear A30
  have H' := Aside0.mk H
  clear H
  go_enter Try.func13, Try.ntmps13
  go_wp2_with (first | ((with_reducible refine gate_callee (f := 22) rfl ?_); refine goesL_ (some 8) rfl rfl Try.func22 (by kernel_rfl) rfl #[] rfl (by (try simp only [List.map_toArray, List.map_cons, List.map_nil]); first | done | rfl | (simp only [List.length_drop, List.length_take]; rfl)) ?_; (with_reducible refine (glacisref12_names.calls  t139 _ A2.out).mono ?_); rintro e w4 ⟨v140, rfl, ho0, hb⟩; refine ⟨_, rfl, ?_⟩; have n0_ := Aside0.mk (Kd.R_lower ho0 (below_size (by repeat (first | (with_reducible first | exact HB.out | apply below_alloc | apply pw_below_drewN | apply below_drew1) | exact HB.out)))); have n1_ := Aside0.mk (below_step (by repeat (first | (with_reducible first | exact HB.out | apply below_alloc | apply pw_below_drewN | apply below_drew1) | exact HB.out)) hb); clear HB; have HO141 := n0_; have HB := n1_; clear n0_ n1_; (try clear hb); (try clear hb2); (try clear hk); (try clear hi); (try clear ho0)) | ((with_reducible refine gate_callee (f := 23) rfl ?_); refine goesL_ (some 10) rfl rfl Try.func23 (by kernel_rfl) rfl #[.int .i64 a0] rfl (by (try simp only [List.map_toArray, List.map_cons, List.map_nil]); first | done | rfl | (simp only [List.length_drop, List.length_take]; rfl)) ?_; (with_reducible refine (glacisref12_Within.calls a0 t142 _ A3.out).mono ?_); rintro e w' ⟨rfl, ⟨nd, rfl⟩⟩; refine ⟨_, rfl, ?_⟩))
  go_loopg [4, 5, 6] k (fun kq v4 v5 v6 w' => ∃ (x4_1 : List ByteArray) (x5_1 : Int) (x6_1 : Int), v5 = .int .i64 x5_1 ∧ v6 = .int .i64 x6_1 ∧ Aside0 (glacisref12_Words.l0 kq t142 t139 x4_1 x5_1 x6_1 = some r) ∧ Aside0 (kq ≤ k) ∧ Aside0 (Kd.R Kd.string 9 w' w.heap.size (fun k_ => some k_ ≠ (v4 : Value).ownBlock) v140 t139) ∧ Aside0 (Kd.R Kd.string 9 w' w.heap.size (fun k_ => some k_ ≠ (v140 : Value).ownBlock) v4 x4_1) ∧ Aside0 (Below w.heap.size w w'))
  case atStart => exact ⟨(([] : List ByteArray)), (1), (0), (by first | rfl | (simp; done) | (simp [*]; done)), (by first | rfl | (simp; done) | (simp [*]; done)), H', ⟨Nat.le_refl _⟩, ⟨by (with_reducible repeat (first | apply Kd.R_alloc | apply Kd.R_drewN | apply Kd.R_drew)); exact Kd.R_mono HO141.out (fun _ hk => (by simp [Value.ownBlock]))⟩, ⟨by first | exact Kd.R_nil _ _ _ _ _ | exact Kd.N_nil _ _ _ _ _ | exact Kd.V_nil _ _ _ _ _ | exact Kd.Q_nil _ _ _ _ _ | exact Kd.S_nil _ _ _ _ _⟩, ⟨by repeat (first | (with_reducible first | exact HB.out | apply below_alloc | apply pw_below_drewN | apply below_drew1) | exact HB.out)⟩⟩
  case round =>
    clear H'
    try clear c1
    try clear c2
    try clear p2
    obtain ⟨x4_1, x5_1, x6_1, rfl, rfl, HA, HK1, HO_3, HO_4, HB⟩ := hrel
    cases gk with
    | zero => exact absurd HA.out (by simp [glacisref12_Words.l0])
    | succ k1 =>
      have H := HA.out
      clear HA
      simp only [glacisref12_Words.l0] at H
      by_cases c5 : x6_1 < (t139.length : Int)
      · rw [if_pos c5] at H
        have c5b0 : decide (x6_1 < (t139.length : Int)) = true := decide_eq_true c5
        clear c5
        replace H := Option.bind_eq_some_iff.mp H
        obtain ⟨t143, A60, H⟩ := H
        replace H : (if t143 = true then (glacisref12_Words.l0 k1 t142 t139 x4_1 (wrap64 (2 * x5_1)) (wrap64 (x6_1 + 1))) else (if 0 ≤ x6_1 then (if x4_1.length < 8796093022208 then (glacisref12_Words.l0 k1 t142 t139 (x4_1 ++ [rdOf ByteArray.empty t139 x6_1]) (wrap64 (2 * x5_1)) (wrap64 (x6_1 + 1))) else (none)) else (none))) = some r := H
        have A6 := Aside0.mk A60
        clear A60
        by_cases c7 : t143 = true
        · subst c7
          have H1 : (glacisref12_Words.l0 k1 t142 t139 x4_1 (wrap64 (2 * x5_1)) (wrap64 (x6_1 + 1))) = some r := by rw [if_pos rfl] at H; exact H
          clear H
          have H := H1
          clear H1
          have H' := Aside0.mk H
          clear H
          obtain ⟨Ao8, co8, eo8⟩ := Kd.R_slice HO_3.out
          subst eo8
          go_wp2_with (first | ((with_reducible refine gate_callee (f := 24) rfl ?_); refine goesL_ (some 19) rfl rfl Try.func24 (by kernel_rfl) rfl #[.int .i64 t142, .int .i64 x5_1] rfl (by (try simp only [List.map_toArray, List.map_cons, List.map_nil]); first | done | rfl | (simp only [List.length_drop, List.length_take]; rfl)) ?_; (with_reducible refine (glacisref12_has.calls t142 x5_1 true _ A6.out).mono ?_); rintro e w' ⟨rfl, ⟨nd, rfl⟩⟩; refine ⟨_, rfl, ?_⟩))
          go_roundg k1
          case measure => have := HK1.out; omega
          case rel => exact ⟨(x4_1), (wrap64 (2 * x5_1)), (wrap64 (x6_1 + 1)), (by first | rfl | (simp; done) | (simp [*]; done)), (by first | rfl | (simp; done) | (simp [*]; done)), H', ⟨by have := HK1.out; omega⟩, ⟨by (with_reducible repeat (first | apply Kd.R_alloc | apply Kd.R_drewN | apply Kd.R_drew)); exact HO_3.out⟩, ⟨by (with_reducible repeat (first | apply Kd.R_alloc | apply Kd.R_drewN | apply Kd.R_drew)); exact HO_4.out⟩, ⟨by repeat (first | (with_reducible first | exact HB.out | apply below_alloc | apply pw_below_drewN | apply below_drew1) | exact HB.out)⟩⟩
        · replace c7 := Bool.eq_false_iff.mpr c7
          subst c7
          have H1 : (if 0 ≤ x6_1 then (if x4_1.length < 8796093022208 then (glacisref12_Words.l0 k1 t142 t139 (x4_1 ++ [rdOf ByteArray.empty t139 x6_1]) (wrap64 (2 * x5_1)) (wrap64 (x6_1 + 1))) else (none)) else (none)) = some r := by rw [if_neg (show ¬ (false = true) by decide)] at H; exact H
          clear H
          have H := H1
          clear H1
          by_cases c9 : 0 ≤ x6_1
          · rw [if_pos c9] at H
            have c9b0 : decide (0 ≤ x6_1) = true := decide_eq_true c9
            clear c9
            by_cases c10 : x4_1.length < 8796093022208
            · rw [if_pos c10] at H
              have LMc10 := Aside0.mk c10
              clear c10
              obtain ⟨y145, hy145⟩ : ∃ y_ : List ByteArray, y_ = (x4_1 ++ [rdOf ByteArray.empty t139 x6_1]) := ⟨_, rfl⟩
              replace H : (glacisref12_Words.l0 k1 t142 t139 y145 (wrap64 (2 * x5_1)) (wrap64 (x6_1 + 1))) = some r := by first | (rw [hy145]; with_reducible exact H) | (have H2_ := (Option.bind_some _ _).symm.trans H; rw [hy145]; with_reducible exact H2_) | (have H2_ := (Option.bind_some _ _).symm.trans H; with_reducible exact H2_) | with_reducible exact H | (rw [hy145]; exact H) | exact H
              have Ny145 := Aside0.mk hy145
              clear hy145
              have H' := Aside0.mk H
              clear H
              obtain ⟨Ao11, co11, eo11⟩ := Kd.R_slice HO_3.out
              subst eo11
              go_wp2_with (first | ((with_reducible refine gate_callee (f := 24) rfl ?_); refine goesL_ (some 19) rfl rfl Try.func24 (by kernel_rfl) rfl #[.int .i64 t142, .int .i64 x5_1] rfl (by (try simp only [List.map_toArray, List.map_cons, List.map_nil]); first | done | rfl | (simp only [List.length_drop, List.length_take]; rfl)) ?_; (with_reducible refine (glacisref12_has.calls t142 x5_1 false _ A6.out).mono ?_); rintro e w' ⟨rfl, ⟨nd, rfl⟩⟩; refine ⟨_, rfl, ?_⟩; have p144 : 0 ≤ (x6_1 : Int) := of_decide_eq_true (by first | (with_reducible assumption) | assumption); have q144 : x6_1 < (t139.length : Int) := of_decide_eq_true (by first | (with_reducible assumption) | assumption); obtain ⟨ad144, e144, hx144_0⟩ := Kd.at_string (Kd.R_reads' HO_3.out).2.2 x6_1 p144 q144; cases e144; replace p144 := eq_true p144; replace q144 := eq_true q144) | ((with_reducible refine gate_builtin (b := .append) (xs := #[.tmp 22, .tmp 27]) rfl ?_); at_builtin; refine Kd.R_append Kd.string (w0 := w) w.heap.size rfl (.tmp 22) (.tmp 27) 23 9 (.string ⟨#[]⟩) 16 rfl Try.underlying23 info9 rfl (by decide) (by omega) u4 x4_1 (rdOf ByteArray.empty t139 x6_1) [.string (rdOf ByteArray.empty t139 x6_1)] (fun k_ => some k_ ≠ (.slice (some ad144) t139.length co11 : Value).ownBlock) (fun _ => False) rfl rfl ?aP (fun _ hk => hk.elim) ?aF ?aO ?aB ?aS ?aL ?_; (case aP => exact rfl); (case aB => exact (by repeat (first | (with_reducible first | exact HB.out | apply below_alloc | apply pw_below_drewN | apply below_drew1) | exact HB.out))); (case aF => exact (fun k_ hk => Kd.fresh' (Kd.R_lt (by (with_reducible repeat (first | apply Kd.R_alloc | apply Kd.R_drewN | apply Kd.R_drew)); exact HO_3.out)) k_ hk)); (case aO => exact (by (with_reducible repeat (first | apply Kd.R_alloc | apply Kd.R_drewN | apply Kd.R_drew)); exact HO_4.out)); (case aS => exact (below_size (by repeat (first | (with_reducible first | exact HB.out | apply below_alloc | apply pw_below_drewN | apply below_drew1) | exact HB.out)))); (case aL => have := LMc10.out; omega); intro v146 w12 ho hb hg hat; rw [← Ny145.out] at ho; have n0_ := Aside0.mk (Kd.R_after (ok := (fun _ => True)) (by (with_reducible repeat (first | apply Kd.R_alloc | apply Kd.R_drewN | apply Kd.R_drew)); exact Kd.R_mono HO_3.out (fun _ hk => ⟨trivial, hk⟩)) hg hat); have n1_ := Aside0.mk (hb); have n2_ := Aside0.mk (ho); clear HO_3; clear HB; clear HO_4; have HO_3 := n0_; have HB := n1_; have HO147 := n2_; clear n0_ n1_ n2_; clear ho hb hg hat))
              go_roundg k1
              case measure => have := HK1.out; omega
              case rel => exact ⟨(y145), (wrap64 (2 * x5_1)), (wrap64 (x6_1 + 1)), (by first | rfl | (simp; done) | (simp [*]; done)), (by first | rfl | (simp; done) | (simp [*]; done)), H', ⟨by have := HK1.out; omega⟩, ⟨by (with_reducible repeat (first | apply Kd.R_alloc | apply Kd.R_drewN | apply Kd.R_drew)); exact Kd.R_mono HO_3.out (fun _ hk => hk.2)⟩, ⟨by (with_reducible repeat (first | apply Kd.R_alloc | apply Kd.R_drewN | apply Kd.R_drew)); exact HO147.out⟩, ⟨by repeat (first | (with_reducible first | exact HB.out | apply below_alloc | apply pw_below_drewN | apply below_drew1) | exact HB.out)⟩⟩
            · rw [if_neg c10] at H
              exact absurd H (by simp)
          · rw [if_neg c9] at H
            exact absurd H (by simp)
      · rw [if_neg c5] at H
        have c5b0 : decide (x6_1 < (t139.length : Int)) = false := decide_eq_false c5
        clear c5
        obtain rfl := Option.some.inj H
        obtain ⟨Ao13, co13, eo13⟩ := Kd.R_slice HO_3.out
        subst eo13
        go_wp2
        go_ret
        exact ⟨_, by first | rfl | (simp [errW_none, errW_some] <;> rfl) | (simp [*, errW_none, errW_some] <;> rfl), by (with_reducible repeat (first | apply Kd.R_alloc | apply Kd.R_drewN | apply Kd.R_drew)); exact Kd.R_mono HO_4.out (fun _ hk => trivial), by repeat (first | (with_reducible first | exact HB.out | apply below_alloc | apply pw_below_drewN | apply below_drew1) | exact HB.out)⟩

/-! ### glacisref01_Lower: function 27 -/
def glacisref01_Lower.f (a0 : ByteArray) : Option ByteArray := if a0.size ≤ 9223372036854775807 then some (lowerB a0) else none
set_option maxHeartbeats 1000000 in
theorem glacisref01_Lower.total (s : ByteArray) (w : World) (hs : s.size ≤ 9223372036854775807) :
    Calls Try.prog 27 #[.string s] w fun e w' => e = .returned (.string (lowerB s)) ∧ Below w.heap.size w w' := by
  have kb := fun W => print_bytes (P := Try.prog) 9 43 5 Try.underlying9 Try.underlying43 Try.underlying5 s W
  have R0 := LowRow.start w 5 s
  have B0 := bytes_below (Below.refl w.heap.size w) (Nat.le_refl _) 5 s
  go_enter Try.func27, Try.ntmps27
  go_wp2
  go_loopw [4] (fun i wr => ∃ k : Nat, k ≤ s.size ∧ i = .int .i64 k ∧ LowRow wr w.heap.size 5 s k ∧ Below w.heap.size w wr) (fun i _ => s.size - (intOf i).toNat)
  case atStart => exact ⟨0, Nat.zero_le _, rfl, R0, B0⟩
  case round =>
    clear kb R0 B0
    obtain ⟨k, hk, rfl, hR, hB⟩ := hrel
    by_cases hlt : k < s.size
    · have hc := hR.cell k hlt
      rw [if_neg (Nat.lt_irrefl k)] at hc
      have hf := hR.free k hlt
      obtain ⟨hb0, hb1⟩ := bt_range s k
      have hlow : 65 ≤ bt s k ∧ bt s k ≤ 90 → (bt s k + 32) = lowI (bt s k) := fun h => by unfold lowI; rw [if_pos h]
      obtain ⟨c, hcc⟩ : ∃ c, c = bt s k := ⟨_, rfl⟩
      rw [← hcc] at hc hb0 hb1 hlow
      have HR := Lib.hid hR
      have HC := Lib.hid hcc
      have HL := Lib.hid hlow
      clear hR hcc hlow
      by_cases h65 : 65 ≤ c
      · by_cases h90 : c ≤ 90
        · have hx := HL.out ⟨h65, h90⟩
          have HX := Lib.hid hx
          clear hx
          go_wp2
          go_roundw
          case rel => exact ⟨k + 1, by omega, by go_num, HR.out.put hlt _ (by rw [← HC.out]; exact HX.out.symm), hB.setCell (Nat.le_refl _) _⟩
          case measure => simp [intOf]; omega
        · go_wp2
          go_roundw
          case rel => exact ⟨k + 1, by omega, by go_num, HR.out.skip (by rw [← HC.out]; unfold lowI; rw [if_neg (by omega)]), hB⟩
          case measure => simp [intOf]; omega
      · go_wp2
        go_roundw
        case rel => exact ⟨k + 1, by omega, by go_num, HR.out.skip (by rw [← HC.out]; unfold lowI; rw [if_neg (by omega)]), hB⟩
        case measure => simp [intOf]; omega
    · have hk2 : s.size ≤ k := by omega
      have kc := fun cp => hR.string (P := Try.prog) hk2 43 9 cp Try.underlying43 Try.underlying5 Try.underlying9
      have HR := Lib.hid hR
      clear hR
      go_wp2
      go_ret
      exact ⟨rfl, hB⟩
theorem glacisref01_Lower.calls (a0 : ByteArray) (r : ByteArray) (w : World) (h : glacisref01_Lower.f a0 = some r) :
    Calls Try.prog 27 #[.string a0] w fun e w' => e = .returned (.string r) ∧ Below w.heap.size w w' := by
  unfold glacisref01_Lower.f at h
  by_cases hs : a0.size ≤ 9223372036854775807
  · rw [if_pos hs] at h
    obtain rfl := Option.some.inj h
    exact glacisref01_Lower.total a0 w hs
  · rw [if_neg hs] at h
    exact absurd h (by simp)

end Go.Proofs.Ytdccplnfnjpfpaa.X
