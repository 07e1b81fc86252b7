-- Written by a program of this session for this claim (the kit's printer, with contracts of this session's own); Lean checks it.
import Derived.Test.YtdccplnfnjpfpaaX0
import Derived.Test.YtdccplnfnjpfpaaX2
import Derived.Test.YtdccplnfnjpfpaaX3
import Derived.Test.YtdccplnfnjpfpaaX4
import Derived.Test.YtdccplnfnjpfpaaX7
namespace Go.Proofs.Ytdccplnfnjpfpaa.X
open Go.RowKit Go.Proofs.YtdccplnfnjpfpaaW.PrintWords Go.Proofs.YtdccplnfnjpfpaaW.PrintLast Go.Proofs.YtdccplnfnjpfpaaW.PrintMore
attribute [local go_sem] max2_int min2_int max_two min_two max_three min_three max_four min_four   -- for this text's walks alone
set_option linter.unusedVariables false
set_option linter.unusedSimpArgs false

/-! ### glacislaw12_SandboxMore: function 6 -/
mutual
def glacislaw12_SandboxMore.j0 : Nat → List ByteArray → ByteArray → List (S32) → Bool → Bool → Bool → List ByteArray → Bool → List ByteArray → Option (Bool)
  | 0, _, _, _, _, _, _, _, _, _ => none
  | k + 1, x0, x1, x2, x9, x45, x181000, x181001, x181002, x181003 => if x45 = true then (some x9) else (glacislaw12_SandboxMore.l0 k x0 x1 x2 x9 0 x181000 x181001 x181002 x181003)
def glacislaw12_SandboxMore.l0 : Nat → List ByteArray → ByteArray → List (S32) → Bool → Int → Bool → List ByteArray → Bool → List ByteArray → Option (Bool)
  | 0, _, _, _, _, _, _, _, _, _ => none
  | k + 1, x0, x1, x2, x9, x12, x181000, x181001, x181002, x181003 => if x12 < (x2.length : Int) then (if 0 ≤ x12 then ((glacislaw12_short.f k ((rd_T32 x2 x12).f3)).bind fun t197 => (if t197 = true then (glacislaw12_SandboxMore.l0 k x0 x1 x2 x9 (wrap64 (x12 + 1)) x181000 x181001 x181002 x181003) else (some x9))) else (none)) else ((sandbox_Flags.f x0).bind fun t198 => ((some (([] : List ByteArray) : List ByteArray)).bind fun y199 => (if y199.length + x0.length < 8796093022208 then ((some (y199 ++ x0 : List ByteArray)).bind fun y202 => ((some (([x1] : List ByteArray) : List ByteArray)).bind fun y205 => (if y202.length + y205.length < 8796093022208 then ((sandbox_Flags.f (y202 ++ y205)).bind fun t211 => ((some (([x1] : List ByteArray) : List ByteArray)).bind fun y212 => (if y212.length + x0.length < 8796093022208 then ((sandbox_Flags.f (y212 ++ x0)).bind fun t218 => ((sandbox_All.f k x2).bind fun t219 => ((some (([] : List (S32)) : List (S32))).bind fun y220 => (if y220.length + x2.length < 2199023255552 then ((some (y220 ++ x2 : List (S32))).bind fun y223 => ((some (([(⟨x181000, x181001, x181002, x181003⟩ : S32)] : List (S32)) : List (S32))).bind fun y226 => (if y223.length + y226.length < 2199023255552 then ((sandbox_All.f k (y223 ++ y226)).bind fun t232 => (if x9 = true then ((glacisref12_Union.f k t198 t211).bind fun t233 => (if t233 = t198 then (if t211 = t218 then ((glacisref12_Union.f k t219 t232).bind fun t234 => (if t234 = t232 then (if t198 ≥ 0 then (if t198 ≤ 63 then (some (decide (t232 ≤ 63))) else (none)) else (none)) else (none))) else (none)) else (none))) else (none))) else (none)))) else (none))))) else (none)))) else (none)))) else (none))))
end
def glacislaw12_SandboxMore.f (k : Nat) (l0 : List ByteArray) (a1 : ByteArray) (l2 : List (S32)) (a3_0 : Bool) (l3_1 : List ByteArray) (a3_2 : Bool) (l3_3 : List ByteArray) : Option (Bool) := (glacislaw12_awake.f k).bind fun t181 => ((some (([] : List ByteArray) : List ByteArray)).bind fun y182 => (if y182.length + l0.length < 8796093022208 then ((some (y182 ++ l0 : List ByteArray)).bind fun y185 => ((some (([a1] : List ByteArray) : List ByteArray)).bind fun y188 => (if y185.length + y188.length < 8796093022208 then ((glacislaw12_short.f k (y185 ++ y188)).bind fun t194 => ((glacislaw12_short.f k l3_3).bind fun t195 => (if t194 = true then (if t195 = true then (if (l0.length : Int) > 100 then (glacislaw12_SandboxMore.j0 k l0 a1 l2 t181 true a3_0 l3_1 a3_2 l3_3) else (glacislaw12_SandboxMore.j0 k l0 a1 l2 t181 (decide ((l2.length : Int) > 50)) a3_0 l3_1 a3_2 l3_3)) else (glacislaw12_SandboxMore.j0 k l0 a1 l2 t181 true a3_0 l3_1 a3_2 l3_3)) else (glacislaw12_SandboxMore.j0 k l0 a1 l2 t181 true a3_0 l3_1 a3_2 l3_3)))) else (none)))) else (none)))
theorem glacislaw12_SandboxMore.mono_l : ∀ k, (∀ y0 y1 y2 y3 y4 y5 y6 y7 y8, LeO (glacislaw12_SandboxMore.j0 k y0 y1 y2 y3 y4 y5 y6 y7 y8) (glacislaw12_SandboxMore.j0 (k + 1) y0 y1 y2 y3 y4 y5 y6 y7 y8)) ∧ (∀ y0 y1 y2 y3 y4 y5 y6 y7 y8, LeO (glacislaw12_SandboxMore.l0 k y0 y1 y2 y3 y4 y5 y6 y7 y8) (glacislaw12_SandboxMore.l0 (k + 1) y0 y1 y2 y3 y4 y5 y6 y7 y8))
  | 0 => ⟨fun _ _ _ _ _ _ _ _ _ r h => by simp [glacislaw12_SandboxMore.j0] at h, fun _ _ _ _ _ _ _ _ _ r h => by simp [glacislaw12_SandboxMore.l0] at h⟩
  | k + 1 => by
    obtain ⟨ih0, ih1⟩ := glacislaw12_SandboxMore.mono_l k
    refine ⟨?_, ?_⟩
    · intro y0 y1 y2 y3 y4 y5 y6 y7 y8
      unfold glacislaw12_SandboxMore.j0
      repeat' first
      | (with_reducible exact ih0 _ _ _ _ _ _ _ _ _)
      | (with_reducible exact ih1 _ _ _ _ _ _ _ _ _)
      | (with_reducible exact glacislaw12_awake.mono _)
      | (with_reducible exact glacislaw12_short.mono _ _)
      | (with_reducible exact glacisref12_Union.mono _ _ _)
      | (with_reducible exact sandbox_All.mono _ _)
      | (with_reducible exact LeO.refl _)
      | (with_reducible exact LeO.none _)
      | (with_reducible refine LeO.ite ?_ ?_)
      | (with_reducible refine LeO.bind ?_ (fun _ => ?_))
      | exact ih0 _ _ _ _ _ _ _ _ _
      | exact ih1 _ _ _ _ _ _ _ _ _
      | exact glacislaw12_awake.mono _
      | exact glacislaw12_short.mono _ _
      | exact glacisref12_Union.mono _ _ _
      | exact sandbox_All.mono _ _
      | exact LeO.none _
      | refine LeO.ite ?_ ?_
      | refine LeO.bind ?_ (fun _ => ?_)
    · intro y0 y1 y2 y3 y4 y5 y6 y7 y8
      unfold glacislaw12_SandboxMore.l0
      repeat' first
      | (with_reducible exact ih0 _ _ _ _ _ _ _ _ _)
      | (with_reducible exact ih1 _ _ _ _ _ _ _ _ _)
      | (with_reducible exact glacislaw12_awake.mono _)
      | (with_reducible exact glacislaw12_short.mono _ _)
      | (with_reducible exact glacisref12_Union.mono _ _ _)
      | (with_reducible exact sandbox_All.mono _ _)
      | (with_reducible exact LeO.refl _)
      | (with_reducible exact LeO.none _)
      | (with_reducible refine LeO.ite ?_ ?_)
      | (with_reducible refine LeO.bind ?_ (fun _ => ?_))
      | exact ih0 _ _ _ _ _ _ _ _ _
      | exact ih1 _ _ _ _ _ _ _ _ _
      | exact glacislaw12_awake.mono _
      | exact glacislaw12_short.mono _ _
      | exact glacisref12_Union.mono _ _ _
      | exact sandbox_All.mono _ _
      | exact LeO.none _
      | refine LeO.ite ?_ ?_
      | refine LeO.bind ?_ (fun _ => ?_)
theorem glacislaw12_SandboxMore.mono : ∀ a0 a1 a2 a3 a4 a5 a6 k, LeO (glacislaw12_SandboxMore.f k a0 a1 a2 a3 a4 a5 a6) (glacislaw12_SandboxMore.f (k + 1) a0 a1 a2 a3 a4 a5 a6) := by
  intro a0 a1 a2 a3 a4 a5 a6 k
  obtain ⟨ih0, ih1⟩ := glacislaw12_SandboxMore.mono_l k
  unfold glacislaw12_SandboxMore.f
  repeat' first
      | (with_reducible exact ih0 _ _ _ _ _ _ _ _ _)
      | (with_reducible exact ih1 _ _ _ _ _ _ _ _ _)
      | (with_reducible exact glacislaw12_awake.mono _)
      | (with_reducible exact glacislaw12_short.mono _ _)
      | (with_reducible exact glacisref12_Union.mono _ _ _)
      | (with_reducible exact sandbox_All.mono _ _)
      | (with_reducible exact LeO.refl _)
      | (with_reducible exact LeO.none _)
      | (with_reducible refine LeO.ite ?_ ?_)
      | (with_reducible refine LeO.bind ?_ (fun _ => ?_))
      | exact ih0 _ _ _ _ _ _ _ _ _
      | exact ih1 _ _ _ _ _ _ _ _ _
      | exact glacislaw12_awake.mono _
      | exact glacislaw12_short.mono _ _
      | exact glacisref12_Union.mono _ _ _
      | exact sandbox_All.mono _ _
      | exact LeO.none _
      | refine LeO.ite ?_ ?_
      | refine LeO.bind ?_ (fun _ => ?_)
def glacislaw12_SandboxMore.T16 : Bool × List (List Nat × List Nat) := (true, [([], []), ([], []), ([0, 1], [0, 1]), ([], []), ([3], [3]), ([2, 4, 2], [2, 4]), ([5, 5], [5]), ([6, 6, 0, 1, 2, 3, 4, 5, 6], [6])])
def glacislaw12_SandboxMore.B16 : List Nat := [0, 0, 3, 0, 8, 31, 63, 127]
theorem glacislaw12_SandboxMore.tab16 : rtab .any (opsOf Try.f6 16) = glacislaw12_SandboxMore.T16 := by kernel_rfl
theorem glacislaw12_SandboxMore.bits16 : waitsOk glacislaw12_SandboxMore.T16.2 glacislaw12_SandboxMore.B16 = true := by kernel_rfl
set_option maxHeartbeats 8000000 in
set_option maxRecDepth 100000 in
theorem glacislaw12_SandboxMore.calls (k : Nat) (A0 : Option Addr) (c0 : Nat) (l0 : List ByteArray) (a1 : ByteArray) (P2_ : Nat → Prop) (A2 : Option Addr) (c2 : Nat) (l2 : List (S32)) (a3_0 : Bool) (P3_1_ : Nat → Prop) (A3_1 : Option Addr) (c3_1 : Nat) (l3_1 : List ByteArray) (a3_2 : Bool) (P3_3_ : Nat → Prop) (A3_3 : Option Addr) (c3_3 : Nat) (l3_3 : List ByteArray) (r : Bool) (w : World) (hr0 : Kd.C Kd.string w A0 l0.length l0) (hc0 : l0.length ≤ c0) (hs2 : Kd.V k32 32 w w.heap.size (fun k_ => P2_ k_) (.slice A2 l2.length c2) l2) (hs3_1 : Kd.V Kd.string 9 w w.heap.size (fun k_ => P3_1_ k_) (.slice A3_1 l3_1.length c3_1) l3_1) (hs3_3 : Kd.V Kd.string 9 w w.heap.size (fun k_ => P3_3_ k_) (.slice A3_3 l3_3.length c3_3) l3_3) (h : glacislaw12_SandboxMore.f k l0 a1 l2 a3_0 l3_1 a3_2 l3_3 = some r) :
    Calls Try.prog 6 #[.slice A0 l0.length c0, .string a1, .slice A2 l2.length c2, .agg #[.bool a3_0, .slice A3_1 l3_1.length c3_1, .bool a3_2, .slice A3_3 l3_3.length c3_3]] w fun e w' => e = .returned (.bool r) ∧ Below w.heap.size w w' := by
  have hu32 := Try.underlying32
  have HR0 := Aside0.mk hr0
  have HC0 := Aside0.mk hc0
  clear hr0 hc0
  have HO2 := Aside0.mk (show Kd.V k32 32 w w.heap.size (fun k_ => ((P2_ k_ ∨ P3_1_ k_ ∨ P3_3_ k_) ∨ w.heap.size ≤ k_)) (.slice A2 l2.length c2) l2 from Kd.V_mono hs2 (fun k_ hk => .inl (.inl hk)))
  have HO3_1 := Aside0.mk (show Kd.V Kd.string 9 w w.heap.size (fun k_ => ((P2_ k_ ∨ P3_1_ k_ ∨ P3_3_ k_) ∨ w.heap.size ≤ k_)) (.slice A3_1 l3_1.length c3_1) l3_1 from Kd.V_mono hs3_1 (fun k_ hk => .inl (.inr (.inl hk))))
  have HO3_3 := Aside0.mk (show Kd.V Kd.string 9 w w.heap.size (fun k_ => ((P2_ k_ ∨ P3_1_ k_ ∨ P3_3_ k_) ∨ w.heap.size ≤ k_)) (.slice A3_3 l3_3.length c3_3) l3_3 from Kd.V_mono hs3_3 (fun k_ hk => .inl (.inr (.inr hk))))
  have HB := Aside0.mk (Below.refl w.heap.size w)
  have H : ((glacislaw12_awake.f k).bind fun t181 => ((some (([] : List ByteArray) : List ByteArray)).bind fun y182 => (if y182.length + l0.length < 8796093022208 then ((some (y182 ++ l0 : List ByteArray)).bind fun y185 => ((some (([a1] : List ByteArray) : List ByteArray)).bind fun y188 => (if y185.length + y188.length < 8796093022208 then ((glacislaw12_short.f k (y185 ++ y188)).bind fun t194 => ((glacislaw12_short.f k l3_3).bind fun t195 => (if t194 = true then (if t195 = true then (if (l0.length : Int) > 100 then (glacislaw12_SandboxMore.j0 k l0 a1 l2 t181 true a3_0 l3_1 a3_2 l3_3) else (glacislaw12_SandboxMore.j0 k l0 a1 l2 t181 (decide ((l2.length : Int) > 50)) a3_0 l3_1 a3_2 l3_3)) else (glacislaw12_SandboxMore.j0 k l0 a1 l2 t181 true a3_0 l3_1 a3_2 l3_3)) else (glacislaw12_SandboxMore.j0 k l0 a1 l2 t181 true a3_0 l3_1 a3_2 l3_3)))) else (none)))) else (none)))) = some r := h
  clear h
  replace H := Option.bind_eq_some_iff.mp H
  obtain ⟨t181, A50, H⟩ := H
  replace H : ((some (([] : List ByteArray) : List ByteArray)).bind fun y182 => (if y182.length + l0.length < 8796093022208 then ((some (y182 ++ l0 : List ByteArray)).bind fun y185 => ((some (([a1] : List ByteArray) : List ByteArray)).bind fun y188 => (if y185.length + y188.length < 8796093022208 then ((glacislaw12_short.f k (y185 ++ y188)).bind fun t194 => ((glacislaw12_short.f k l3_3).bind fun t195 => (if t194 = true then (if t195 = true then (if (l0.length : Int) > 100 then (glacislaw12_SandboxMore.j0 k l0 a1 l2 t181 true a3_0 l3_1 a3_2 l3_3) else (glacislaw12_SandboxMore.j0 k l0 a1 l2 t181 (decide ((l2.length : Int) > 50)) a3_0 l3_1 a3_2 l3_3)) else (glacislaw12_SandboxMore.j0 k l0 a1 l2 t181 true a3_0 l3_1 a3_2 l3_3)) else (glacislaw12_SandboxMore.j0 k l0 a1 l2 t181 true a3_0 l3_1 a3_2 l3_3)))) else (none)))) else (none))) = some r := H
  have A5 := Aside0.mk A50
  clear A50
  obtain ⟨y182, hy182⟩ : ∃ y_ : List ByteArray, y_ = (([] : List ByteArray)) := ⟨_, rfl⟩
  replace H : (if y182.length + l0.length < 8796093022208 then ((some (y182 ++ l0 : List ByteArray)).bind fun y185 => ((some (([a1] : List ByteArray) : List ByteArray)).bind fun y188 => (if y185.length + y188.length < 8796093022208 then ((glacislaw12_short.f k (y185 ++ y188)).bind fun t194 => ((glacislaw12_short.f k l3_3).bind fun t195 => (if t194 = true then (if t195 = true then (if (l0.length : Int) > 100 then (glacislaw12_SandboxMore.j0 k l0 a1 l2 t181 true a3_0 l3_1 a3_2 l3_3) else (glacislaw12_SandboxMore.j0 k l0 a1 l2 t181 (decide ((l2.length : Int) > 50)) a3_0 l3_1 a3_2 l3_3)) else (glacislaw12_SandboxMore.j0 k l0 a1 l2 t181 true a3_0 l3_1 a3_2 l3_3)) else (glacislaw12_SandboxMore.j0 k l0 a1 l2 t181 true a3_0 l3_1 a3_2 l3_3)))) else (none)))) else (none)) = some r := by first | (rw [hy182]; with_reducible exact H) | (have H2_ := (Option.bind_some _ _).symm.trans H; rw [hy182]; with_reducible exact H2_) | (have H2_ := (Option.bind_some _ _).symm.trans H; with_reducible exact H2_) | with_reducible exact H | (rw [hy182]; exact H) | exact H
  have Ny182 := Aside0.mk hy182
  clear hy182
  by_cases c6 : y182.length + l0.length < 8796093022208
  · rw [if_pos c6] at H
    have LMc6 := Aside0.mk c6
    clear c6
    obtain ⟨y185, hy185⟩ : ∃ y_ : List ByteArray, y_ = (y182 ++ l0) := ⟨_, rfl⟩
    replace H : ((some (([a1] : List ByteArray) : List ByteArray)).bind fun y188 => (if y185.length + y188.length < 8796093022208 then ((glacislaw12_short.f k (y185 ++ y188)).bind fun t194 => ((glacislaw12_short.f k l3_3).bind fun t195 => (if t194 = true then (if t195 = true then (if (l0.length : Int) > 100 then (glacislaw12_SandboxMore.j0 k l0 a1 l2 t181 true a3_0 l3_1 a3_2 l3_3) else (glacislaw12_SandboxMore.j0 k l0 a1 l2 t181 (decide ((l2.length : Int) > 50)) a3_0 l3_1 a3_2 l3_3)) else (glacislaw12_SandboxMore.j0 k l0 a1 l2 t181 true a3_0 l3_1 a3_2 l3_3)) else (glacislaw12_SandboxMore.j0 k l0 a1 l2 t181 true a3_0 l3_1 a3_2 l3_3)))) else (none))) = some r := by first | (rw [hy185]; with_reducible exact H) | (have H2_ := (Option.bind_some _ _).symm.trans H; rw [hy185]; with_reducible exact H2_) | (have H2_ := (Option.bind_some _ _).symm.trans H; with_reducible exact H2_) | with_reducible exact H | (rw [hy185]; exact H) | exact H
    have Ny185 := Aside0.mk hy185
    clear hy185
    obtain ⟨y188, hy188⟩ : ∃ y_ : List ByteArray, y_ = (([a1] : List ByteArray)) := ⟨_, rfl⟩
    replace H : (if y185.length + y188.length < 8796093022208 then ((glacislaw12_short.f k (y185 ++ y188)).bind fun t194 => ((glacislaw12_short.f k l3_3).bind fun t195 => (if t194 = true then (if t195 = true then (if (l0.length : Int) > 100 then (glacislaw12_SandboxMore.j0 k l0 a1 l2 t181 true a3_0 l3_1 a3_2 l3_3) else (glacislaw12_SandboxMore.j0 k l0 a1 l2 t181 (decide ((l2.length : Int) > 50)) a3_0 l3_1 a3_2 l3_3)) else (glacislaw12_SandboxMore.j0 k l0 a1 l2 t181 true a3_0 l3_1 a3_2 l3_3)) else (glacislaw12_SandboxMore.j0 k l0 a1 l2 t181 true a3_0 l3_1 a3_2 l3_3)))) else (none)) = some r := by first | (rw [hy188]; with_reducible exact H) | (have H2_ := (Option.bind_some _ _).symm.trans H; rw [hy188]; with_reducible exact H2_) | (have H2_ := (Option.bind_some _ _).symm.trans H; with_reducible exact H2_) | with_reducible exact H | (rw [hy188]; exact H) | exact H
    have Ny188 := Aside0.mk hy188
    clear hy188
    by_cases c7 : y185.length + y188.length < 8796093022208
    · rw [if_pos c7] at H
      have LMc7 := Aside0.mk c7
      clear c7
      obtain ⟨y191, hy191⟩ : ∃ y_ : List ByteArray, y_ = (y185 ++ y188) := ⟨_, rfl⟩
      replace H : ((glacislaw12_short.f k y191).bind fun t194 => ((glacislaw12_short.f k l3_3).bind fun t195 => (if t194 = true then (if t195 = true then (if (l0.length : Int) > 100 then (glacislaw12_SandboxMore.j0 k l0 a1 l2 t181 true a3_0 l3_1 a3_2 l3_3) else (glacislaw12_SandboxMore.j0 k l0 a1 l2 t181 (decide ((l2.length : Int) > 50)) a3_0 l3_1 a3_2 l3_3)) else (glacislaw12_SandboxMore.j0 k l0 a1 l2 t181 true a3_0 l3_1 a3_2 l3_3)) else (glacislaw12_SandboxMore.j0 k l0 a1 l2 t181 true a3_0 l3_1 a3_2 l3_3)))) = some r := by first | (rw [hy191]; with_reducible exact H) | (have H2_ := (Option.bind_some _ _).symm.trans H; rw [hy191]; with_reducible exact H2_) | (have H2_ := (Option.bind_some _ _).symm.trans H; with_reducible exact H2_) | with_reducible exact H | (rw [hy191]; exact H) | exact H
      have Ny191 := Aside0.mk hy191
      clear hy191
      replace H := Option.bind_eq_some_iff.mp H
      obtain ⟨t194, A80, H⟩ := H
      replace H : ((glacislaw12_short.f k l3_3).bind fun t195 => (if t194 = true then (if t195 = true then (if (l0.length : Int) > 100 then (glacislaw12_SandboxMore.j0 k l0 a1 l2 t181 true a3_0 l3_1 a3_2 l3_3) else (glacislaw12_SandboxMore.j0 k l0 a1 l2 t181 (decide ((l2.length : Int) > 50)) a3_0 l3_1 a3_2 l3_3)) else (glacislaw12_SandboxMore.j0 k l0 a1 l2 t181 true a3_0 l3_1 a3_2 l3_3)) else (glacislaw12_SandboxMore.j0 k l0 a1 l2 t181 true a3_0 l3_1 a3_2 l3_3))) = some r := H
      have A8 := Aside0.mk A80
      clear A80
      replace H := Option.bind_eq_some_iff.mp H
      obtain ⟨t195, A90, H⟩ := H
      replace H : (if t194 = true then (if t195 = true then (if (l0.length : Int) > 100 then (glacislaw12_SandboxMore.j0 k l0 a1 l2 t181 true a3_0 l3_1 a3_2 l3_3) else (glacislaw12_SandboxMore.j0 k l0 a1 l2 t181 (decide ((l2.length : Int) > 50)) a3_0 l3_1 a3_2 l3_3)) else (glacislaw12_SandboxMore.j0 k l0 a1 l2 t181 true a3_0 l3_1 a3_2 l3_3)) else (glacislaw12_SandboxMore.j0 k l0 a1 l2 t181 true a3_0 l3_1 a3_2 l3_3)) = some r := H
      have A9 := Aside0.mk A90
      clear A90
      have HC10 := Aside0.mk H
      clear H
      go_enter Try.func6, Try.ntmps6
      go_upto_region 4 with (first | ((with_reducible refine gate_dst (N := 7) rfl ?_); (try (refine gate_guard (by rfl) ?_; dsimp only)); refine box_event ?hg (N := 7) ?hd (cs := #[.bool a3_0, .slice A3_1 l3_1.length c3_1, .bool a3_2, .slice A3_3 l3_3.length c3_3]) (t := 32) ?hr ?_; (case hd => rfl); (case hg => rfl); (case hr => first | (go_simp; done) | (go_simp; rfl)); intro gb180 hg w11 hbox hb; have n0_ := Aside0.mk (Kd.V_below (Kd.V_elderB (by (with_reducible repeat (first | apply Kd.V_alloc | apply Kd.V_drewN | apply Kd.V_drew)); exact HO2.out) gb180 (Nat.le_of_eq hg.symm)) hb); have n1_ := Aside0.mk (Kd.V_below (Kd.V_elderB (by (with_reducible repeat (first | apply Kd.V_alloc | apply Kd.V_drewN | apply Kd.V_drew)); exact HO3_1.out) gb180 (Nat.le_of_eq hg.symm)) hb); have n2_ := Aside0.mk (Kd.V_below (Kd.V_elderB (by (with_reducible repeat (first | apply Kd.V_alloc | apply Kd.V_drewN | apply Kd.V_drew)); exact HO3_3.out) gb180 (Nat.le_of_eq hg.symm)) hb); have n3_ := Aside0.mk (below_step (by repeat (first | (with_reducible first | exact HB.out | apply below_alloc | apply pw_below_drewN | apply below_drew1) | exact HB.out)) hb); have n4_ := Aside0.mk (hbox); have n5_ := Aside0.mk ((by rw [hg]; exact (below_size (by repeat (first | (with_reducible first | exact HB.out | apply below_alloc | apply pw_below_drewN | apply below_drew1) | exact HB.out))) : w.heap.size ≤ gb180)); have n6_ := Aside0.mk ((by rw [hg]; exact (below_size (by repeat (first | (with_reducible first | exact HB.out | apply below_alloc | apply pw_below_drewN | apply below_drew1) | exact HB.out))) : w.heap.size ≤ gb180)); clear HO2; clear HO3_1; clear HO3_3; clear HB; have HO2 := n0_; have HO3_1 := n1_; have HO3_3 := n2_; have HB := n3_; have BK180 := n4_; have GW180 := n5_; have GE180 := n6_; clear n0_ n1_ n2_ n3_ n4_ n5_ n6_; clear hb hbox hg) | ((with_reducible refine gate_callee (f := 9) rfl ?_); refine goesL_ (some 19) rfl rfl Try.func9 (by kernel_rfl) rfl #[] rfl (by (try simp only [List.map_toArray, List.map_cons, List.map_nil]); first | done | rfl | (simp only [List.length_drop, List.length_take]; rfl)) ?_; (with_reducible refine (glacislaw12_awake.calls k  t181 _ A5.out).mono ?_); rintro e w12 ⟨rfl, hb⟩; refine ⟨_, rfl, ?_⟩; have n0_ := Aside0.mk (Kd.V_below (by (with_reducible repeat (first | apply Kd.V_alloc | apply Kd.V_drewN | apply Kd.V_drew)); exact HO2.out) hb); have n1_ := Aside0.mk (Kd.V_below (by (with_reducible repeat (first | apply Kd.V_alloc | apply Kd.V_drewN | apply Kd.V_drew)); exact HO3_1.out) hb); have n2_ := Aside0.mk (Kd.V_below (by (with_reducible repeat (first | apply Kd.V_alloc | apply Kd.V_drewN | apply Kd.V_drew)); exact HO3_3.out) hb); have n3_ := Aside0.mk (blk_below (g := gb180) (o := .cells #[.bool a3_0, .slice A3_1 l3_1.length c3_1, .bool a3_2, .slice A3_3 l3_3.length c3_3] 32 (0, 0)) (by (with_reducible repeat (first | refine blk_drewN ?_ _ | refine blk_drew ?_ | refine blk_alloc ?_ _)); exact BK180.out) hb); have n4_ := Aside0.mk (below_step (by repeat (first | (with_reducible first | exact HB.out | apply below_alloc | apply pw_below_drewN | apply below_drew1 | refine below_set ?_ GE180.out) | exact HB.out)) hb); clear HO2; clear HO3_1; clear HO3_3; clear BK180; clear HB; have HO2 := n0_; have HO3_1 := n1_; have HO3_3 := n2_; have BK180 := n3_; have HB := n4_; clear n0_ n1_ n2_ n3_ n4_; (try clear hb); (try clear hb2); (try clear hk); (try clear hi)) | ((with_reducible refine gate_dst (N := 20) rfl ?_); (try (refine gate_guard (by rfl) ?_; dsimp only)); refine Kd.R_lit Kd.string _ 9 ?hg (N := 20) ?hd (xs := ([] : List ByteArray)) (inner := []) (ok := fun _ => True) (okp := fun _ => True) ?hr ?hp (fun _ hk => hk) trivial (Below.refl _ _) (Nat.le_refl _) (by simp) ?_; (case hd => rfl); (case hg => rfl); (case hr => first | (go_simp; done) | (go_simp; rfl)); (case hp => exact (Reps.none _ _)); intro v183 w13 ho14 hb hg_ hnew_; clear hg_ hnew_; (first | rw [← Ny182.out] at ho14 | (simp only [Int.reduceToNat] at ho14; rw [← Ny182.out] at ho14)); have n0_ := Aside0.mk (Kd.V_elder' (by (with_reducible repeat (first | apply Kd.V_alloc | apply Kd.V_drewN | apply Kd.V_drew)); exact HO2.out) (Kd.R_base ho14) hb); have n1_ := Aside0.mk (Kd.V_elder' (by (with_reducible repeat (first | apply Kd.V_alloc | apply Kd.V_drewN | apply Kd.V_drew)); exact HO3_1.out) (Kd.R_base ho14) hb); have n2_ := Aside0.mk (Kd.V_elder' (by (with_reducible repeat (first | apply Kd.V_alloc | apply Kd.V_drewN | apply Kd.V_drew)); exact HO3_3.out) (Kd.R_base ho14) hb); have n3_ := Aside0.mk (Kd.R_lower (Kd.R_newM (M := fun k_ => (w.heap.size ≤ k_)) ho14 (below_size (by repeat (first | (with_reducible first | exact HB.out | apply below_alloc | apply pw_below_drewN | apply below_drew1 | refine below_set ?_ GE180.out) | exact HB.out))) (fun k_ h_ => h_)) (below_size (by repeat (first | (with_reducible first | exact HB.out | apply below_alloc | apply pw_below_drewN | apply below_drew1 | refine below_set ?_ GE180.out) | exact HB.out)))); have n4_ := Aside0.mk (blk_below (g := gb180) (o := .cells #[.bool a3_0, .slice A3_1 l3_1.length c3_1, .bool a3_2, .slice A3_3 l3_3.length c3_3] 32 (0, 0)) (by (with_reducible repeat (first | refine blk_drewN ?_ _ | refine blk_drew ?_ | refine blk_alloc ?_ _)); exact BK180.out) hb); have n5_ := Aside0.mk (below_step (by repeat (first | (with_reducible first | exact HB.out | apply below_alloc | apply pw_below_drewN | apply below_drew1 | refine below_set ?_ GE180.out) | exact HB.out)) hb); clear HO2; clear HO3_1; clear HO3_3; clear BK180; clear HB; have HO2 := n0_; have HO3_1 := n1_; have HO3_3 := n2_; have HO184 := n3_; have BK180 := n4_; have HB := n5_; clear n0_ n1_ n2_ n3_ n4_ n5_; clear hb ho14) | ((with_reducible refine gate_builtin (b := .append) (xs := #[.tmp 20, .tmp 21]) rfl ?_); (try (refine gate_guard (by rfl) ?_; dsimp only)); at_builtin; refine Kd.R_append_rows Kd.string (w0 := w) w.heap.size rfl (.tmp 20) (.tmp 21) 23 9 (.string ⟨#[]⟩) 16 rfl Try.underlying23 info9 rfl (by decide) (by omega) v183 y182 l0 _ _ _ (fun k_ => (w.heap.size ≤ k_)) (fun _ => False) rfl rfl ?aO ?aR (fun _ _ h => h) (fun _ h => h.elim) ?aF ?aB ?aS ?aL ?_; (case aR => repeat (first | exact (Kd.C_below HR0.out HB.out) | (with_reducible refine Kd.C_alloc ?_ _) | (with_reducible refine Kd.C_drewN ?_ _) | (with_reducible refine Kd.C_drew ?_))); (case aB => exact (by repeat (first | (with_reducible first | exact HB.out | apply below_alloc | apply pw_below_drewN | apply below_drew1 | refine below_set ?_ GE180.out) | exact HB.out))); (case aF => exact (fun k_ hk => (Nat.le_trans (below_size (by repeat (first | (with_reducible first | exact HB.out | apply below_alloc | apply pw_below_drewN | apply below_drew1 | refine below_set ?_ GE180.out) | exact HB.out))) hk))); (case aO => exact (by (with_reducible repeat (first | apply Kd.R_alloc | apply Kd.R_drewN | apply Kd.R_drew)); exact Kd.R_mono HO184.out (fun _ hk => hk.1))); (case aS => exact (below_size (by repeat (first | (with_reducible first | exact HB.out | apply below_alloc | apply pw_below_drewN | apply below_drew1 | refine below_set ?_ GE180.out) | exact HB.out)))); (case aL => have := LMc6.out; omega); intro v186 w15 ho hb hg hat; rw [← Ny185.out] at ho; have n0_ := Aside0.mk (Kd.V_afterv (ok := (fun k_ => ((P2_ k_ ∨ P3_1_ k_ ∨ P3_3_ k_) ∨ w.heap.size ≤ k_) ∧ k_ ≠ gb180)) (by (with_reducible repeat (first | apply Kd.V_alloc | apply Kd.V_drewN | apply Kd.V_drew)); exact HO2.out) hg hat); have n1_ := Aside0.mk (Kd.V_afterv (ok := (fun k_ => ((P2_ k_ ∨ P3_1_ k_ ∨ P3_3_ k_) ∨ w.heap.size ≤ k_) ∧ k_ ≠ gb180)) (by (with_reducible repeat (first | apply Kd.V_alloc | apply Kd.V_drewN | apply Kd.V_drew)); exact HO3_1.out) hg hat); have n2_ := Aside0.mk (Kd.V_afterv (ok := (fun k_ => ((P2_ k_ ∨ P3_1_ k_ ∨ P3_3_ k_) ∨ w.heap.size ≤ k_) ∧ k_ ≠ gb180)) (by (with_reducible repeat (first | apply Kd.V_alloc | apply Kd.V_drewN | apply Kd.V_drew)); exact HO3_3.out) hg hat); have n3_ := Aside0.mk (blk_grown (g := gb180) (o := .cells #[.bool a3_0, .slice A3_1 l3_1.length c3_1, .bool a3_2, .slice A3_3 l3_3.length c3_3] 32 (0, 0)) (by (with_reducible repeat (first | refine blk_drewN ?_ _ | refine blk_drew ?_ | refine blk_alloc ?_ _)); exact BK180.out) hg (Kd.R_ne HO184.out BK180.out (by decide))); have n4_ := Aside0.mk (hb); have n5_ := Aside0.mk (ho); clear HO2; clear HO3_1; clear HO3_3; clear BK180; clear HB; clear HO184; have HO2 := n0_; have HO3_1 := n1_; have HO3_3 := n2_; have BK180 := n3_; have HB := n4_; have HO187 := n5_; clear n0_ n1_ n2_ n3_ n4_ n5_; clear ho hb hg hat) | ((with_reducible refine gate_dst (N := 24) rfl ?_); (try (refine gate_guard (by rfl) ?_; dsimp only)); refine Kd.R_lit Kd.string _ 9 ?hg (N := 24) ?hd (xs := ([a1] : List ByteArray)) (inner := [.string a1]) (ok := fun _ => True) (okp := fun _ => True) ?hr ?hp (fun _ hk => hk) trivial (Below.refl _ _) (Nat.le_refl _) (by simp) ?_; (case hd => rfl); (case hg => rfl); (case hr => first | (go_simp; done) | (go_simp; rfl)); (case hp => exact (Reps.one (show Kd.M Kd.string _ _ _ a1 [.string a1] from rfl) (Reps.none _ _))); intro v189 w16 ho17 hb hg_ hnew_; clear hg_ hnew_; (first | rw [← Ny188.out] at ho17 | (simp only [Int.reduceToNat] at ho17; rw [← Ny188.out] at ho17)); have n0_ := Aside0.mk (Kd.V_elder' (by (with_reducible repeat (first | apply Kd.V_alloc | apply Kd.V_drewN | apply Kd.V_drew)); exact HO2.out) (Kd.R_base ho17) hb); have n1_ := Aside0.mk (Kd.V_elder' (by (with_reducible repeat (first | apply Kd.V_alloc | apply Kd.V_drewN | apply Kd.V_drew)); exact HO3_1.out) (Kd.R_base ho17) hb); have n2_ := Aside0.mk (Kd.V_elder' (by (with_reducible repeat (first | apply Kd.V_alloc | apply Kd.V_drewN | apply Kd.V_drew)); exact HO3_3.out) (Kd.R_base ho17) hb); have n3_ := Aside0.mk (Kd.R_elder' (by (with_reducible repeat (first | apply Kd.R_alloc | apply Kd.R_drewN | apply Kd.R_drew)); exact HO187.out) (Kd.R_base ho17) hb); have n4_ := Aside0.mk (Kd.R_lower (Kd.R_new' (Kd.R_newM (M := fun k_ => (w.heap.size ≤ k_)) ho17 (below_size (by repeat (first | (with_reducible first | exact HB.out | apply below_alloc | apply pw_below_drewN | apply below_drew1 | refine below_set ?_ GE180.out) | exact HB.out))) (fun k_ h_ => h_)) (Kd.R_lt (by (with_reducible repeat (first | apply Kd.R_alloc | apply Kd.R_drewN | apply Kd.R_drew)); exact HO187.out))) (below_size (by repeat (first | (with_reducible first | exact HB.out | apply below_alloc | apply pw_below_drewN | apply below_drew1 | refine below_set ?_ GE180.out) | exact HB.out)))); have n5_ := Aside0.mk (blk_below (g := gb180) (o := .cells #[.bool a3_0, .slice A3_1 l3_1.length c3_1, .bool a3_2, .slice A3_3 l3_3.length c3_3] 32 (0, 0)) (by (with_reducible repeat (first | refine blk_drewN ?_ _ | refine blk_drew ?_ | refine blk_alloc ?_ _)); exact BK180.out) hb); have n6_ := Aside0.mk (below_step (by repeat (first | (with_reducible first | exact HB.out | apply below_alloc | apply pw_below_drewN | apply below_drew1 | refine below_set ?_ GE180.out) | exact HB.out)) hb); clear HO2; clear HO3_1; clear HO3_3; clear HO187; clear BK180; clear HB; have HO2 := n0_; have HO3_1 := n1_; have HO3_3 := n2_; have HO187 := n3_; have HO190 := n4_; have BK180 := n5_; have HB := n6_; clear n0_ n1_ n2_ n3_ n4_ n5_ n6_; clear hb ho17; obtain ⟨Ao19, co19, eo19⟩ := Kd.R_slice HO190.out; subst eo19) | ((with_reducible refine gate_builtin (b := .append) (xs := #[.tmp 22, .tmp 24]) rfl ?_); (try (refine gate_guard (by rfl) ?_; dsimp only)); at_builtin; refine Kd.R_append_rows Kd.string (w0 := w) w.heap.size rfl (.tmp 22) (.tmp 24) 23 9 (.string ⟨#[]⟩) 16 rfl Try.underlying23 info9 rfl (by decide) (by omega) v186 y185 y188 _ _ _ (fun k_ => (w.heap.size ≤ k_) ∧ some k_ ≠ (.slice Ao19 y188.length co19 : Value).ownBlock) (fun _ => False) rfl rfl ?aO ?aR (fun _ _ h => h) (fun _ h => h.elim) ?aF ?aB ?aS ?aL ?_; (case aR => repeat (first | exact (Kd.R_reads' HO190.out).2.2 | (with_reducible refine Kd.C_alloc ?_ _) | (with_reducible refine Kd.C_drewN ?_ _) | (with_reducible refine Kd.C_drew ?_))); (case aB => exact (by repeat (first | (with_reducible first | exact HB.out | apply below_alloc | apply pw_below_drewN | apply below_drew1 | refine below_set ?_ GE180.out) | exact HB.out))); (case aF => exact (fun k_ hk => ⟨(Nat.le_trans (below_size (by repeat (first | (with_reducible first | exact HB.out | apply below_alloc | apply pw_below_drewN | apply below_drew1 | refine below_set ?_ GE180.out) | exact HB.out))) hk), Kd.fresh' (Kd.R_lt (by (with_reducible repeat (first | apply Kd.R_alloc | apply Kd.R_drewN | apply Kd.R_drew)); exact HO190.out)) k_ hk⟩)); (case aO => exact (by (with_reducible repeat (first | apply Kd.R_alloc | apply Kd.R_drewN | apply Kd.R_drew)); exact HO187.out)); (case aS => exact (below_size (by repeat (first | (with_reducible first | exact HB.out | apply below_alloc | apply pw_below_drewN | apply below_drew1 | refine below_set ?_ GE180.out) | exact HB.out)))); (case aL => have := LMc7.out; omega); intro v192 w18 ho hb hg hat; rw [← Ny191.out] at ho; have n0_ := Aside0.mk (Kd.V_afterv (ok := (fun k_ => ((P2_ k_ ∨ P3_1_ k_ ∨ P3_3_ k_) ∨ w.heap.size ≤ k_) ∧ some k_ ≠ (.slice Ao19 y188.length co19 : Value).ownBlock ∧ k_ ≠ gb180)) (by (with_reducible repeat (first | apply Kd.V_alloc | apply Kd.V_drewN | apply Kd.V_drew)); exact Kd.V_mono HO2.out (fun _ hk => ⟨⟨hk.1.1.1, ⟨hk.2, hk.1.1.2⟩⟩, hk.1.2⟩)) hg hat); have n1_ := Aside0.mk (Kd.V_afterv (ok := (fun k_ => ((P2_ k_ ∨ P3_1_ k_ ∨ P3_3_ k_) ∨ w.heap.size ≤ k_) ∧ some k_ ≠ (.slice Ao19 y188.length co19 : Value).ownBlock ∧ k_ ≠ gb180)) (by (with_reducible repeat (first | apply Kd.V_alloc | apply Kd.V_drewN | apply Kd.V_drew)); exact Kd.V_mono HO3_1.out (fun _ hk => ⟨⟨hk.1.1.1, ⟨hk.2, hk.1.1.2⟩⟩, hk.1.2⟩)) hg hat); have n2_ := Aside0.mk (Kd.V_afterv (ok := (fun k_ => ((P2_ k_ ∨ P3_1_ k_ ∨ P3_3_ k_) ∨ w.heap.size ≤ k_) ∧ some k_ ≠ (.slice Ao19 y188.length co19 : Value).ownBlock ∧ k_ ≠ gb180)) (by (with_reducible repeat (first | apply Kd.V_alloc | apply Kd.V_drewN | apply Kd.V_drew)); exact Kd.V_mono HO3_3.out (fun _ hk => ⟨⟨hk.1.1.1, ⟨hk.2, hk.1.1.2⟩⟩, hk.1.2⟩)) hg hat); have n3_ := Aside0.mk (blk_grown (g := gb180) (o := .cells #[.bool a3_0, .slice A3_1 l3_1.length c3_1, .bool a3_2, .slice A3_3 l3_3.length c3_3] 32 (0, 0)) (by (with_reducible repeat (first | refine blk_drewN ?_ _ | refine blk_drew ?_ | refine blk_alloc ?_ _)); exact BK180.out) hg (Kd.R_ne HO187.out BK180.out (by decide))); have n4_ := Aside0.mk (Kd.R_after (ok := (fun k_ => (w.heap.size ≤ k_))) (by (with_reducible repeat (first | apply Kd.R_alloc | apply Kd.R_drewN | apply Kd.R_drew)); exact Kd.R_mono HO190.out (fun _ hk => ⟨hk.1.1, hk.2⟩)) hg hat); have n5_ := Aside0.mk (hb); have n6_ := Aside0.mk (ho); clear HO2; clear HO3_1; clear HO3_3; clear BK180; clear HO190; clear HB; clear HO187; have HO2 := n0_; have HO3_1 := n1_; have HO3_3 := n2_; have BK180 := n3_; have HO190 := n4_; have HB := n5_; have HO193 := n6_; clear n0_ n1_ n2_ n3_ n4_ n5_ n6_; clear ho hb hg hat; obtain ⟨Ao20, co20, eo20⟩ := Kd.R_slice HO193.out; subst eo20) | ((with_reducible refine gate_callee (f := 10) rfl ?_); refine goesL_ (some 26) rfl rfl Try.func10 (by kernel_rfl) rfl #[.slice Ao20 y191.length co20] rfl (by (try simp only [List.map_toArray, List.map_cons, List.map_nil]); first | done | rfl | (simp only [List.length_drop, List.length_take]; rfl)) ?_; (with_reducible refine (glacislaw12_short.calls k _ _ y191 t194 _ ?side1 ?side2 A8.out).mono ?_); (case side1 => repeat (first | exact (Kd.R_reads' HO193.out).2.2 | (with_reducible refine Kd.C_alloc ?_ _) | (with_reducible refine Kd.C_drewN ?_ _) | (with_reducible refine Kd.C_drew ?_))); (case side2 => exact (Kd.R_reads' HO193.out).2.1); rintro e w' ⟨rfl, ⟨nd, rfl⟩⟩; refine ⟨_, rfl, ?_⟩; have hcz21_0 : w18.cell? ⟨gb180, 0, none⟩ = some (.bool a3_0) := (blk_cell BK180.out 0).trans rfl; have hcz21_1 : w18.cell? ⟨gb180, 1, none⟩ = some (.slice A3_1 l3_1.length c3_1) := (blk_cell BK180.out 1).trans rfl; have hcz21_2 : w18.cell? ⟨gb180, 2, none⟩ = some (.bool a3_2) := (blk_cell BK180.out 2).trans rfl; have hcz21_3 : w18.cell? ⟨gb180, 3, none⟩ = some (.slice A3_3 l3_3.length c3_3) := (blk_cell BK180.out 3).trans rfl; have hfz21_0 := blk_frozen BK180.out 0; have hfz21_1 := blk_frozen BK180.out 1; have hfz21_2 := blk_frozen BK180.out 2; have hfz21_3 := blk_frozen BK180.out 3) | ((with_reducible refine gate_callee (f := 10) rfl ?_); refine goesL_ (some 29) rfl rfl Try.func10 (by kernel_rfl) rfl #[.slice A3_3 l3_3.length c3_3] rfl (by (try simp only [List.map_toArray, List.map_cons, List.map_nil]); first | done | rfl | (simp only [List.length_drop, List.length_take]; rfl)) ?_; (with_reducible refine (glacislaw12_short.calls k _ _ l3_3 t195 _ ?side1 ?side2 A9.out).mono ?_); (case side1 => repeat (first | exact (Kd.V_reads' HO3_3.out).2.2 | (with_reducible refine Kd.C_alloc ?_ _) | (with_reducible refine Kd.C_drewN ?_ _) | (with_reducible refine Kd.C_drew ?_))); (case side2 => exact (Kd.V_reads' HO3_3.out).2.1); rintro e w' ⟨rfl, ⟨nd, rfl⟩⟩; refine ⟨_, rfl, ?_⟩))
      (try simp only [Act.put, List.setIfInBounds_toArray, List.set_cons_zero, List.set_cons_succ])
      go_cut [45] (fun v45 wc => ∃ (kq : Nat) (x45_9 : Bool), v45 = .bool x45_9 ∧ Aside0 (glacislaw12_SandboxMore.j0 kq l0 a1 l2 t181 x45_9 a3_0 l3_1 a3_2 l3_3 = some r) ∧ Aside0 (kq ≤ k) ∧ Aside0 (Kd.V k32 32 wc w.heap.size (fun k_ => ((P2_ k_ ∨ P3_1_ k_ ∨ P3_3_ k_) ∨ w.heap.size ≤ k_) ∧ k_ ≠ gb180) (.slice A2 l2.length c2) l2) ∧ Aside0 (Kd.V Kd.string 9 wc w.heap.size (fun k_ => ((P2_ k_ ∨ P3_1_ k_ ∨ P3_3_ k_) ∨ w.heap.size ≤ k_) ∧ k_ ≠ gb180) (.slice A3_1 l3_1.length c3_1) l3_1) ∧ Aside0 (Kd.V Kd.string 9 wc w.heap.size (fun k_ => ((P2_ k_ ∨ P3_1_ k_ ∨ P3_3_ k_) ∨ w.heap.size ≤ k_) ∧ k_ ≠ gb180) (.slice A3_3 l3_3.length c3_3) l3_3) ∧ Aside0 (wc.heap[gb180]? = some (.cells #[.bool a3_0, (.slice A3_1 l3_1.length c3_1), .bool a3_2, (.slice A3_3 l3_3.length c3_3)] 32 (0, 0))) ∧ Aside0 (Below w.heap.size w wc))
      case first =>
        have H := HC10.out
        clear HC10
        by_cases c22 : t194 = true
        · subst c22
          have H1 : (if t195 = true then (if (l0.length : Int) > 100 then (glacislaw12_SandboxMore.j0 k l0 a1 l2 t181 true a3_0 l3_1 a3_2 l3_3) else (glacislaw12_SandboxMore.j0 k l0 a1 l2 t181 (decide ((l2.length : Int) > 50)) a3_0 l3_1 a3_2 l3_3)) else (glacislaw12_SandboxMore.j0 k l0 a1 l2 t181 true a3_0 l3_1 a3_2 l3_3)) = some r := by rw [if_pos rfl] at H; exact H
          clear H
          have H := H1
          clear H1
          by_cases c23 : t195 = true
          · subst c23
            have H1 : (if (l0.length : Int) > 100 then (glacislaw12_SandboxMore.j0 k l0 a1 l2 t181 true a3_0 l3_1 a3_2 l3_3) else (glacislaw12_SandboxMore.j0 k l0 a1 l2 t181 (decide ((l2.length : Int) > 50)) a3_0 l3_1 a3_2 l3_3)) = some r := by rw [if_pos rfl] at H; exact H
            clear H
            have H := H1
            clear H1
            by_cases c24 : (l0.length : Int) > 100
            · rw [if_pos c24] at H
              have c24b0 : decide (100 < (l0.length : Int)) = true := decide_eq_true c24
              have c24b1 : decide (100 < l0.length) = true := decide_eq_true (by omega)
              clear c24
              (first | rw [c24b0] | (simp only [i64_w, i32_w]; rw [c24b0]) | skip)
              have H' := Aside0.mk H
              clear H
              go_wp2
              go_meet
              case rel => exact ⟨_, (true), (by first | rfl | (simp; done) | (simp [*]; done)), H', ⟨by first | omega | exact Nat.le_refl _⟩, ⟨by (with_reducible repeat (first | apply Kd.V_alloc | apply Kd.V_drewN | apply Kd.V_drew)); exact Kd.V_mono HO2.out (fun _ hk => ⟨hk.1.1, hk.1.2.2⟩)⟩, ⟨by (with_reducible repeat (first | apply Kd.V_alloc | apply Kd.V_drewN | apply Kd.V_drew)); exact Kd.V_mono HO3_1.out (fun _ hk => ⟨hk.1.1, hk.1.2.2⟩)⟩, ⟨by (with_reducible repeat (first | apply Kd.V_alloc | apply Kd.V_drewN | apply Kd.V_drew)); exact Kd.V_mono HO3_3.out (fun _ hk => ⟨hk.1.1, hk.1.2.2⟩)⟩, ⟨by (with_reducible repeat (first | refine blk_drewN ?_ _ | refine blk_drew ?_ | refine blk_alloc ?_ _)); exact BK180.out⟩, ⟨by repeat (first | (with_reducible first | exact HB.out | apply below_alloc | apply pw_below_drewN | apply below_drew1 | refine below_set ?_ GE180.out) | exact HB.out)⟩⟩
            · rw [if_neg c24] at H
              have c24b0 : decide (100 < (l0.length : Int)) = false := decide_eq_false c24
              have c24b1 : decide (100 < l0.length) = false := decide_eq_false (by omega)
              clear c24
              (first | rw [c24b0] | (simp only [i64_w, i32_w]; rw [c24b0]) | skip)
              have H' := Aside0.mk H
              clear H
              go_wp2
              go_meet
              case rel => exact ⟨_, (decide ((l2.length : Int) > 50)), (by first | rfl | (simp; done) | (simp [*]; done)), H', ⟨by first | omega | exact Nat.le_refl _⟩, ⟨by (with_reducible repeat (first | apply Kd.V_alloc | apply Kd.V_drewN | apply Kd.V_drew)); exact Kd.V_mono HO2.out (fun _ hk => ⟨hk.1.1, hk.1.2.2⟩)⟩, ⟨by (with_reducible repeat (first | apply Kd.V_alloc | apply Kd.V_drewN | apply Kd.V_drew)); exact Kd.V_mono HO3_1.out (fun _ hk => ⟨hk.1.1, hk.1.2.2⟩)⟩, ⟨by (with_reducible repeat (first | apply Kd.V_alloc | apply Kd.V_drewN | apply Kd.V_drew)); exact Kd.V_mono HO3_3.out (fun _ hk => ⟨hk.1.1, hk.1.2.2⟩)⟩, ⟨by (with_reducible repeat (first | refine blk_drewN ?_ _ | refine blk_drew ?_ | refine blk_alloc ?_ _)); exact BK180.out⟩, ⟨by repeat (first | (with_reducible first | exact HB.out | apply below_alloc | apply pw_below_drewN | apply below_drew1 | refine below_set ?_ GE180.out) | exact HB.out)⟩⟩
          · replace c23 := Bool.eq_false_iff.mpr c23
            subst c23
            have H1 : (glacislaw12_SandboxMore.j0 k l0 a1 l2 t181 true a3_0 l3_1 a3_2 l3_3) = some r := by rw [if_neg (show ¬ (false = true) by decide)] at H; exact H
            clear H
            have H := H1
            clear H1
            have H' := Aside0.mk H
            clear H
            go_wp2
            go_meet
            case rel => exact ⟨_, (true), (by first | rfl | (simp; done) | (simp [*]; done)), H', ⟨by first | omega | exact Nat.le_refl _⟩, ⟨by (with_reducible repeat (first | apply Kd.V_alloc | apply Kd.V_drewN | apply Kd.V_drew)); exact Kd.V_mono HO2.out (fun _ hk => ⟨hk.1.1, hk.1.2.2⟩)⟩, ⟨by (with_reducible repeat (first | apply Kd.V_alloc | apply Kd.V_drewN | apply Kd.V_drew)); exact Kd.V_mono HO3_1.out (fun _ hk => ⟨hk.1.1, hk.1.2.2⟩)⟩, ⟨by (with_reducible repeat (first | apply Kd.V_alloc | apply Kd.V_drewN | apply Kd.V_drew)); exact Kd.V_mono HO3_3.out (fun _ hk => ⟨hk.1.1, hk.1.2.2⟩)⟩, ⟨by (with_reducible repeat (first | refine blk_drewN ?_ _ | refine blk_drew ?_ | refine blk_alloc ?_ _)); exact BK180.out⟩, ⟨by repeat (first | (with_reducible first | exact HB.out | apply below_alloc | apply pw_below_drewN | apply below_drew1 | refine below_set ?_ GE180.out) | exact HB.out)⟩⟩
        · replace c22 := Bool.eq_false_iff.mpr c22
          subst c22
          have H1 : (glacislaw12_SandboxMore.j0 k l0 a1 l2 t181 true a3_0 l3_1 a3_2 l3_3) = some r := by rw [if_neg (show ¬ (false = true) by decide)] at H; exact H
          clear H
          have H := H1
          clear H1
          have H' := Aside0.mk H
          clear H
          go_wp2
          go_meet
          case rel => exact ⟨_, (true), (by first | rfl | (simp; done) | (simp [*]; done)), H', ⟨by first | omega | exact Nat.le_refl _⟩, ⟨by (with_reducible repeat (first | apply Kd.V_alloc | apply Kd.V_drewN | apply Kd.V_drew)); exact Kd.V_mono HO2.out (fun _ hk => ⟨hk.1.1, hk.1.2.2⟩)⟩, ⟨by (with_reducible repeat (first | apply Kd.V_alloc | apply Kd.V_drewN | apply Kd.V_drew)); exact Kd.V_mono HO3_1.out (fun _ hk => ⟨hk.1.1, hk.1.2.2⟩)⟩, ⟨by (with_reducible repeat (first | apply Kd.V_alloc | apply Kd.V_drewN | apply Kd.V_drew)); exact Kd.V_mono HO3_3.out (fun _ hk => ⟨hk.1.1, hk.1.2.2⟩)⟩, ⟨by (with_reducible repeat (first | refine blk_drewN ?_ _ | refine blk_drew ?_ | refine blk_alloc ?_ _)); exact BK180.out⟩, ⟨by repeat (first | (with_reducible first | exact HB.out | apply below_alloc | apply pw_below_drewN | apply below_drew1 | refine below_set ?_ GE180.out) | exact HB.out)⟩⟩
      case rest =>
        clear HC10
        try clear c1
        try clear c2
        try clear p2
        try clear c3
        try clear c6
        try clear c7
        try clear c9
        try clear c10
        try clear c22
        try clear c23
        try clear c24
        try clear c24b0
        try clear c24b1
        try clear hcz21_0
        try clear hcz21_1
        try clear hcz21_2
        try clear hcz21_3
        try clear hfz21_0
        try clear hfz21_1
        try clear hfz21_2
        try clear hfz21_3
        obtain ⟨kq, x45_9, rfl, HA, HJ9, HO_2, HO_181001, HO_181003, BK180, HB⟩ := hcut
        cases kq with
        | zero => exact absurd HA.out (by simp [glacislaw12_SandboxMore.j0])
        | succ kj9 =>
          have H := HA.out
          clear HA
          simp only [glacislaw12_SandboxMore.j0] at H
          by_cases c25 : x45_9 = true
          · subst c25
            have H1 : (some t181) = some r := by rw [if_pos rfl] at H; exact H
            clear H
            have H := H1
            clear H1
            obtain rfl := Option.some.inj H
            go_wp2
            go_ret
            exact ⟨by first | rfl | (simp [errW_none, errW_some] <;> rfl) | (simp [*, errW_none, errW_some] <;> rfl), by repeat (first | (with_reducible first | exact HB.out | apply below_alloc | apply pw_below_drewN | apply below_drew1 | refine below_set ?_ GE180.out) | exact HB.out)⟩
          · replace c25 := Bool.eq_false_iff.mpr c25
            subst c25
            have H1 : (glacislaw12_SandboxMore.l0 kj9 l0 a1 l2 t181 0 a3_0 l3_1 a3_2 l3_3) = some r := by rw [if_neg (show ¬ (false = true) by decide)] at H; exact H
            clear H
            have H := H1
            clear H1
            have H' := Aside0.mk H
            clear H
            go_wp2
            go_loopg [12] kj9 (fun kq v12 w' => ∃ (x12_2 : Int), v12 = .int .i64 x12_2 ∧ Aside0 (glacislaw12_SandboxMore.l0 kq l0 a1 l2 t181 x12_2 a3_0 l3_1 a3_2 l3_3 = some r) ∧ Aside0 (kq ≤ kj9) ∧ Aside0 (Kd.V k32 32 w' w.heap.size (fun k_ => ((P2_ k_ ∨ P3_1_ k_ ∨ P3_3_ k_) ∨ w.heap.size ≤ k_) ∧ k_ ≠ gb180) (.slice A2 l2.length c2) l2) ∧ Aside0 (Kd.V Kd.string 9 w' w.heap.size (fun k_ => ((P2_ k_ ∨ P3_1_ k_ ∨ P3_3_ k_) ∨ w.heap.size ≤ k_) ∧ k_ ≠ gb180) (.slice A3_1 l3_1.length c3_1) l3_1) ∧ Aside0 (Kd.V Kd.string 9 w' w.heap.size (fun k_ => ((P2_ k_ ∨ P3_1_ k_ ∨ P3_3_ k_) ∨ w.heap.size ≤ k_) ∧ k_ ≠ gb180) (.slice A3_3 l3_3.length c3_3) l3_3) ∧ Aside0 (w'.heap[gb180]? = some (.cells #[.bool a3_0, (.slice A3_1 l3_1.length c3_1), .bool a3_2, (.slice A3_3 l3_3.length c3_3)] 32 (0, 0))) ∧ Aside0 (Below w.heap.size w w'))
            case atStart => exact ⟨(0), (by first | rfl | (simp; done) | (simp [*]; done)), H', ⟨Nat.le_refl _⟩, ⟨by (with_reducible repeat (first | apply Kd.V_alloc | apply Kd.V_drewN | apply Kd.V_drew)); exact HO_2.out⟩, ⟨by (with_reducible repeat (first | apply Kd.V_alloc | apply Kd.V_drewN | apply Kd.V_drew)); exact HO_181001.out⟩, ⟨by (with_reducible repeat (first | apply Kd.V_alloc | apply Kd.V_drewN | apply Kd.V_drew)); exact HO_181003.out⟩, ⟨by (with_reducible repeat (first | refine blk_drewN ?_ _ | refine blk_drew ?_ | refine blk_alloc ?_ _)); exact BK180.out⟩, ⟨by repeat (first | (with_reducible first | exact HB.out | apply below_alloc | apply pw_below_drewN | apply below_drew1 | refine below_set ?_ GE180.out) | exact HB.out)⟩⟩
            case round =>
              clear H'
              try clear c1
              try clear c2
              try clear p2
              try clear c3
              try clear c6
              try clear c7
              try clear c9
              try clear c10
              try clear c22
              try clear c23
              try clear c24
              try clear c24b0
              try clear c24b1
              try clear c25
              try clear hcz21_0
              try clear hcz21_1
              try clear hcz21_2
              try clear hcz21_3
              try clear hfz21_0
              try clear hfz21_1
              try clear hfz21_2
              try clear hfz21_3
              try clear p2
              obtain ⟨x12_2, rfl, HA, HK2, HO_2, HO_181001, HO_181003, BK180, HB⟩ := hrel
              cases gk with
              | zero => exact absurd HA.out (by simp [glacislaw12_SandboxMore.l0])
              | succ k2 =>
                have H := HA.out
                clear HA
                simp only [glacislaw12_SandboxMore.l0] at H
                by_cases c26 : x12_2 < (l2.length : Int)
                · rw [if_pos c26] at H
                  have c26b0 : decide (x12_2 < (l2.length : Int)) = true := decide_eq_true c26
                  clear c26
                  by_cases c27 : 0 ≤ x12_2
                  · rw [if_pos c27] at H
                    have c27b0 : decide (0 ≤ x12_2) = true := decide_eq_true c27
                    clear c27
                    replace H := Option.bind_eq_some_iff.mp H
                    obtain ⟨t197, A280, H⟩ := H
                    replace H : (if t197 = true then (glacislaw12_SandboxMore.l0 k2 l0 a1 l2 t181 (wrap64 (x12_2 + 1)) a3_0 l3_1 a3_2 l3_3) else (some t181)) = some r := H
                    have A28 := Aside0.mk A280
                    clear A280
                    by_cases c29 : t197 = true
                    · subst c29
                      have H1 : (glacislaw12_SandboxMore.l0 k2 l0 a1 l2 t181 (wrap64 (x12_2 + 1)) a3_0 l3_1 a3_2 l3_3) = some r := by rw [if_pos rfl] at H; exact H
                      clear H
                      have H := H1
                      clear H1
                      have H' := Aside0.mk H
                      clear H
                      have p196 : 0 ≤ (x12_2 : Int) := of_decide_eq_true (by first | (with_reducible assumption) | assumption)
                      have q196 : x12_2 < (l2.length : Int) := of_decide_eq_true (by first | (with_reducible assumption) | assumption)
                      obtain ⟨ad196, A196_1, c196_1, A196_3, c196_3, e196, hx196_0, hx196_1, hx196_2, hx196_3, hl196_1, hi196_1, hl196_3, hi196_3⟩ := at_T32 (Kd.V_reads' HO_2.out).2.2 x12_2 p196 q196
                      cases e196
                      obtain ⟨ce196, hce196, hMe196, hcc196⟩ := Kd.V_get HO_2.out z32 x12_2 p196 (by first | exact q196 | exact of_decide_eq_true (by first | (with_reducible assumption) | assumption) | (have e_ := (Kd.V_reads' HO_2.out).1; omega))
                      obtain ⟨ua196_1, uc196_1, ua196_3, uc196_3, rfl, ul196_1, ge196_1, ul196_3, ge196_3⟩ := k32_openF hMe196
                      have hv196_1 := hcc196 1 _ rfl
                      rw [add_field _ _ 1 (by omega)] at hv196_1
                      replace hv196_1 := Option.some.inj (hv196_1.symm.trans hx196_1)
                      injection hv196_1 with hva_ hvn_ hvc_
                      rw [hva_] at ge196_1
                      rw [hvc_] at ul196_1
                      have HL196_1 := Aside0.mk (show Kd.V Kd.string 9 _ w.heap.size _ _ ((rd_T32 l2 x12_2).f1) from Kd.V_mk ul196_1 ge196_1)
                      clear hva_ hvn_ hvc_ ge196_1 ul196_1
                      have hv196_3 := hcc196 3 _ rfl
                      rw [add_field _ _ 3 (by omega)] at hv196_3
                      replace hv196_3 := Option.some.inj (hv196_3.symm.trans hx196_3)
                      injection hv196_3 with hva_ hvn_ hvc_
                      rw [hva_] at ge196_3
                      rw [hvc_] at ul196_3
                      have HL196_3 := Aside0.mk (show Kd.V Kd.string 9 _ w.heap.size _ _ ((rd_T32 l2 x12_2).f3) from Kd.V_mk ul196_3 ge196_3)
                      clear hva_ hvn_ hvc_ ge196_3 ul196_3
                      clear hcc196 hce196
                      have HR196_1 := Aside0.mk hi196_1
                      have HC196_1 := Aside0.mk hl196_1
                      clear hi196_1 hl196_1
                      have HR196_3 := Aside0.mk hi196_3
                      have HC196_3 := Aside0.mk hl196_3
                      clear hi196_3 hl196_3
                      replace p196 := eq_true p196
                      replace q196 := eq_true q196
                      go_wp2_with (first | ((with_reducible refine gate_callee (f := 10) rfl ?_); refine goesL_ (some 58) rfl rfl Try.func10 (by kernel_rfl) rfl #[.slice A196_3 ((rd_T32 l2 x12_2).f3).length c196_3] rfl (by (try simp only [List.map_toArray, List.map_cons, List.map_nil]); first | done | rfl | (simp only [List.length_drop, List.length_take]; rfl)) ?_; (with_reducible refine (glacislaw12_short.calls k2 _ _ ((rd_T32 l2 x12_2).f3) true _ ?side1 ?side2 A28.out).mono ?_); (case side1 => repeat (first | exact (by repeat (first | (with_reducible exact HR196_3.out) | (with_reducible refine Kd.C_alloc ?_ _) | (with_reducible refine Kd.C_drewN ?_ _) | (with_reducible refine Kd.C_drew ?_) | exact HR196_3.out)) | (with_reducible refine Kd.C_alloc ?_ _) | (with_reducible refine Kd.C_drewN ?_ _) | (with_reducible refine Kd.C_drew ?_))); (case side2 => exact HC196_3.out); rintro e w' ⟨rfl, ⟨nd, rfl⟩⟩; refine ⟨_, rfl, ?_⟩))
                      go_roundg k2
                      case measure => have := HJ9.out; have := HK2.out; omega
                      case rel => exact ⟨(wrap64 (x12_2 + 1)), (by first | rfl | (simp; done) | (simp [*]; done)), H', ⟨by have := HJ9.out; have := HK2.out; omega⟩, ⟨by (with_reducible repeat (first | apply Kd.V_alloc | apply Kd.V_drewN | apply Kd.V_drew)); exact HO_2.out⟩, ⟨by (with_reducible repeat (first | apply Kd.V_alloc | apply Kd.V_drewN | apply Kd.V_drew)); exact HO_181001.out⟩, ⟨by (with_reducible repeat (first | apply Kd.V_alloc | apply Kd.V_drewN | apply Kd.V_drew)); exact HO_181003.out⟩, ⟨by (with_reducible repeat (first | refine blk_drewN ?_ _ | refine blk_drew ?_ | refine blk_alloc ?_ _)); exact BK180.out⟩, ⟨by repeat (first | (with_reducible first | exact HB.out | apply below_alloc | apply pw_below_drewN | apply below_drew1 | refine below_set ?_ GE180.out) | exact HB.out)⟩⟩
                    · replace c29 := Bool.eq_false_iff.mpr c29
                      subst c29
                      have H1 : (some t181) = some r := by rw [if_neg (show ¬ (false = true) by decide)] at H; exact H
                      clear H
                      have H := H1
                      clear H1
                      obtain rfl := Option.some.inj H
                      have p196 : 0 ≤ (x12_2 : Int) := of_decide_eq_true (by first | (with_reducible assumption) | assumption)
                      have q196 : x12_2 < (l2.length : Int) := of_decide_eq_true (by first | (with_reducible assumption) | assumption)
                      obtain ⟨ad196, A196_1, c196_1, A196_3, c196_3, e196, hx196_0, hx196_1, hx196_2, hx196_3, hl196_1, hi196_1, hl196_3, hi196_3⟩ := at_T32 (Kd.V_reads' HO_2.out).2.2 x12_2 p196 q196
                      cases e196
                      obtain ⟨ce196, hce196, hMe196, hcc196⟩ := Kd.V_get HO_2.out z32 x12_2 p196 (by first | exact q196 | exact of_decide_eq_true (by first | (with_reducible assumption) | assumption) | (have e_ := (Kd.V_reads' HO_2.out).1; omega))
                      obtain ⟨ua196_1, uc196_1, ua196_3, uc196_3, rfl, ul196_1, ge196_1, ul196_3, ge196_3⟩ := k32_openF hMe196
                      have hv196_1 := hcc196 1 _ rfl
                      rw [add_field _ _ 1 (by omega)] at hv196_1
                      replace hv196_1 := Option.some.inj (hv196_1.symm.trans hx196_1)
                      injection hv196_1 with hva_ hvn_ hvc_
                      rw [hva_] at ge196_1
                      rw [hvc_] at ul196_1
                      have HL196_1 := Aside0.mk (show Kd.V Kd.string 9 _ w.heap.size _ _ ((rd_T32 l2 x12_2).f1) from Kd.V_mk ul196_1 ge196_1)
                      clear hva_ hvn_ hvc_ ge196_1 ul196_1
                      have hv196_3 := hcc196 3 _ rfl
                      rw [add_field _ _ 3 (by omega)] at hv196_3
                      replace hv196_3 := Option.some.inj (hv196_3.symm.trans hx196_3)
                      injection hv196_3 with hva_ hvn_ hvc_
                      rw [hva_] at ge196_3
                      rw [hvc_] at ul196_3
                      have HL196_3 := Aside0.mk (show Kd.V Kd.string 9 _ w.heap.size _ _ ((rd_T32 l2 x12_2).f3) from Kd.V_mk ul196_3 ge196_3)
                      clear hva_ hvn_ hvc_ ge196_3 ul196_3
                      clear hcc196 hce196
                      have HR196_1 := Aside0.mk hi196_1
                      have HC196_1 := Aside0.mk hl196_1
                      clear hi196_1 hl196_1
                      have HR196_3 := Aside0.mk hi196_3
                      have HC196_3 := Aside0.mk hl196_3
                      clear hi196_3 hl196_3
                      replace p196 := eq_true p196
                      replace q196 := eq_true q196
                      go_wp2_with (first | ((with_reducible refine gate_callee (f := 10) rfl ?_); refine goesL_ (some 58) rfl rfl Try.func10 (by kernel_rfl) rfl #[.slice A196_3 ((rd_T32 l2 x12_2).f3).length c196_3] rfl (by (try simp only [List.map_toArray, List.map_cons, List.map_nil]); first | done | rfl | (simp only [List.length_drop, List.length_take]; rfl)) ?_; (with_reducible refine (glacislaw12_short.calls k2 _ _ ((rd_T32 l2 x12_2).f3) false _ ?side1 ?side2 A28.out).mono ?_); (case side1 => repeat (first | exact (by repeat (first | (with_reducible exact HR196_3.out) | (with_reducible refine Kd.C_alloc ?_ _) | (with_reducible refine Kd.C_drewN ?_ _) | (with_reducible refine Kd.C_drew ?_) | exact HR196_3.out)) | (with_reducible refine Kd.C_alloc ?_ _) | (with_reducible refine Kd.C_drewN ?_ _) | (with_reducible refine Kd.C_drew ?_))); (case side2 => exact HC196_3.out); rintro e w' ⟨rfl, ⟨nd, rfl⟩⟩; refine ⟨_, rfl, ?_⟩))
                      go_ret
                      exact ⟨by first | rfl | (simp [errW_none, errW_some] <;> rfl) | (simp [*, errW_none, errW_some] <;> rfl), by repeat (first | (with_reducible first | exact HB.out | apply below_alloc | apply pw_below_drewN | apply below_drew1 | refine below_set ?_ GE180.out) | exact HB.out)⟩
                  · rw [if_neg c27] at H
                    exact absurd H (by simp)
                · rw [if_neg c26] at H
                  have c26b0 : decide (x12_2 < (l2.length : Int)) = false := decide_eq_false c26
                  clear c26
                  replace H := Option.bind_eq_some_iff.mp H
                  obtain ⟨t198, A300, H⟩ := H
                  replace H : ((some (([] : List ByteArray) : List ByteArray)).bind fun y199 => (if y199.length + l0.length < 8796093022208 then ((some (y199 ++ l0 : List ByteArray)).bind fun y202 => ((some (([a1] : List ByteArray) : List ByteArray)).bind fun y205 => (if y202.length + y205.length < 8796093022208 then ((sandbox_Flags.f (y202 ++ y205)).bind fun t211 => ((some (([a1] : List ByteArray) : List ByteArray)).bind fun y212 => (if y212.length + l0.length < 8796093022208 then ((sandbox_Flags.f (y212 ++ l0)).bind fun t218 => ((sandbox_All.f k2 l2).bind fun t219 => ((some (([] : List (S32)) : List (S32))).bind fun y220 => (if y220.length + l2.length < 2199023255552 then ((some (y220 ++ l2 : List (S32))).bind fun y223 => ((some (([(⟨a3_0, l3_1, a3_2, l3_3⟩ : S32)] : List (S32)) : List (S32))).bind fun y226 => (if y223.length + y226.length < 2199023255552 then ((sandbox_All.f k2 (y223 ++ y226)).bind fun t232 => (if t181 = true then ((glacisref12_Union.f k2 t198 t211).bind fun t233 => (if t233 = t198 then (if t211 = t218 then ((glacisref12_Union.f k2 t219 t232).bind fun t234 => (if t234 = t232 then (if t198 ≥ 0 then (if t198 ≤ 63 then (some (decide (t232 ≤ 63))) else (none)) else (none)) else (none))) else (none)) else (none))) else (none))) else (none)))) else (none))))) else (none)))) else (none)))) else (none))) = some r := H
                  have A30 := Aside0.mk A300
                  clear A300
                  obtain ⟨y199, hy199⟩ : ∃ y_ : List ByteArray, y_ = (([] : List ByteArray)) := ⟨_, rfl⟩
                  replace H : (if y199.length + l0.length < 8796093022208 then ((some (y199 ++ l0 : List ByteArray)).bind fun y202 => ((some (([a1] : List ByteArray) : List ByteArray)).bind fun y205 => (if y202.length + y205.length < 8796093022208 then ((sandbox_Flags.f (y202 ++ y205)).bind fun t211 => ((some (([a1] : List ByteArray) : List ByteArray)).bind fun y212 => (if y212.length + l0.length < 8796093022208 then ((sandbox_Flags.f (y212 ++ l0)).bind fun t218 => ((sandbox_All.f k2 l2).bind fun t219 => ((some (([] : List (S32)) : List (S32))).bind fun y220 => (if y220.length + l2.length < 2199023255552 then ((some (y220 ++ l2 : List (S32))).bind fun y223 => ((some (([(⟨a3_0, l3_1, a3_2, l3_3⟩ : S32)] : List (S32)) : List (S32))).bind fun y226 => (if y223.length + y226.length < 2199023255552 then ((sandbox_All.f k2 (y223 ++ y226)).bind fun t232 => (if t181 = true then ((glacisref12_Union.f k2 t198 t211).bind fun t233 => (if t233 = t198 then (if t211 = t218 then ((glacisref12_Union.f k2 t219 t232).bind fun t234 => (if t234 = t232 then (if t198 ≥ 0 then (if t198 ≤ 63 then (some (decide (t232 ≤ 63))) else (none)) else (none)) else (none))) else (none)) else (none))) else (none))) else (none)))) else (none))))) else (none)))) else (none)))) else (none)) = some r := by first | (rw [hy199]; with_reducible exact H) | (have H2_ := (Option.bind_some _ _).symm.trans H; rw [hy199]; with_reducible exact H2_) | (have H2_ := (Option.bind_some _ _).symm.trans H; with_reducible exact H2_) | with_reducible exact H | (rw [hy199]; exact H) | exact H
                  have Ny199 := Aside0.mk hy199
                  clear hy199
                  by_cases c31 : y199.length + l0.length < 8796093022208
                  · rw [if_pos c31] at H
                    have LMc31 := Aside0.mk c31
                    clear c31
                    obtain ⟨y202, hy202⟩ : ∃ y_ : List ByteArray, y_ = (y199 ++ l0) := ⟨_, rfl⟩
                    replace H : ((some (([a1] : List ByteArray) : List ByteArray)).bind fun y205 => (if y202.length + y205.length < 8796093022208 then ((sandbox_Flags.f (y202 ++ y205)).bind fun t211 => ((some (([a1] : List ByteArray) : List ByteArray)).bind fun y212 => (if y212.length + l0.length < 8796093022208 then ((sandbox_Flags.f (y212 ++ l0)).bind fun t218 => ((sandbox_All.f k2 l2).bind fun t219 => ((some (([] : List (S32)) : List (S32))).bind fun y220 => (if y220.length + l2.length < 2199023255552 then ((some (y220 ++ l2 : List (S32))).bind fun y223 => ((some (([(⟨a3_0, l3_1, a3_2, l3_3⟩ : S32)] : List (S32)) : List (S32))).bind fun y226 => (if y223.length + y226.length < 2199023255552 then ((sandbox_All.f k2 (y223 ++ y226)).bind fun t232 => (if t181 = true then ((glacisref12_Union.f k2 t198 t211).bind fun t233 => (if t233 = t198 then (if t211 = t218 then ((glacisref12_Union.f k2 t219 t232).bind fun t234 => (if t234 = t232 then (if t198 ≥ 0 then (if t198 ≤ 63 then (some (decide (t232 ≤ 63))) else (none)) else (none)) else (none))) else (none)) else (none))) else (none))) else (none)))) else (none))))) else (none)))) else (none))) = some r := by first | (rw [hy202]; with_reducible exact H) | (have H2_ := (Option.bind_some _ _).symm.trans H; rw [hy202]; with_reducible exact H2_) | (have H2_ := (Option.bind_some _ _).symm.trans H; with_reducible exact H2_) | with_reducible exact H | (rw [hy202]; exact H) | exact H
                    have Ny202 := Aside0.mk hy202
                    clear hy202
                    obtain ⟨y205, hy205⟩ : ∃ y_ : List ByteArray, y_ = (([a1] : List ByteArray)) := ⟨_, rfl⟩
                    replace H : (if y202.length + y205.length < 8796093022208 then ((sandbox_Flags.f (y202 ++ y205)).bind fun t211 => ((some (([a1] : List ByteArray) : List ByteArray)).bind fun y212 => (if y212.length + l0.length < 8796093022208 then ((sandbox_Flags.f (y212 ++ l0)).bind fun t218 => ((sandbox_All.f k2 l2).bind fun t219 => ((some (([] : List (S32)) : List (S32))).bind fun y220 => (if y220.length + l2.length < 2199023255552 then ((some (y220 ++ l2 : List (S32))).bind fun y223 => ((some (([(⟨a3_0, l3_1, a3_2, l3_3⟩ : S32)] : List (S32)) : List (S32))).bind fun y226 => (if y223.length + y226.length < 2199023255552 then ((sandbox_All.f k2 (y223 ++ y226)).bind fun t232 => (if t181 = true then ((glacisref12_Union.f k2 t198 t211).bind fun t233 => (if t233 = t198 then (if t211 = t218 then ((glacisref12_Union.f k2 t219 t232).bind fun t234 => (if t234 = t232 then (if t198 ≥ 0 then (if t198 ≤ 63 then (some (decide (t232 ≤ 63))) else (none)) else (none)) else (none))) else (none)) else (none))) else (none))) else (none)))) else (none))))) else (none)))) else (none)) = some r := by first | (rw [hy205]; with_reducible exact H) | (have H2_ := (Option.bind_some _ _).symm.trans H; rw [hy205]; with_reducible exact H2_) | (have H2_ := (Option.bind_some _ _).symm.trans H; with_reducible exact H2_) | with_reducible exact H | (rw [hy205]; exact H) | exact H
                    have Ny205 := Aside0.mk hy205
                    clear hy205
                    by_cases c32 : y202.length + y205.length < 8796093022208
                    · rw [if_pos c32] at H
                      have LMc32 := Aside0.mk c32
                      clear c32
                      obtain ⟨y208, hy208⟩ : ∃ y_ : List ByteArray, y_ = (y202 ++ y205) := ⟨_, rfl⟩
                      replace H : ((sandbox_Flags.f y208).bind fun t211 => ((some (([a1] : List ByteArray) : List ByteArray)).bind fun y212 => (if y212.length + l0.length < 8796093022208 then ((sandbox_Flags.f (y212 ++ l0)).bind fun t218 => ((sandbox_All.f k2 l2).bind fun t219 => ((some (([] : List (S32)) : List (S32))).bind fun y220 => (if y220.length + l2.length < 2199023255552 then ((some (y220 ++ l2 : List (S32))).bind fun y223 => ((some (([(⟨a3_0, l3_1, a3_2, l3_3⟩ : S32)] : List (S32)) : List (S32))).bind fun y226 => (if y223.length + y226.length < 2199023255552 then ((sandbox_All.f k2 (y223 ++ y226)).bind fun t232 => (if t181 = true then ((glacisref12_Union.f k2 t198 t211).bind fun t233 => (if t233 = t198 then (if t211 = t218 then ((glacisref12_Union.f k2 t219 t232).bind fun t234 => (if t234 = t232 then (if t198 ≥ 0 then (if t198 ≤ 63 then (some (decide (t232 ≤ 63))) else (none)) else (none)) else (none))) else (none)) else (none))) else (none))) else (none)))) else (none))))) else (none)))) = some r := by first | (rw [hy208]; with_reducible exact H) | (have H2_ := (Option.bind_some _ _).symm.trans H; rw [hy208]; with_reducible exact H2_) | (have H2_ := (Option.bind_some _ _).symm.trans H; with_reducible exact H2_) | with_reducible exact H | (rw [hy208]; exact H) | exact H
                      have Ny208 := Aside0.mk hy208
                      clear hy208
                      replace H := Option.bind_eq_some_iff.mp H
                      obtain ⟨t211, A330, H⟩ := H
                      replace H : ((some (([a1] : List ByteArray) : List ByteArray)).bind fun y212 => (if y212.length + l0.length < 8796093022208 then ((sandbox_Flags.f (y212 ++ l0)).bind fun t218 => ((sandbox_All.f k2 l2).bind fun t219 => ((some (([] : List (S32)) : List (S32))).bind fun y220 => (if y220.length + l2.length < 2199023255552 then ((some (y220 ++ l2 : List (S32))).bind fun y223 => ((some (([(⟨a3_0, l3_1, a3_2, l3_3⟩ : S32)] : List (S32)) : List (S32))).bind fun y226 => (if y223.length + y226.length < 2199023255552 then ((sandbox_All.f k2 (y223 ++ y226)).bind fun t232 => (if t181 = true then ((glacisref12_Union.f k2 t198 t211).bind fun t233 => (if t233 = t198 then (if t211 = t218 then ((glacisref12_Union.f k2 t219 t232).bind fun t234 => (if t234 = t232 then (if t198 ≥ 0 then (if t198 ≤ 63 then (some (decide (t232 ≤ 63))) else (none)) else (none)) else (none))) else (none)) else (none))) else (none))) else (none)))) else (none))))) else (none))) = some r := H
                      have A33 := Aside0.mk A330
                      clear A330
                      obtain ⟨y212, hy212⟩ : ∃ y_ : List ByteArray, y_ = (([a1] : List ByteArray)) := ⟨_, rfl⟩
                      replace H : (if y212.length + l0.length < 8796093022208 then ((sandbox_Flags.f (y212 ++ l0)).bind fun t218 => ((sandbox_All.f k2 l2).bind fun t219 => ((some (([] : List (S32)) : List (S32))).bind fun y220 => (if y220.length + l2.length < 2199023255552 then ((some (y220 ++ l2 : List (S32))).bind fun y223 => ((some (([(⟨a3_0, l3_1, a3_2, l3_3⟩ : S32)] : List (S32)) : List (S32))).bind fun y226 => (if y223.length + y226.length < 2199023255552 then ((sandbox_All.f k2 (y223 ++ y226)).bind fun t232 => (if t181 = true then ((glacisref12_Union.f k2 t198 t211).bind fun t233 => (if t233 = t198 then (if t211 = t218 then ((glacisref12_Union.f k2 t219 t232).bind fun t234 => (if t234 = t232 then (if t198 ≥ 0 then (if t198 ≤ 63 then (some (decide (t232 ≤ 63))) else (none)) else (none)) else (none))) else (none)) else (none))) else (none))) else (none)))) else (none))))) else (none)) = some r := by first | (rw [hy212]; with_reducible exact H) | (have H2_ := (Option.bind_some _ _).symm.trans H; rw [hy212]; with_reducible exact H2_) | (have H2_ := (Option.bind_some _ _).symm.trans H; with_reducible exact H2_) | with_reducible exact H | (rw [hy212]; exact H) | exact H
                      have Ny212 := Aside0.mk hy212
                      clear hy212
                      by_cases c34 : y212.length + l0.length < 8796093022208
                      · rw [if_pos c34] at H
                        have LMc34 := Aside0.mk c34
                        clear c34
                        obtain ⟨y215, hy215⟩ : ∃ y_ : List ByteArray, y_ = (y212 ++ l0) := ⟨_, rfl⟩
                        replace H : ((sandbox_Flags.f y215).bind fun t218 => ((sandbox_All.f k2 l2).bind fun t219 => ((some (([] : List (S32)) : List (S32))).bind fun y220 => (if y220.length + l2.length < 2199023255552 then ((some (y220 ++ l2 : List (S32))).bind fun y223 => ((some (([(⟨a3_0, l3_1, a3_2, l3_3⟩ : S32)] : List (S32)) : List (S32))).bind fun y226 => (if y223.length + y226.length < 2199023255552 then ((sandbox_All.f k2 (y223 ++ y226)).bind fun t232 => (if t181 = true then ((glacisref12_Union.f k2 t198 t211).bind fun t233 => (if t233 = t198 then (if t211 = t218 then ((glacisref12_Union.f k2 t219 t232).bind fun t234 => (if t234 = t232 then (if t198 ≥ 0 then (if t198 ≤ 63 then (some (decide (t232 ≤ 63))) else (none)) else (none)) else (none))) else (none)) else (none))) else (none))) else (none)))) else (none))))) = some r := by first | (rw [hy215]; with_reducible exact H) | (have H2_ := (Option.bind_some _ _).symm.trans H; rw [hy215]; with_reducible exact H2_) | (have H2_ := (Option.bind_some _ _).symm.trans H; with_reducible exact H2_) | with_reducible exact H | (rw [hy215]; exact H) | exact H
                        have Ny215 := Aside0.mk hy215
                        clear hy215
                        replace H := Option.bind_eq_some_iff.mp H
                        obtain ⟨t218, A350, H⟩ := H
                        replace H : ((sandbox_All.f k2 l2).bind fun t219 => ((some (([] : List (S32)) : List (S32))).bind fun y220 => (if y220.length + l2.length < 2199023255552 then ((some (y220 ++ l2 : List (S32))).bind fun y223 => ((some (([(⟨a3_0, l3_1, a3_2, l3_3⟩ : S32)] : List (S32)) : List (S32))).bind fun y226 => (if y223.length + y226.length < 2199023255552 then ((sandbox_All.f k2 (y223 ++ y226)).bind fun t232 => (if t181 = true then ((glacisref12_Union.f k2 t198 t211).bind fun t233 => (if t233 = t198 then (if t211 = t218 then ((glacisref12_Union.f k2 t219 t232).bind fun t234 => (if t234 = t232 then (if t198 ≥ 0 then (if t198 ≤ 63 then (some (decide (t232 ≤ 63))) else (none)) else (none)) else (none))) else (none)) else (none))) else (none))) else (none)))) else (none)))) = some r := H
                        have A35 := Aside0.mk A350
                        clear A350
                        replace H := Option.bind_eq_some_iff.mp H
                        obtain ⟨t219, A360, H⟩ := H
                        replace H : ((some (([] : List (S32)) : List (S32))).bind fun y220 => (if y220.length + l2.length < 2199023255552 then ((some (y220 ++ l2 : List (S32))).bind fun y223 => ((some (([(⟨a3_0, l3_1, a3_2, l3_3⟩ : S32)] : List (S32)) : List (S32))).bind fun y226 => (if y223.length + y226.length < 2199023255552 then ((sandbox_All.f k2 (y223 ++ y226)).bind fun t232 => (if t181 = true then ((glacisref12_Union.f k2 t198 t211).bind fun t233 => (if t233 = t198 then (if t211 = t218 then ((glacisref12_Union.f k2 t219 t232).bind fun t234 => (if t234 = t232 then (if t198 ≥ 0 then (if t198 ≤ 63 then (some (decide (t232 ≤ 63))) else (none)) else (none)) else (none))) else (none)) else (none))) else (none))) else (none)))) else (none))) = some r := H
                        have A36 := Aside0.mk A360
                        clear A360
                        obtain ⟨y220, hy220⟩ : ∃ y_ : List (S32), y_ = (([] : List (S32))) := ⟨_, rfl⟩
                        replace H : (if y220.length + l2.length < 2199023255552 then ((some (y220 ++ l2 : List (S32))).bind fun y223 => ((some (([(⟨a3_0, l3_1, a3_2, l3_3⟩ : S32)] : List (S32)) : List (S32))).bind fun y226 => (if y223.length + y226.length < 2199023255552 then ((sandbox_All.f k2 (y223 ++ y226)).bind fun t232 => (if t181 = true then ((glacisref12_Union.f k2 t198 t211).bind fun t233 => (if t233 = t198 then (if t211 = t218 then ((glacisref12_Union.f k2 t219 t232).bind fun t234 => (if t234 = t232 then (if t198 ≥ 0 then (if t198 ≤ 63 then (some (decide (t232 ≤ 63))) else (none)) else (none)) else (none))) else (none)) else (none))) else (none))) else (none)))) else (none)) = some r := by first | (rw [hy220]; with_reducible exact H) | (have H2_ := (Option.bind_some _ _).symm.trans H; rw [hy220]; with_reducible exact H2_) | (have H2_ := (Option.bind_some _ _).symm.trans H; with_reducible exact H2_) | with_reducible exact H | (rw [hy220]; exact H) | exact H
                        have Ny220 := Aside0.mk hy220
                        clear hy220
                        by_cases c37 : y220.length + l2.length < 2199023255552
                        · rw [if_pos c37] at H
                          have LMc37 := Aside0.mk c37
                          clear c37
                          obtain ⟨y223, hy223⟩ : ∃ y_ : List (S32), y_ = (y220 ++ l2) := ⟨_, rfl⟩
                          replace H : ((some (([(⟨a3_0, l3_1, a3_2, l3_3⟩ : S32)] : List (S32)) : List (S32))).bind fun y226 => (if y223.length + y226.length < 2199023255552 then ((sandbox_All.f k2 (y223 ++ y226)).bind fun t232 => (if t181 = true then ((glacisref12_Union.f k2 t198 t211).bind fun t233 => (if t233 = t198 then (if t211 = t218 then ((glacisref12_Union.f k2 t219 t232).bind fun t234 => (if t234 = t232 then (if t198 ≥ 0 then (if t198 ≤ 63 then (some (decide (t232 ≤ 63))) else (none)) else (none)) else (none))) else (none)) else (none))) else (none))) else (none))) = some r := by first | (rw [hy223]; with_reducible exact H) | (have H2_ := (Option.bind_some _ _).symm.trans H; rw [hy223]; with_reducible exact H2_) | (have H2_ := (Option.bind_some _ _).symm.trans H; with_reducible exact H2_) | with_reducible exact H | (rw [hy223]; exact H) | exact H
                          have Ny223 := Aside0.mk hy223
                          clear hy223
                          obtain ⟨y226, hy226⟩ : ∃ y_ : List (S32), y_ = (([(⟨a3_0, l3_1, a3_2, l3_3⟩ : S32)] : List (S32))) := ⟨_, rfl⟩
                          replace H : (if y223.length + y226.length < 2199023255552 then ((sandbox_All.f k2 (y223 ++ y226)).bind fun t232 => (if t181 = true then ((glacisref12_Union.f k2 t198 t211).bind fun t233 => (if t233 = t198 then (if t211 = t218 then ((glacisref12_Union.f k2 t219 t232).bind fun t234 => (if t234 = t232 then (if t198 ≥ 0 then (if t198 ≤ 63 then (some (decide (t232 ≤ 63))) else (none)) else (none)) else (none))) else (none)) else (none))) else (none))) else (none)) = some r := by first | (rw [hy226]; with_reducible exact H) | (have H2_ := (Option.bind_some _ _).symm.trans H; rw [hy226]; with_reducible exact H2_) | (have H2_ := (Option.bind_some _ _).symm.trans H; with_reducible exact H2_) | with_reducible exact H | (rw [hy226]; exact H) | exact H
                          have Ny226 := Aside0.mk hy226
                          clear hy226
                          by_cases c38 : y223.length + y226.length < 2199023255552
                          · rw [if_pos c38] at H
                            have LMc38 := Aside0.mk c38
                            clear c38
                            obtain ⟨y229, hy229⟩ : ∃ y_ : List (S32), y_ = (y223 ++ y226) := ⟨_, rfl⟩
                            replace H : ((sandbox_All.f k2 y229).bind fun t232 => (if t181 = true then ((glacisref12_Union.f k2 t198 t211).bind fun t233 => (if t233 = t198 then (if t211 = t218 then ((glacisref12_Union.f k2 t219 t232).bind fun t234 => (if t234 = t232 then (if t198 ≥ 0 then (if t198 ≤ 63 then (some (decide (t232 ≤ 63))) else (none)) else (none)) else (none))) else (none)) else (none))) else (none))) = some r := by first | (rw [hy229]; with_reducible exact H) | (have H2_ := (Option.bind_some _ _).symm.trans H; rw [hy229]; with_reducible exact H2_) | (have H2_ := (Option.bind_some _ _).symm.trans H; with_reducible exact H2_) | with_reducible exact H | (rw [hy229]; exact H) | exact H
                            have Ny229 := Aside0.mk hy229
                            clear hy229
                            replace H := Option.bind_eq_some_iff.mp H
                            obtain ⟨t232, A390, H⟩ := H
                            replace H : (if t181 = true then ((glacisref12_Union.f k2 t198 t211).bind fun t233 => (if t233 = t198 then (if t211 = t218 then ((glacisref12_Union.f k2 t219 t232).bind fun t234 => (if t234 = t232 then (if t198 ≥ 0 then (if t198 ≤ 63 then (some (decide (t232 ≤ 63))) else (none)) else (none)) else (none))) else (none)) else (none))) else (none)) = some r := H
                            have A39 := Aside0.mk A390
                            clear A390
                            by_cases c40 : t181 = true
                            · subst c40
                              have H1 : ((glacisref12_Union.f k2 t198 t211).bind fun t233 => (if t233 = t198 then (if t211 = t218 then ((glacisref12_Union.f k2 t219 t232).bind fun t234 => (if t234 = t232 then (if t198 ≥ 0 then (if t198 ≤ 63 then (some (decide (t232 ≤ 63))) else (none)) else (none)) else (none))) else (none)) else (none))) = some r := by rw [if_pos rfl] at H; exact H
                              clear H
                              have H := H1
                              clear H1
                              replace H := Option.bind_eq_some_iff.mp H
                              obtain ⟨t233, A410, H⟩ := H
                              replace H : (if t233 = t198 then (if t211 = t218 then ((glacisref12_Union.f k2 t219 t232).bind fun t234 => (if t234 = t232 then (if t198 ≥ 0 then (if t198 ≤ 63 then (some (decide (t232 ≤ 63))) else (none)) else (none)) else (none))) else (none)) else (none)) = some r := H
                              have A41 := Aside0.mk A410
                              clear A410
                              by_cases c42 : t233 = t198
                              · rw [if_pos c42] at H
                                have c42b0 : (t233 == t198) = true := beq_iff_eq.mpr c42
                                have c42b1 : (t233 != t198) = false := bne_eq_false_iff_eq.mpr c42
                                clear c42
                                by_cases c43 : t211 = t218
                                · rw [if_pos c43] at H
                                  have c43b0 : (t211 == t218) = true := beq_iff_eq.mpr c43
                                  have c43b1 : (t211 != t218) = false := bne_eq_false_iff_eq.mpr c43
                                  clear c43
                                  replace H := Option.bind_eq_some_iff.mp H
                                  obtain ⟨t234, A440, H⟩ := H
                                  replace H : (if t234 = t232 then (if t198 ≥ 0 then (if t198 ≤ 63 then (some (decide (t232 ≤ 63))) else (none)) else (none)) else (none)) = some r := H
                                  have A44 := Aside0.mk A440
                                  clear A440
                                  by_cases c45 : t234 = t232
                                  · rw [if_pos c45] at H
                                    have c45b0 : (t234 == t232) = true := beq_iff_eq.mpr c45
                                    have c45b1 : (t234 != t232) = false := bne_eq_false_iff_eq.mpr c45
                                    clear c45
                                    by_cases c46 : t198 ≥ 0
                                    · rw [if_pos c46] at H
                                      have c46b0 : decide (0 ≤ t198) = true := decide_eq_true c46
                                      clear c46
                                      by_cases c47 : t198 ≤ 63
                                      · rw [if_pos c47] at H
                                        have c47b0 : decide (t198 ≤ 63) = true := decide_eq_true c47
                                        clear c47
                                        obtain rfl := Option.some.inj H
                                        try go_wp2_with (first | ((with_reducible refine gate_callee (f := 14) rfl ?_); refine goesL_ (some 63) rfl rfl Try.func14 (by kernel_rfl) rfl #[.slice A0 l0.length c0] rfl (by (try simp only [List.map_toArray, List.map_cons, List.map_nil]); first | done | rfl | (simp only [List.length_drop, List.length_take]; rfl)) ?_; (with_reducible refine (sandbox_Flags.calls _ _ l0 t198 _ ?side1 ?side2 A30.out).mono ?_); (case side1 => repeat (first | exact (Kd.C_below HR0.out HB.out) | (with_reducible refine Kd.C_alloc ?_ _) | (with_reducible refine Kd.C_drewN ?_ _) | (with_reducible refine Kd.C_drew ?_))); (case side2 => exact HC0.out); rintro e w48 ⟨rfl, hb⟩; refine ⟨_, rfl, ?_⟩; have n0_ := Aside0.mk (Kd.V_below (by (with_reducible repeat (first | apply Kd.V_alloc | apply Kd.V_drewN | apply Kd.V_drew)); exact HO_2.out) hb); have n1_ := Aside0.mk (Kd.V_below (by (with_reducible repeat (first | apply Kd.V_alloc | apply Kd.V_drewN | apply Kd.V_drew)); exact HO_181001.out) hb); have n2_ := Aside0.mk (Kd.V_below (by (with_reducible repeat (first | apply Kd.V_alloc | apply Kd.V_drewN | apply Kd.V_drew)); exact HO_181003.out) hb); have n3_ := Aside0.mk (blk_below (g := gb180) (o := .cells #[.bool a3_0, .slice A3_1 l3_1.length c3_1, .bool a3_2, .slice A3_3 l3_3.length c3_3] 32 (0, 0)) (by (with_reducible repeat (first | refine blk_drewN ?_ _ | refine blk_drew ?_ | refine blk_alloc ?_ _)); exact BK180.out) hb); have n4_ := Aside0.mk (below_step (by repeat (first | (with_reducible first | exact HB.out | apply below_alloc | apply pw_below_drewN | apply below_drew1 | refine below_set ?_ GE180.out) | exact HB.out)) hb); clear HO_2; clear HO_181001; clear HO_181003; clear BK180; clear HB; have HO_2 := n0_; have HO_181001 := n1_; have HO_181003 := n2_; have BK180 := n3_; have HB := n4_; clear n0_ n1_ n2_ n3_ n4_; (try clear hb); (try clear hb2); (try clear hk); (try clear hi)) | ((with_reducible refine gate_dst (N := 64) rfl ?_); (try (refine gate_guard (by rfl) ?_; dsimp only)); refine Kd.R_lit Kd.string _ 9 ?hg (N := 64) ?hd (xs := ([] : List ByteArray)) (inner := []) (ok := fun _ => True) (okp := fun _ => True) ?hr ?hp (fun _ hk => hk) trivial (Below.refl _ _) (Nat.le_refl _) (by simp) ?_; (case hd => rfl); (case hg => rfl); (case hr => first | (go_simp; done) | (go_simp; rfl)); (case hp => exact (Reps.none _ _)); intro v200 w49 ho50 hb hg_ hnew_; clear hg_ hnew_; (first | rw [← Ny199.out] at ho50 | (simp only [Int.reduceToNat] at ho50; rw [← Ny199.out] at ho50)); have n0_ := Aside0.mk (Kd.V_elder' (by (with_reducible repeat (first | apply Kd.V_alloc | apply Kd.V_drewN | apply Kd.V_drew)); exact HO_2.out) (Kd.R_base ho50) hb); have n1_ := Aside0.mk (Kd.V_elder' (by (with_reducible repeat (first | apply Kd.V_alloc | apply Kd.V_drewN | apply Kd.V_drew)); exact HO_181001.out) (Kd.R_base ho50) hb); have n2_ := Aside0.mk (Kd.V_elder' (by (with_reducible repeat (first | apply Kd.V_alloc | apply Kd.V_drewN | apply Kd.V_drew)); exact HO_181003.out) (Kd.R_base ho50) hb); have n3_ := Aside0.mk (Kd.R_lower (Kd.R_newM (M := fun k_ => (w.heap.size ≤ k_)) ho50 (below_size (by repeat (first | (with_reducible first | exact HB.out | apply below_alloc | apply pw_below_drewN | apply below_drew1 | refine below_set ?_ GE180.out) | exact HB.out))) (fun k_ h_ => h_)) (below_size (by repeat (first | (with_reducible first | exact HB.out | apply below_alloc | apply pw_below_drewN | apply below_drew1 | refine below_set ?_ GE180.out) | exact HB.out)))); have n4_ := Aside0.mk (blk_below (g := gb180) (o := .cells #[.bool a3_0, .slice A3_1 l3_1.length c3_1, .bool a3_2, .slice A3_3 l3_3.length c3_3] 32 (0, 0)) (by (with_reducible repeat (first | refine blk_drewN ?_ _ | refine blk_drew ?_ | refine blk_alloc ?_ _)); exact BK180.out) hb); have n5_ := Aside0.mk (below_step (by repeat (first | (with_reducible first | exact HB.out | apply below_alloc | apply pw_below_drewN | apply below_drew1 | refine below_set ?_ GE180.out) | exact HB.out)) hb); clear HO_2; clear HO_181001; clear HO_181003; clear BK180; clear HB; have HO_2 := n0_; have HO_181001 := n1_; have HO_181003 := n2_; have HO201 := n3_; have BK180 := n4_; have HB := n5_; clear n0_ n1_ n2_ n3_ n4_ n5_; clear hb ho50) | ((with_reducible refine gate_builtin (b := .append) (xs := #[.tmp 64, .tmp 65]) rfl ?_); (try (refine gate_guard (by rfl) ?_; dsimp only)); at_builtin; refine Kd.R_append_rows Kd.string (w0 := w) w.heap.size rfl (.tmp 64) (.tmp 65) 23 9 (.string ⟨#[]⟩) 16 rfl Try.underlying23 info9 rfl (by decide) (by omega) v200 y199 l0 _ _ _ (fun k_ => (w.heap.size ≤ k_)) (fun _ => False) rfl rfl ?aO ?aR (fun _ _ h => h) (fun _ h => h.elim) ?aF ?aB ?aS ?aL ?_; (case aR => repeat (first | exact (Kd.C_below HR0.out HB.out) | (with_reducible refine Kd.C_alloc ?_ _) | (with_reducible refine Kd.C_drewN ?_ _) | (with_reducible refine Kd.C_drew ?_))); (case aB => exact (by repeat (first | (with_reducible first | exact HB.out | apply below_alloc | apply pw_below_drewN | apply below_drew1 | refine below_set ?_ GE180.out) | exact HB.out))); (case aF => exact (fun k_ hk => (Nat.le_trans (below_size (by repeat (first | (with_reducible first | exact HB.out | apply below_alloc | apply pw_below_drewN | apply below_drew1 | refine below_set ?_ GE180.out) | exact HB.out))) hk))); (case aO => exact (by (with_reducible repeat (first | apply Kd.R_alloc | apply Kd.R_drewN | apply Kd.R_drew)); exact Kd.R_mono HO201.out (fun _ hk => hk.1))); (case aS => exact (below_size (by repeat (first | (with_reducible first | exact HB.out | apply below_alloc | apply pw_below_drewN | apply below_drew1 | refine below_set ?_ GE180.out) | exact HB.out)))); (case aL => have := LMc31.out; omega); intro v203 w51 ho hb hg hat; rw [← Ny202.out] at ho; have n0_ := Aside0.mk (Kd.V_afterv (ok := (fun k_ => ((P2_ k_ ∨ P3_1_ k_ ∨ P3_3_ k_) ∨ w.heap.size ≤ k_) ∧ k_ ≠ gb180)) (by (with_reducible repeat (first | apply Kd.V_alloc | apply Kd.V_drewN | apply Kd.V_drew)); exact HO_2.out) hg hat); have n1_ := Aside0.mk (Kd.V_afterv (ok := (fun k_ => ((P2_ k_ ∨ P3_1_ k_ ∨ P3_3_ k_) ∨ w.heap.size ≤ k_) ∧ k_ ≠ gb180)) (by (with_reducible repeat (first | apply Kd.V_alloc | apply Kd.V_drewN | apply Kd.V_drew)); exact HO_181001.out) hg hat); have n2_ := Aside0.mk (Kd.V_afterv (ok := (fun k_ => ((P2_ k_ ∨ P3_1_ k_ ∨ P3_3_ k_) ∨ w.heap.size ≤ k_) ∧ k_ ≠ gb180)) (by (with_reducible repeat (first | apply Kd.V_alloc | apply Kd.V_drewN | apply Kd.V_drew)); exact HO_181003.out) hg hat); have n3_ := Aside0.mk (blk_grown (g := gb180) (o := .cells #[.bool a3_0, .slice A3_1 l3_1.length c3_1, .bool a3_2, .slice A3_3 l3_3.length c3_3] 32 (0, 0)) (by (with_reducible repeat (first | refine blk_drewN ?_ _ | refine blk_drew ?_ | refine blk_alloc ?_ _)); exact BK180.out) hg (Kd.R_ne HO201.out BK180.out (by decide))); have n4_ := Aside0.mk (hb); have n5_ := Aside0.mk (ho); clear HO_2; clear HO_181001; clear HO_181003; clear BK180; clear HB; clear HO201; have HO_2 := n0_; have HO_181001 := n1_; have HO_181003 := n2_; have BK180 := n3_; have HB := n4_; have HO204 := n5_; clear n0_ n1_ n2_ n3_ n4_ n5_; clear ho hb hg hat) | ((with_reducible refine gate_dst (N := 68) rfl ?_); (try (refine gate_guard (by rfl) ?_; dsimp only)); refine Kd.R_lit Kd.string _ 9 ?hg (N := 68) ?hd (xs := ([a1] : List ByteArray)) (inner := [.string a1]) (ok := fun _ => True) (okp := fun _ => True) ?hr ?hp (fun _ hk => hk) trivial (Below.refl _ _) (Nat.le_refl _) (by simp) ?_; (case hd => rfl); (case hg => rfl); (case hr => first | (go_simp; done) | (go_simp; rfl)); (case hp => exact (Reps.one (show Kd.M Kd.string _ _ _ a1 [.string a1] from rfl) (Reps.none _ _))); intro v206 w52 ho53 hb hg_ hnew_; clear hg_ hnew_; (first | rw [← Ny205.out] at ho53 | (simp only [Int.reduceToNat] at ho53; rw [← Ny205.out] at ho53)); have n0_ := Aside0.mk (Kd.V_elder' (by (with_reducible repeat (first | apply Kd.V_alloc | apply Kd.V_drewN | apply Kd.V_drew)); exact HO_2.out) (Kd.R_base ho53) hb); have n1_ := Aside0.mk (Kd.V_elder' (by (with_reducible repeat (first | apply Kd.V_alloc | apply Kd.V_drewN | apply Kd.V_drew)); exact HO_181001.out) (Kd.R_base ho53) hb); have n2_ := Aside0.mk (Kd.V_elder' (by (with_reducible repeat (first | apply Kd.V_alloc | apply Kd.V_drewN | apply Kd.V_drew)); exact HO_181003.out) (Kd.R_base ho53) hb); have n3_ := Aside0.mk (Kd.R_elder' (by (with_reducible repeat (first | apply Kd.R_alloc | apply Kd.R_drewN | apply Kd.R_drew)); exact HO204.out) (Kd.R_base ho53) hb); have n4_ := Aside0.mk (Kd.R_lower (Kd.R_new' (Kd.R_newM (M := fun k_ => (w.heap.size ≤ k_)) ho53 (below_size (by repeat (first | (with_reducible first | exact HB.out | apply below_alloc | apply pw_below_drewN | apply below_drew1 | refine below_set ?_ GE180.out) | exact HB.out))) (fun k_ h_ => h_)) (Kd.R_lt (by (with_reducible repeat (first | apply Kd.R_alloc | apply Kd.R_drewN | apply Kd.R_drew)); exact HO204.out))) (below_size (by repeat (first | (with_reducible first | exact HB.out | apply below_alloc | apply pw_below_drewN | apply below_drew1 | refine below_set ?_ GE180.out) | exact HB.out)))); have n5_ := Aside0.mk (blk_below (g := gb180) (o := .cells #[.bool a3_0, .slice A3_1 l3_1.length c3_1, .bool a3_2, .slice A3_3 l3_3.length c3_3] 32 (0, 0)) (by (with_reducible repeat (first | refine blk_drewN ?_ _ | refine blk_drew ?_ | refine blk_alloc ?_ _)); exact BK180.out) hb); have n6_ := Aside0.mk (below_step (by repeat (first | (with_reducible first | exact HB.out | apply below_alloc | apply pw_below_drewN | apply below_drew1 | refine below_set ?_ GE180.out) | exact HB.out)) hb); clear HO_2; clear HO_181001; clear HO_181003; clear HO204; clear BK180; clear HB; have HO_2 := n0_; have HO_181001 := n1_; have HO_181003 := n2_; have HO204 := n3_; have HO207 := n4_; have BK180 := n5_; have HB := n6_; clear n0_ n1_ n2_ n3_ n4_ n5_ n6_; clear hb ho53; obtain ⟨Ao55, co55, eo55⟩ := Kd.R_slice HO207.out; subst eo55) | ((with_reducible refine gate_builtin (b := .append) (xs := #[.tmp 66, .tmp 68]) rfl ?_); (try (refine gate_guard (by rfl) ?_; dsimp only)); at_builtin; refine Kd.R_append_rows Kd.string (w0 := w) w.heap.size rfl (.tmp 66) (.tmp 68) 23 9 (.string ⟨#[]⟩) 16 rfl Try.underlying23 info9 rfl (by decide) (by omega) v203 y202 y205 _ _ _ (fun k_ => (w.heap.size ≤ k_) ∧ some k_ ≠ (.slice Ao55 y205.length co55 : Value).ownBlock) (fun _ => False) rfl rfl ?aO ?aR (fun _ _ h => h) (fun _ h => h.elim) ?aF ?aB ?aS ?aL ?_; (case aR => repeat (first | exact (Kd.R_reads' HO207.out).2.2 | (with_reducible refine Kd.C_alloc ?_ _) | (with_reducible refine Kd.C_drewN ?_ _) | (with_reducible refine Kd.C_drew ?_))); (case aB => exact (by repeat (first | (with_reducible first | exact HB.out | apply below_alloc | apply pw_below_drewN | apply below_drew1 | refine below_set ?_ GE180.out) | exact HB.out))); (case aF => exact (fun k_ hk => ⟨(Nat.le_trans (below_size (by repeat (first | (with_reducible first | exact HB.out | apply below_alloc | apply pw_below_drewN | apply below_drew1 | refine below_set ?_ GE180.out) | exact HB.out))) hk), Kd.fresh' (Kd.R_lt (by (with_reducible repeat (first | apply Kd.R_alloc | apply Kd.R_drewN | apply Kd.R_drew)); exact HO207.out)) k_ hk⟩)); (case aO => exact (by (with_reducible repeat (first | apply Kd.R_alloc | apply Kd.R_drewN | apply Kd.R_drew)); exact HO204.out)); (case aS => exact (below_size (by repeat (first | (with_reducible first | exact HB.out | apply below_alloc | apply pw_below_drewN | apply below_drew1 | refine below_set ?_ GE180.out) | exact HB.out)))); (case aL => have := LMc32.out; omega); intro v209 w54 ho hb hg hat; rw [← Ny208.out] at ho; have n0_ := Aside0.mk (Kd.V_afterv (ok := (fun k_ => ((P2_ k_ ∨ P3_1_ k_ ∨ P3_3_ k_) ∨ w.heap.size ≤ k_) ∧ some k_ ≠ (.slice Ao55 y205.length co55 : Value).ownBlock ∧ k_ ≠ gb180)) (by (with_reducible repeat (first | apply Kd.V_alloc | apply Kd.V_drewN | apply Kd.V_drew)); exact Kd.V_mono HO_2.out (fun _ hk => ⟨⟨hk.1.1.1, ⟨hk.2, hk.1.1.2⟩⟩, hk.1.2⟩)) hg hat); have n1_ := Aside0.mk (Kd.V_afterv (ok := (fun k_ => ((P2_ k_ ∨ P3_1_ k_ ∨ P3_3_ k_) ∨ w.heap.size ≤ k_) ∧ some k_ ≠ (.slice Ao55 y205.length co55 : Value).ownBlock ∧ k_ ≠ gb180)) (by (with_reducible repeat (first | apply Kd.V_alloc | apply Kd.V_drewN | apply Kd.V_drew)); exact Kd.V_mono HO_181001.out (fun _ hk => ⟨⟨hk.1.1.1, ⟨hk.2, hk.1.1.2⟩⟩, hk.1.2⟩)) hg hat); have n2_ := Aside0.mk (Kd.V_afterv (ok := (fun k_ => ((P2_ k_ ∨ P3_1_ k_ ∨ P3_3_ k_) ∨ w.heap.size ≤ k_) ∧ some k_ ≠ (.slice Ao55 y205.length co55 : Value).ownBlock ∧ k_ ≠ gb180)) (by (with_reducible repeat (first | apply Kd.V_alloc | apply Kd.V_drewN | apply Kd.V_drew)); exact Kd.V_mono HO_181003.out (fun _ hk => ⟨⟨hk.1.1.1, ⟨hk.2, hk.1.1.2⟩⟩, hk.1.2⟩)) hg hat); have n3_ := Aside0.mk (blk_grown (g := gb180) (o := .cells #[.bool a3_0, .slice A3_1 l3_1.length c3_1, .bool a3_2, .slice A3_3 l3_3.length c3_3] 32 (0, 0)) (by (with_reducible repeat (first | refine blk_drewN ?_ _ | refine blk_drew ?_ | refine blk_alloc ?_ _)); exact BK180.out) hg (Kd.R_ne HO204.out BK180.out (by decide))); have n4_ := Aside0.mk (Kd.R_after (ok := (fun k_ => (w.heap.size ≤ k_))) (by (with_reducible repeat (first | apply Kd.R_alloc | apply Kd.R_drewN | apply Kd.R_drew)); exact Kd.R_mono HO207.out (fun _ hk => ⟨hk.1.1, hk.2⟩)) hg hat); have n5_ := Aside0.mk (hb); have n6_ := Aside0.mk (ho); clear HO_2; clear HO_181001; clear HO_181003; clear BK180; clear HO207; clear HB; clear HO204; have HO_2 := n0_; have HO_181001 := n1_; have HO_181003 := n2_; have BK180 := n3_; have HO207 := n4_; have HB := n5_; have HO210 := n6_; clear n0_ n1_ n2_ n3_ n4_ n5_ n6_; clear ho hb hg hat; obtain ⟨Ao56, co56, eo56⟩ := Kd.R_slice HO210.out; subst eo56) | ((with_reducible refine gate_callee (f := 14) rfl ?_); refine goesL_ (some 70) rfl rfl Try.func14 (by kernel_rfl) rfl #[.slice Ao56 y208.length co56] rfl (by (try simp only [List.map_toArray, List.map_cons, List.map_nil]); first | done | rfl | (simp only [List.length_drop, List.length_take]; rfl)) ?_; (with_reducible refine (sandbox_Flags.calls _ _ y208 t211 _ ?side1 ?side2 A33.out).mono ?_); (case side1 => repeat (first | exact (Kd.R_reads' HO210.out).2.2 | (with_reducible refine Kd.C_alloc ?_ _) | (with_reducible refine Kd.C_drewN ?_ _) | (with_reducible refine Kd.C_drew ?_))); (case side2 => exact (Kd.R_reads' HO210.out).2.1); rintro e w57 ⟨rfl, hb⟩; refine ⟨_, rfl, ?_⟩; have n0_ := Aside0.mk (Kd.V_below (by (with_reducible repeat (first | apply Kd.V_alloc | apply Kd.V_drewN | apply Kd.V_drew)); exact HO_2.out) hb); have n1_ := Aside0.mk (Kd.V_below (by (with_reducible repeat (first | apply Kd.V_alloc | apply Kd.V_drewN | apply Kd.V_drew)); exact HO_181001.out) hb); have n2_ := Aside0.mk (Kd.V_below (by (with_reducible repeat (first | apply Kd.V_alloc | apply Kd.V_drewN | apply Kd.V_drew)); exact HO_181003.out) hb); have n3_ := Aside0.mk (Kd.R_below (by (with_reducible repeat (first | apply Kd.R_alloc | apply Kd.R_drewN | apply Kd.R_drew)); exact HO207.out) hb); have n4_ := Aside0.mk (Kd.R_below (by (with_reducible repeat (first | apply Kd.R_alloc | apply Kd.R_drewN | apply Kd.R_drew)); exact HO210.out) hb); have n5_ := Aside0.mk (blk_below (g := gb180) (o := .cells #[.bool a3_0, .slice A3_1 l3_1.length c3_1, .bool a3_2, .slice A3_3 l3_3.length c3_3] 32 (0, 0)) (by (with_reducible repeat (first | refine blk_drewN ?_ _ | refine blk_drew ?_ | refine blk_alloc ?_ _)); exact BK180.out) hb); have n6_ := Aside0.mk (below_step (by repeat (first | (with_reducible first | exact HB.out | apply below_alloc | apply pw_below_drewN | apply below_drew1 | refine below_set ?_ GE180.out) | exact HB.out)) hb); clear HO_2; clear HO_181001; clear HO_181003; clear HO207; clear HO210; clear BK180; clear HB; have HO_2 := n0_; have HO_181001 := n1_; have HO_181003 := n2_; have HO207 := n3_; have HO210 := n4_; have BK180 := n5_; have HB := n6_; clear n0_ n1_ n2_ n3_ n4_ n5_ n6_; (try clear hb); (try clear hb2); (try clear hk); (try clear hi)) | ((with_reducible refine gate_dst (N := 72) rfl ?_); (try (refine gate_guard (by rfl) ?_; dsimp only)); refine Kd.R_lit Kd.string _ 9 ?hg (N := 72) ?hd (xs := ([a1] : List ByteArray)) (inner := [.string a1]) (ok := fun _ => True) (okp := fun _ => True) ?hr ?hp (fun _ hk => hk) trivial (Below.refl _ _) (Nat.le_refl _) (by simp) ?_; (case hd => rfl); (case hg => rfl); (case hr => first | (go_simp; done) | (go_simp; rfl)); (case hp => exact (Reps.one (show Kd.M Kd.string _ _ _ a1 [.string a1] from rfl) (Reps.none _ _))); intro v213 w58 ho59 hb hg_ hnew_; clear hg_ hnew_; (first | rw [← Ny212.out] at ho59 | (simp only [Int.reduceToNat] at ho59; rw [← Ny212.out] at ho59)); have n0_ := Aside0.mk (Kd.V_elder' (by (with_reducible repeat (first | apply Kd.V_alloc | apply Kd.V_drewN | apply Kd.V_drew)); exact HO_2.out) (Kd.R_base ho59) hb); have n1_ := Aside0.mk (Kd.V_elder' (by (with_reducible repeat (first | apply Kd.V_alloc | apply Kd.V_drewN | apply Kd.V_drew)); exact HO_181001.out) (Kd.R_base ho59) hb); have n2_ := Aside0.mk (Kd.V_elder' (by (with_reducible repeat (first | apply Kd.V_alloc | apply Kd.V_drewN | apply Kd.V_drew)); exact HO_181003.out) (Kd.R_base ho59) hb); have n3_ := Aside0.mk (Kd.R_elder' (by (with_reducible repeat (first | apply Kd.R_alloc | apply Kd.R_drewN | apply Kd.R_drew)); exact HO207.out) (Kd.R_base ho59) hb); have n4_ := Aside0.mk (Kd.R_elder' (by (with_reducible repeat (first | apply Kd.R_alloc | apply Kd.R_drewN | apply Kd.R_drew)); exact HO210.out) (Kd.R_base ho59) hb); have n5_ := Aside0.mk (Kd.R_lower (Kd.R_new' (Kd.R_new' (Kd.R_newM (M := fun k_ => (w.heap.size ≤ k_)) ho59 (below_size (by repeat (first | (with_reducible first | exact HB.out | apply below_alloc | apply pw_below_drewN | apply below_drew1 | refine below_set ?_ GE180.out) | exact HB.out))) (fun k_ h_ => h_)) (Kd.R_lt (by (with_reducible repeat (first | apply Kd.R_alloc | apply Kd.R_drewN | apply Kd.R_drew)); exact HO207.out))) (Kd.R_lt (by (with_reducible repeat (first | apply Kd.R_alloc | apply Kd.R_drewN | apply Kd.R_drew)); exact HO210.out))) (below_size (by repeat (first | (with_reducible first | exact HB.out | apply below_alloc | apply pw_below_drewN | apply below_drew1 | refine below_set ?_ GE180.out) | exact HB.out)))); have n6_ := Aside0.mk (blk_below (g := gb180) (o := .cells #[.bool a3_0, .slice A3_1 l3_1.length c3_1, .bool a3_2, .slice A3_3 l3_3.length c3_3] 32 (0, 0)) (by (with_reducible repeat (first | refine blk_drewN ?_ _ | refine blk_drew ?_ | refine blk_alloc ?_ _)); exact BK180.out) hb); have n7_ := Aside0.mk (below_step (by repeat (first | (with_reducible first | exact HB.out | apply below_alloc | apply pw_below_drewN | apply below_drew1 | refine below_set ?_ GE180.out) | exact HB.out)) hb); clear HO_2; clear HO_181001; clear HO_181003; clear HO207; clear HO210; clear BK180; clear HB; have HO_2 := n0_; have HO_181001 := n1_; have HO_181003 := n2_; have HO207 := n3_; have HO210 := n4_; have HO214 := n5_; have BK180 := n6_; have HB := n7_; clear n0_ n1_ n2_ n3_ n4_ n5_ n6_ n7_; clear hb ho59) | ((with_reducible refine gate_builtin (b := .append) (xs := #[.tmp 72, .tmp 73]) rfl ?_); (try (refine gate_guard (by rfl) ?_; dsimp only)); at_builtin; refine Kd.R_append_rows Kd.string (w0 := w) w.heap.size rfl (.tmp 72) (.tmp 73) 23 9 (.string ⟨#[]⟩) 16 rfl Try.underlying23 info9 rfl (by decide) (by omega) v213 y212 l0 _ _ _ (fun k_ => (w.heap.size ≤ k_) ∧ some k_ ≠ (.slice Ao55 y205.length co55 : Value).ownBlock ∧ some k_ ≠ (.slice Ao56 y208.length co56 : Value).ownBlock) (fun _ => False) rfl rfl ?aO ?aR (fun _ _ h => h) (fun _ h => h.elim) ?aF ?aB ?aS ?aL ?_; (case aR => repeat (first | exact (Kd.C_below HR0.out HB.out) | (with_reducible refine Kd.C_alloc ?_ _) | (with_reducible refine Kd.C_drewN ?_ _) | (with_reducible refine Kd.C_drew ?_))); (case aB => exact (by repeat (first | (with_reducible first | exact HB.out | apply below_alloc | apply pw_below_drewN | apply below_drew1 | refine below_set ?_ GE180.out) | exact HB.out))); (case aF => exact (fun k_ hk => ⟨(Nat.le_trans (below_size (by repeat (first | (with_reducible first | exact HB.out | apply below_alloc | apply pw_below_drewN | apply below_drew1 | refine below_set ?_ GE180.out) | exact HB.out))) hk), Kd.fresh' (Kd.R_lt (by (with_reducible repeat (first | apply Kd.R_alloc | apply Kd.R_drewN | apply Kd.R_drew)); exact HO207.out)) k_ hk, Kd.fresh' (Kd.R_lt (by (with_reducible repeat (first | apply Kd.R_alloc | apply Kd.R_drewN | apply Kd.R_drew)); exact HO210.out)) k_ hk⟩)); (case aO => exact (by (with_reducible repeat (first | apply Kd.R_alloc | apply Kd.R_drewN | apply Kd.R_drew)); exact Kd.R_mono HO214.out (fun _ hk => ⟨hk.1.1.1, ⟨hk.1.2, hk.2⟩⟩))); (case aS => exact (below_size (by repeat (first | (with_reducible first | exact HB.out | apply below_alloc | apply pw_below_drewN | apply below_drew1 | refine below_set ?_ GE180.out) | exact HB.out)))); (case aL => have := LMc34.out; omega); intro v216 w60 ho hb hg hat; rw [← Ny215.out] at ho; have n0_ := Aside0.mk (Kd.V_afterv (ok := (fun k_ => ((P2_ k_ ∨ P3_1_ k_ ∨ P3_3_ k_) ∨ w.heap.size ≤ k_) ∧ some k_ ≠ (.slice Ao55 y205.length co55 : Value).ownBlock ∧ some k_ ≠ (.slice Ao56 y208.length co56 : Value).ownBlock ∧ k_ ≠ gb180)) (by (with_reducible repeat (first | apply Kd.V_alloc | apply Kd.V_drewN | apply Kd.V_drew)); exact Kd.V_mono HO_2.out (fun _ hk => ⟨⟨hk.1.1.1, ⟨hk.1.1.2.1, ⟨hk.1.2, hk.1.1.2.2⟩⟩⟩, hk.2⟩)) hg hat); have n1_ := Aside0.mk (Kd.V_afterv (ok := (fun k_ => ((P2_ k_ ∨ P3_1_ k_ ∨ P3_3_ k_) ∨ w.heap.size ≤ k_) ∧ some k_ ≠ (.slice Ao55 y205.length co55 : Value).ownBlock ∧ some k_ ≠ (.slice Ao56 y208.length co56 : Value).ownBlock ∧ k_ ≠ gb180)) (by (with_reducible repeat (first | apply Kd.V_alloc | apply Kd.V_drewN | apply Kd.V_drew)); exact Kd.V_mono HO_181001.out (fun _ hk => ⟨⟨hk.1.1.1, ⟨hk.1.1.2.1, ⟨hk.1.2, hk.1.1.2.2⟩⟩⟩, hk.2⟩)) hg hat); have n2_ := Aside0.mk (Kd.V_afterv (ok := (fun k_ => ((P2_ k_ ∨ P3_1_ k_ ∨ P3_3_ k_) ∨ w.heap.size ≤ k_) ∧ some k_ ≠ (.slice Ao55 y205.length co55 : Value).ownBlock ∧ some k_ ≠ (.slice Ao56 y208.length co56 : Value).ownBlock ∧ k_ ≠ gb180)) (by (with_reducible repeat (first | apply Kd.V_alloc | apply Kd.V_drewN | apply Kd.V_drew)); exact Kd.V_mono HO_181003.out (fun _ hk => ⟨⟨hk.1.1.1, ⟨hk.1.1.2.1, ⟨hk.1.2, hk.1.1.2.2⟩⟩⟩, hk.2⟩)) hg hat); have n3_ := Aside0.mk (blk_grown (g := gb180) (o := .cells #[.bool a3_0, .slice A3_1 l3_1.length c3_1, .bool a3_2, .slice A3_3 l3_3.length c3_3] 32 (0, 0)) (by (with_reducible repeat (first | refine blk_drewN ?_ _ | refine blk_drew ?_ | refine blk_alloc ?_ _)); exact BK180.out) hg (Kd.R_ne HO214.out BK180.out (by decide))); have n4_ := Aside0.mk (Kd.R_after (ok := (fun k_ => (w.heap.size ≤ k_) ∧ some k_ ≠ (.slice Ao56 y208.length co56 : Value).ownBlock)) (by (with_reducible repeat (first | apply Kd.R_alloc | apply Kd.R_drewN | apply Kd.R_drew)); exact HO207.out) hg hat); have n5_ := Aside0.mk (Kd.R_after (ok := (fun k_ => (w.heap.size ≤ k_) ∧ some k_ ≠ (.slice Ao55 y205.length co55 : Value).ownBlock)) (by (with_reducible repeat (first | apply Kd.R_alloc | apply Kd.R_drewN | apply Kd.R_drew)); exact HO210.out) hg hat); have n6_ := Aside0.mk (hb); have n7_ := Aside0.mk (ho); clear HO_2; clear HO_181001; clear HO_181003; clear BK180; clear HO207; clear HO210; clear HB; clear HO214; have HO_2 := n0_; have HO_181001 := n1_; have HO_181003 := n2_; have BK180 := n3_; have HO207 := n4_; have HO210 := n5_; have HB := n6_; have HO217 := n7_; clear n0_ n1_ n2_ n3_ n4_ n5_ n6_ n7_; clear ho hb hg hat; obtain ⟨Ao61, co61, eo61⟩ := Kd.R_slice HO217.out; subst eo61) | ((with_reducible refine gate_callee (f := 14) rfl ?_); refine goesL_ (some 75) rfl rfl Try.func14 (by kernel_rfl) rfl #[.slice Ao61 y215.length co61] rfl (by (try simp only [List.map_toArray, List.map_cons, List.map_nil]); first | done | rfl | (simp only [List.length_drop, List.length_take]; rfl)) ?_; (with_reducible refine (sandbox_Flags.calls _ _ y215 t218 _ ?side1 ?side2 A35.out).mono ?_); (case side1 => repeat (first | exact (Kd.R_reads' HO217.out).2.2 | (with_reducible refine Kd.C_alloc ?_ _) | (with_reducible refine Kd.C_drewN ?_ _) | (with_reducible refine Kd.C_drew ?_))); (case side2 => exact (Kd.R_reads' HO217.out).2.1); rintro e w62 ⟨rfl, hb⟩; refine ⟨_, rfl, ?_⟩; have n0_ := Aside0.mk (Kd.V_below (by (with_reducible repeat (first | apply Kd.V_alloc | apply Kd.V_drewN | apply Kd.V_drew)); exact HO_2.out) hb); have n1_ := Aside0.mk (Kd.V_below (by (with_reducible repeat (first | apply Kd.V_alloc | apply Kd.V_drewN | apply Kd.V_drew)); exact HO_181001.out) hb); have n2_ := Aside0.mk (Kd.V_below (by (with_reducible repeat (first | apply Kd.V_alloc | apply Kd.V_drewN | apply Kd.V_drew)); exact HO_181003.out) hb); have n3_ := Aside0.mk (Kd.R_below (by (with_reducible repeat (first | apply Kd.R_alloc | apply Kd.R_drewN | apply Kd.R_drew)); exact HO207.out) hb); have n4_ := Aside0.mk (Kd.R_below (by (with_reducible repeat (first | apply Kd.R_alloc | apply Kd.R_drewN | apply Kd.R_drew)); exact HO210.out) hb); have n5_ := Aside0.mk (Kd.R_below (by (with_reducible repeat (first | apply Kd.R_alloc | apply Kd.R_drewN | apply Kd.R_drew)); exact HO217.out) hb); have n6_ := Aside0.mk (blk_below (g := gb180) (o := .cells #[.bool a3_0, .slice A3_1 l3_1.length c3_1, .bool a3_2, .slice A3_3 l3_3.length c3_3] 32 (0, 0)) (by (with_reducible repeat (first | refine blk_drewN ?_ _ | refine blk_drew ?_ | refine blk_alloc ?_ _)); exact BK180.out) hb); have n7_ := Aside0.mk (below_step (by repeat (first | (with_reducible first | exact HB.out | apply below_alloc | apply pw_below_drewN | apply below_drew1 | refine below_set ?_ GE180.out) | exact HB.out)) hb); clear HO_2; clear HO_181001; clear HO_181003; clear HO207; clear HO210; clear HO217; clear BK180; clear HB; have HO_2 := n0_; have HO_181001 := n1_; have HO_181003 := n2_; have HO207 := n3_; have HO210 := n4_; have HO217 := n5_; have BK180 := n6_; have HB := n7_; clear n0_ n1_ n2_ n3_ n4_ n5_ n6_ n7_; (try clear hb); (try clear hb2); (try clear hk); (try clear hi)) | ((with_reducible refine gate_callee (f := 18) rfl ?_); refine goesL_ (some 77) rfl rfl Try.func18 (by kernel_rfl) rfl #[.slice A2 l2.length c2] rfl (by (try simp only [List.map_toArray, List.map_cons, List.map_nil]); first | done | rfl | (simp only [List.length_drop, List.length_take]; rfl)) ?_; (with_reducible refine (sandbox_All.calls k2 _ _ l2 t219 _ ?side1 ?side2 A36.out).mono ?_); (case side1 => repeat (first | exact (Kd.V_reads' HO_2.out).2.2 | (with_reducible refine Kd.C_alloc ?_ _) | (with_reducible refine Kd.C_drewN ?_ _) | (with_reducible refine Kd.C_drew ?_))); (case side2 => exact (Kd.V_reads' HO_2.out).2.1); rintro e w63 ⟨rfl, hb⟩; refine ⟨_, rfl, ?_⟩; have n0_ := Aside0.mk (Kd.V_below (by (with_reducible repeat (first | apply Kd.V_alloc | apply Kd.V_drewN | apply Kd.V_drew)); exact HO_2.out) hb); have n1_ := Aside0.mk (Kd.V_below (by (with_reducible repeat (first | apply Kd.V_alloc | apply Kd.V_drewN | apply Kd.V_drew)); exact HO_181001.out) hb); have n2_ := Aside0.mk (Kd.V_below (by (with_reducible repeat (first | apply Kd.V_alloc | apply Kd.V_drewN | apply Kd.V_drew)); exact HO_181003.out) hb); have n3_ := Aside0.mk (Kd.R_below (by (with_reducible repeat (first | apply Kd.R_alloc | apply Kd.R_drewN | apply Kd.R_drew)); exact HO207.out) hb); have n4_ := Aside0.mk (Kd.R_below (by (with_reducible repeat (first | apply Kd.R_alloc | apply Kd.R_drewN | apply Kd.R_drew)); exact HO210.out) hb); have n5_ := Aside0.mk (Kd.R_below (by (with_reducible repeat (first | apply Kd.R_alloc | apply Kd.R_drewN | apply Kd.R_drew)); exact HO217.out) hb); have n6_ := Aside0.mk (blk_below (g := gb180) (o := .cells #[.bool a3_0, .slice A3_1 l3_1.length c3_1, .bool a3_2, .slice A3_3 l3_3.length c3_3] 32 (0, 0)) (by (with_reducible repeat (first | refine blk_drewN ?_ _ | refine blk_drew ?_ | refine blk_alloc ?_ _)); exact BK180.out) hb); have n7_ := Aside0.mk (below_step (by repeat (first | (with_reducible first | exact HB.out | apply below_alloc | apply pw_below_drewN | apply below_drew1 | refine below_set ?_ GE180.out) | exact HB.out)) hb); clear HO_2; clear HO_181001; clear HO_181003; clear HO207; clear HO210; clear HO217; clear BK180; clear HB; have HO_2 := n0_; have HO_181001 := n1_; have HO_181003 := n2_; have HO207 := n3_; have HO210 := n4_; have HO217 := n5_; have BK180 := n6_; have HB := n7_; clear n0_ n1_ n2_ n3_ n4_ n5_ n6_ n7_; (try clear hb); (try clear hb2); (try clear hk); (try clear hi)))
                                        have n0_ := Aside0.mk (Kd.V_drew HO_2.out)
                                        have n1_ := Aside0.mk (Kd.V_drew HO_181001.out)
                                        have n2_ := Aside0.mk (Kd.V_drew HO_181003.out)
                                        have n3_ := Aside0.mk (Kd.R_drew HO207.out)
                                        have n4_ := Aside0.mk (Kd.R_drew HO210.out)
                                        have n5_ := Aside0.mk (Kd.R_drew HO217.out)
                                        have n6_ := Aside0.mk (blk_drew BK180.out)
                                        have n7_ := Aside0.mk (below_drew1 HB.out)
                                        clear HO_2
                                        clear HO_181001
                                        clear HO_181003
                                        clear HO207
                                        clear HO210
                                        clear HO217
                                        clear BK180
                                        clear HB
                                        have HO_2 := n0_
                                        have HO_181001 := n1_
                                        have HO_181003 := n2_
                                        have HO207 := n3_
                                        have HO210 := n4_
                                        have HO217 := n5_
                                        have BK180 := n6_
                                        have HB := n7_
                                        clear n0_ n1_ n2_ n3_ n4_ n5_ n6_ n7_
                                        refine start_ (n := 8) (S := fun w' => w'.cell? ⟨gb180, 0, none⟩ = some (.bool a3_0) ∧ w'.cell? ⟨gb180, 1, none⟩ = some (.slice A3_1 l3_1.length c3_1) ∧ w'.cell? ⟨gb180, 2, none⟩ = some (.bool a3_2) ∧ w'.cell? ⟨gb180, 3, none⟩ = some (.slice A3_3 l3_3.length c3_3)) (ds := []) #[false, false, false, false, false, false, false, false] (by kernel_rfl) rfl rfl ⟨(blk_cell BK180.out 0).trans rfl, (blk_cell BK180.out 1).trans rfl, (blk_cell BK180.out 2).trans rfl, (blk_cell BK180.out 3).trans rfl⟩ (fun hHeld => ?_); refine with_tabW glacislaw12_SandboxMore.tab16 glacislaw12_SandboxMore.bits16 (fun HT_ HW_ => ?_)
                                        generalize w63.drew = w64 at HO_2 HO_181001 HO_181003 HO207 HO210 HO217 BK180 HB hHeld ⊢
                                        refine pure_ (i := 1) (N := some 79) (v := ?_) (a' := ?_) #[false, true, false, false, false, false, false, false] rfl rfl (any_of HT_.out (by kernel_rfl)) (fun _ _ _ h => h) (Or.inl ⟨by rfl, ?_⟩) ?_ ?_
                                        rotate_left
                                        · intro w'
                                          go_simp
                                          with_reducible rfl
                                        rotate_left
                                        · simp only [Act.put, List.setIfInBounds_toArray, List.set_cons_zero, List.set_cons_succ, i64_w, i32_w]
                                          rfl
                                        refine take_ (i := 3) (N := some 81) (v := ?_) (a' := ?_) #[false, true, false, true, false, false, false, false] rfl rfl (take_ofW HT_.out HW_.out (by kernel_rfl)) (fun _ _ _ h => h) (Or.inl ⟨by rfl, ?_⟩) hHeld ?_ ?_
                                        rotate_left
                                        · rintro w' ⟨s0, s1, s2, s3⟩
                                          go_simp
                                          with_reducible rfl
                                        rotate_left
                                        · simp only [Act.put, List.setIfInBounds_toArray, List.set_cons_zero, List.set_cons_succ, i64_w, i32_w]
                                          rfl
                                        refine join_ (σ := Value × Value × Value) 3 #[true, true, true, true, true, false, false, false] (fun s_ => [(78, s_.1), (80, s_.2.1), (82, s_.2.2)]) (fun s_ w' => (w'.cell? ⟨gb180, 0, none⟩ = some (.bool a3_0) ∧ w'.cell? ⟨gb180, 1, none⟩ = some (.slice A3_1 l3_1.length c3_1) ∧ w'.cell? ⟨gb180, 2, none⟩ = some (.bool a3_2) ∧ w'.cell? ⟨gb180, 3, none⟩ = some (.slice A3_3 l3_3.length c3_3)) ∧ (Kd.R Kd.string 9 w' w.heap.size (fun k_ => (w.heap.size ≤ k_) ∧ some k_ ≠ (.slice Ao56 y208.length co56 : Value).ownBlock ∧ some k_ ≠ (.slice Ao61 y215.length co61 : Value).ownBlock) (.slice Ao55 y205.length co55) y205) ∧ (Kd.R Kd.string 9 w' w.heap.size (fun k_ => (w.heap.size ≤ k_) ∧ some k_ ≠ (.slice Ao55 y205.length co55 : Value).ownBlock ∧ some k_ ≠ (.slice Ao61 y215.length co61 : Value).ownBlock) (.slice Ao56 y208.length co56) y208) ∧ (Kd.R Kd.string 9 w' w.heap.size (fun k_ => (w.heap.size ≤ k_) ∧ some k_ ≠ (.slice Ao55 y205.length co55 : Value).ownBlock ∧ some k_ ≠ (.slice Ao56 y208.length co56 : Value).ownBlock) (.slice Ao61 y215.length co61) y215) ∧ (Kd.N k32 32 w' w.heap.size (fun k_ => ((P2_ k_ ∨ P3_1_ k_ ∨ P3_3_ k_) ∨ w.heap.size ≤ k_) ∧ some k_ ≠ (.slice Ao55 y205.length co55 : Value).ownBlock ∧ some k_ ≠ (.slice Ao56 y208.length co56 : Value).ownBlock ∧ some k_ ≠ (.slice Ao61 y215.length co61 : Value).ownBlock ∧ some k_ ≠ (s_.2.2 : Value).ownBlock ∧ k_ ≠ gb180) s_.2.1 y223) ∧ (Kd.N k32 32 w' w.heap.size (fun k_ => ((P2_ k_ ∨ P3_1_ k_ ∨ P3_3_ k_) ∨ w.heap.size ≤ k_) ∧ some k_ ≠ (.slice Ao55 y205.length co55 : Value).ownBlock ∧ some k_ ≠ (.slice Ao56 y208.length co56 : Value).ownBlock ∧ some k_ ≠ (.slice Ao61 y215.length co61 : Value).ownBlock ∧ some k_ ≠ (s_.2.1 : Value).ownBlock ∧ k_ ≠ gb180) s_.2.2 y226) ∧ (Kd.V Kd.string 9 w' w.heap.size (fun k_ => ((P2_ k_ ∨ P3_1_ k_ ∨ P3_3_ k_) ∨ w.heap.size ≤ k_) ∧ some k_ ≠ (.slice Ao55 y205.length co55 : Value).ownBlock ∧ some k_ ≠ (.slice Ao56 y208.length co56 : Value).ownBlock ∧ some k_ ≠ (.slice Ao61 y215.length co61 : Value).ownBlock ∧ some k_ ≠ (s_.2.1 : Value).ownBlock ∧ some k_ ≠ (s_.2.2 : Value).ownBlock ∧ k_ ≠ gb180) (.slice A3_1 l3_1.length c3_1) l3_1) ∧ (Kd.V Kd.string 9 w' w.heap.size (fun k_ => ((P2_ k_ ∨ P3_1_ k_ ∨ P3_3_ k_) ∨ w.heap.size ≤ k_) ∧ some k_ ≠ (.slice Ao55 y205.length co55 : Value).ownBlock ∧ some k_ ≠ (.slice Ao56 y208.length co56 : Value).ownBlock ∧ some k_ ≠ (.slice Ao61 y215.length co61 : Value).ownBlock ∧ some k_ ≠ (s_.2.1 : Value).ownBlock ∧ some k_ ≠ (s_.2.2 : Value).ownBlock ∧ k_ ≠ gb180) (.slice A3_3 l3_3.length c3_3) l3_3) ∧ (Kd.V k32 32 w' w.heap.size (fun k_ => ((P2_ k_ ∨ P3_1_ k_ ∨ P3_3_ k_) ∨ w.heap.size ≤ k_) ∧ some k_ ≠ (.slice Ao55 y205.length co55 : Value).ownBlock ∧ some k_ ≠ (.slice Ao56 y208.length co56 : Value).ownBlock ∧ some k_ ≠ (.slice Ao61 y215.length co61 : Value).ownBlock ∧ some k_ ≠ (s_.2.1 : Value).ownBlock ∧ some k_ ≠ (s_.2.2 : Value).ownBlock ∧ k_ ≠ gb180) (.slice A2 l2.length c2) l2) ∧ (w'.heap[gb180]? = some (.cells #[.bool a3_0, .slice A3_1 l3_1.length c3_1, .bool a3_2, .slice A3_3 l3_3.length c3_3] 32 (0, 0))) ∧ (Below w.heap.size w w')) ?_ ?_
                                        rotate_left
                                        · intro hCont
                                          refine two_ (i := 0) (j := 4) (Ni := some 78) (Nj := some 82) #[true, true, false, true, false, false, false, false] #[false, true, false, true, true, false, false, false] rfl rfl rfl rfl (two_of HT_.out (by kernel_rfl)) (by decide) (by decide) (fun K hK => ?_) (fun K hK => ?_)
                                          · skip
                                            refine Kd.N_lit_step k32 _ 32 ?hg (N' := 78) ?hd (xs := ([] : List (S32))) (inner := []) (ok := (fun k_ => ((P2_ k_ ∨ P3_1_ k_ ∨ P3_3_ k_) ∨ w.heap.size ≤ k_) ∧ some k_ ≠ (.slice Ao55 y205.length co55 : Value).ownBlock ∧ some k_ ≠ (.slice Ao56 y208.length co56 : Value).ownBlock ∧ some k_ ≠ (.slice Ao61 y215.length co61 : Value).ownBlock ∧ k_ ≠ gb180)) (okp := (fun k_ => ((P2_ k_ ∨ P3_1_ k_ ∨ P3_3_ k_) ∨ w.heap.size ≤ k_) ∧ some k_ ≠ (.slice Ao55 y205.length co55 : Value).ownBlock ∧ some k_ ≠ (.slice Ao56 y208.length co56 : Value).ownBlock ∧ some k_ ≠ (.slice Ao61 y215.length co61 : Value).ownBlock ∧ k_ ≠ gb180)) ?hr ?hp (fun _ hk => hk) ((show ∀ k_, w64.heap.size ≤ k_ → (fun k_ => ((P2_ k_ ∨ P3_1_ k_ ∨ P3_3_ k_) ∨ w.heap.size ≤ k_) ∧ some k_ ≠ (.slice Ao55 y205.length co55 : Value).ownBlock ∧ some k_ ≠ (.slice Ao56 y208.length co56 : Value).ownBlock ∧ some k_ ≠ (.slice Ao61 y215.length co61 : Value).ownBlock ∧ k_ ≠ gb180) k_ from fun k_ hk => ⟨(.inr (Nat.le_trans (below_size (by repeat (first | (with_reducible first | exact HB.out | apply below_alloc | apply pw_below_drewN | apply below_drew1 | refine below_set ?_ GE180.out) | exact HB.out))) hk)), Kd.fresh' (Kd.R_lt (by (with_reducible repeat (first | apply Kd.R_alloc | apply Kd.R_drewN | apply Kd.R_drew)); exact HO207.out)) k_ hk, Kd.fresh' (Kd.R_lt (by (with_reducible repeat (first | apply Kd.R_alloc | apply Kd.R_drewN | apply Kd.R_drew)); exact HO210.out)) k_ hk, Kd.fresh' (Kd.R_lt (by (with_reducible repeat (first | apply Kd.R_alloc | apply Kd.R_drewN | apply Kd.R_drew)); exact HO217.out)) k_ hk, Kd.freshB (g := gb180) (o := .cells #[.bool a3_0, .slice A3_1 l3_1.length c3_1, .bool a3_2, .slice A3_3 l3_3.length c3_3] 32 (0, 0)) (by (with_reducible repeat (first | refine blk_drewN ?_ _ | refine blk_drew ?_ | refine blk_alloc ?_ _)); exact BK180.out) k_ hk⟩) _ (Nat.le_refl _)) (Below.refl _ _) (Nat.le_refl _) (by simp) ?_; (case hd => rfl); (case hg => rfl); (case hr => first | (go_simp; done) | (go_simp; rfl)); (case hp => exact (Reps.none _ _))
                                            intro v221 w65 ho66 hb hg_ hnew_
                                            clear hg_ hnew_
                                            (first | rw [← Ny220.out] at ho66 | (simp only [Int.reduceToNat] at ho66; rw [← Ny220.out] at ho66))
                                            have n0_ := Aside0.mk (Kd.V_elder' (by (with_reducible repeat (first | apply Kd.V_alloc | apply Kd.V_drewN | apply Kd.V_drew)); exact HO_2.out) (Kd.N_base ho66) hb)
                                            have n1_ := Aside0.mk (Kd.V_elder' (by (with_reducible repeat (first | apply Kd.V_alloc | apply Kd.V_drewN | apply Kd.V_drew)); exact HO_181001.out) (Kd.N_base ho66) hb)
                                            have n2_ := Aside0.mk (Kd.V_elder' (by (with_reducible repeat (first | apply Kd.V_alloc | apply Kd.V_drewN | apply Kd.V_drew)); exact HO_181003.out) (Kd.N_base ho66) hb)
                                            have n3_ := Aside0.mk (Kd.R_below (by (with_reducible repeat (first | apply Kd.R_alloc | apply Kd.R_drewN | apply Kd.R_drew)); exact HO207.out) hb)
                                            have n4_ := Aside0.mk (Kd.R_below (by (with_reducible repeat (first | apply Kd.R_alloc | apply Kd.R_drewN | apply Kd.R_drew)); exact HO210.out) hb)
                                            have n5_ := Aside0.mk (Kd.R_below (by (with_reducible repeat (first | apply Kd.R_alloc | apply Kd.R_drewN | apply Kd.R_drew)); exact HO217.out) hb)
                                            have n6_ := Aside0.mk (Kd.N_lower ho66 (below_size (by repeat (first | (with_reducible first | exact HB.out | apply below_alloc | apply pw_below_drewN | apply below_drew1 | refine below_set ?_ GE180.out) | exact HB.out))))
                                            have n7_ := Aside0.mk (blk_below (g := gb180) (o := .cells #[.bool a3_0, .slice A3_1 l3_1.length c3_1, .bool a3_2, .slice A3_3 l3_3.length c3_3] 32 (0, 0)) (by (with_reducible repeat (first | refine blk_drewN ?_ _ | refine blk_drew ?_ | refine blk_alloc ?_ _)); exact BK180.out) hb)
                                            have n8_ := Aside0.mk (below_step (by repeat (first | (with_reducible first | exact HB.out | apply below_alloc | apply pw_below_drewN | apply below_drew1 | refine below_set ?_ GE180.out) | exact HB.out)) hb)
                                            clear HO_2
                                            clear HO_181001
                                            clear HO_181003
                                            clear HO207
                                            clear HO210
                                            clear HO217
                                            clear BK180
                                            clear HB
                                            have HO_2 := n0_
                                            have HO_181001 := n1_
                                            have HO_181003 := n2_
                                            have HO207 := n3_
                                            have HO210 := n4_
                                            have HO217 := n5_
                                            have HO222 := n6_
                                            have BK180 := n7_
                                            have HB := n8_
                                            clear n0_ n1_ n2_ n3_ n4_ n5_ n6_ n7_ n8_
                                            clear hb ho66
                                            refine hK.out _ _ ⟨(blk_cell BK180.out 0).trans rfl, (blk_cell BK180.out 1).trans rfl, (blk_cell BK180.out 2).trans rfl, (blk_cell BK180.out 3).trans rfl⟩ (fun hHeld => ?_)
                                            clear hK K
                                            refine norm_ (a' := ?_) ?_ ?_
                                            rotate_left
                                            · show Act.put _ (some 78) _ = _
                                              simp only [Act.put, List.setIfInBounds_toArray, List.set_cons_zero, List.set_cons_succ, i64_w, i32_w]
                                              rfl
                                            refine two_ (i := 2) (j := 4) (Ni := some 80) (Nj := some 82) #[true, true, true, true, false, false, false, false] #[true, true, false, true, true, false, false, false] rfl rfl rfl rfl (two_of HT_.out (by kernel_rfl)) (by decide) (by decide) (fun K hK => ?_) (fun K hK => ?_)
                                            · skip
                                              refine Kd.N_append_rows_step k32 (w0 := w) w.heap.size (by rfl) (.tmp 78) (.tmp 79) 30 32 (.agg #[(.bool false), (.slice none 0 0), (.bool false), (.slice none 0 0)]) 64 rfl Try.underlying30 info32 rfl (by decide) (by omega) v221 y220 l2 _ _ _ (fun k_ => ((P2_ k_ ∨ P3_1_ k_ ∨ P3_3_ k_) ∨ w.heap.size ≤ k_) ∧ some k_ ≠ (.slice Ao55 y205.length co55 : Value).ownBlock ∧ some k_ ≠ (.slice Ao56 y208.length co56 : Value).ownBlock ∧ some k_ ≠ (.slice Ao61 y215.length co61 : Value).ownBlock ∧ k_ ≠ gb180) (fun k_ => ((fun k_ => ((P2_ k_ ∨ P3_1_ k_ ∨ P3_3_ k_) ∨ w.heap.size ≤ k_) ∧ some k_ ≠ (.slice Ao55 y205.length co55 : Value).ownBlock ∧ some k_ ≠ (.slice Ao56 y208.length co56 : Value).ownBlock ∧ some k_ ≠ (.slice Ao61 y215.length co61 : Value).ownBlock ∧ k_ ≠ gb180)) k_ ∧ some k_ ≠ (v221 : Value).ownBlock) rfl rfl ?aO ?aR (fun _ hk => hk) ?aF ?aB ?aS ?aL ?_
                                              (case aR => exact (by skip; exact Kd.V_F (Kd.V_mono (ok' := (fun k_ => ((fun k_ => ((P2_ k_ ∨ P3_1_ k_ ∨ P3_3_ k_) ∨ w.heap.size ≤ k_) ∧ some k_ ≠ (.slice Ao55 y205.length co55 : Value).ownBlock ∧ some k_ ≠ (.slice Ao56 y208.length co56 : Value).ownBlock ∧ some k_ ≠ (.slice Ao61 y215.length co61 : Value).ownBlock ∧ k_ ≠ gb180)) k_ ∧ some k_ ≠ (v221 : Value).ownBlock)) (HO_2.out) (fun k_ hk => ⟨⟨hk.1.1.1, ⟨hk.1.1.2.1, ⟨hk.1.1.2.2.1, ⟨hk.1.2, hk.1.1.2.2.2⟩⟩⟩⟩, hk.2⟩))))
                                              (case aB => exact (by repeat (first | (with_reducible first | exact HB.out | apply below_alloc | apply pw_below_drewN | apply below_drew1 | refine below_set ?_ GE180.out) | exact HB.out)))
                                              (case aF => exact (fun k_ hk => ⟨(.inr (Nat.le_trans (below_size (by repeat (first | (with_reducible first | exact HB.out | apply below_alloc | apply pw_below_drewN | apply below_drew1 | refine below_set ?_ GE180.out) | exact HB.out))) hk)), Kd.fresh' (Kd.R_lt (by (with_reducible repeat (first | apply Kd.R_alloc | apply Kd.R_drewN | apply Kd.R_drew)); exact HO207.out)) k_ hk, Kd.fresh' (Kd.R_lt (by (with_reducible repeat (first | apply Kd.R_alloc | apply Kd.R_drewN | apply Kd.R_drew)); exact HO210.out)) k_ hk, Kd.fresh' (Kd.R_lt (by (with_reducible repeat (first | apply Kd.R_alloc | apply Kd.R_drewN | apply Kd.R_drew)); exact HO217.out)) k_ hk, Kd.freshB (g := gb180) (o := .cells #[.bool a3_0, .slice A3_1 l3_1.length c3_1, .bool a3_2, .slice A3_3 l3_3.length c3_3] 32 (0, 0)) (by (with_reducible repeat (first | refine blk_drewN ?_ _ | refine blk_drew ?_ | refine blk_alloc ?_ _)); exact BK180.out) k_ hk⟩))
                                              (case aO => exact (by (with_reducible repeat (first | apply Kd.N_alloc | apply Kd.N_drewN | apply Kd.N_drew)); exact HO222.out))
                                              (case aS => exact (below_size (by repeat (first | (with_reducible first | exact HB.out | apply below_alloc | apply pw_below_drewN | apply below_drew1 | refine below_set ?_ GE180.out) | exact HB.out))))
                                              (case aL => have := LMc37.out; omega)
                                              intro v224 w67 ho hb hg hat
                                              rw [← Ny223.out] at ho
                                              have n0_ := Aside0.mk (Kd.V_afterv (ok := (fun k_ => ((P2_ k_ ∨ P3_1_ k_ ∨ P3_3_ k_) ∨ w.heap.size ≤ k_) ∧ some k_ ≠ (.slice Ao55 y205.length co55 : Value).ownBlock ∧ some k_ ≠ (.slice Ao56 y208.length co56 : Value).ownBlock ∧ some k_ ≠ (.slice Ao61 y215.length co61 : Value).ownBlock ∧ k_ ≠ gb180)) (by (with_reducible repeat (first | apply Kd.V_alloc | apply Kd.V_drewN | apply Kd.V_drew)); exact Kd.V_mono HO_2.out (fun _ hk => ⟨⟨hk.1.1.1, ⟨hk.1.1.2.1, ⟨hk.1.1.2.2.1, ⟨hk.1.2, hk.1.1.2.2.2⟩⟩⟩⟩, hk.2⟩)) hg hat)
                                              have n1_ := Aside0.mk (Kd.V_afterv (ok := (fun k_ => ((P2_ k_ ∨ P3_1_ k_ ∨ P3_3_ k_) ∨ w.heap.size ≤ k_) ∧ some k_ ≠ (.slice Ao55 y205.length co55 : Value).ownBlock ∧ some k_ ≠ (.slice Ao56 y208.length co56 : Value).ownBlock ∧ some k_ ≠ (.slice Ao61 y215.length co61 : Value).ownBlock ∧ k_ ≠ gb180)) (by (with_reducible repeat (first | apply Kd.V_alloc | apply Kd.V_drewN | apply Kd.V_drew)); exact Kd.V_mono HO_181001.out (fun _ hk => ⟨⟨hk.1.1.1, ⟨hk.1.1.2.1, ⟨hk.1.1.2.2.1, ⟨hk.1.2, hk.1.1.2.2.2⟩⟩⟩⟩, hk.2⟩)) hg hat)
                                              have n2_ := Aside0.mk (Kd.V_afterv (ok := (fun k_ => ((P2_ k_ ∨ P3_1_ k_ ∨ P3_3_ k_) ∨ w.heap.size ≤ k_) ∧ some k_ ≠ (.slice Ao55 y205.length co55 : Value).ownBlock ∧ some k_ ≠ (.slice Ao56 y208.length co56 : Value).ownBlock ∧ some k_ ≠ (.slice Ao61 y215.length co61 : Value).ownBlock ∧ k_ ≠ gb180)) (by (with_reducible repeat (first | apply Kd.V_alloc | apply Kd.V_drewN | apply Kd.V_drew)); exact Kd.V_mono HO_181003.out (fun _ hk => ⟨⟨hk.1.1.1, ⟨hk.1.1.2.1, ⟨hk.1.1.2.2.1, ⟨hk.1.2, hk.1.1.2.2.2⟩⟩⟩⟩, hk.2⟩)) hg hat)
                                              have n3_ := Aside0.mk (blk_grown (g := gb180) (o := .cells #[.bool a3_0, .slice A3_1 l3_1.length c3_1, .bool a3_2, .slice A3_3 l3_3.length c3_3] 32 (0, 0)) (by (with_reducible repeat (first | refine blk_drewN ?_ _ | refine blk_drew ?_ | refine blk_alloc ?_ _)); exact BK180.out) hg (Kd.N_away HO222.out (fun _ hk => hk.2.2.2.2)))
                                              have n4_ := Aside0.mk (Kd.R_over' (by (with_reducible repeat (first | apply Kd.R_alloc | apply Kd.R_drewN | apply Kd.R_drew)); exact HO207.out) (Kd.N_typed (by (with_reducible repeat (first | apply Kd.N_alloc | apply Kd.N_drewN | apply Kd.N_drew)); exact HO222.out)) (by decide) hg)
                                              have n5_ := Aside0.mk (Kd.R_over' (by (with_reducible repeat (first | apply Kd.R_alloc | apply Kd.R_drewN | apply Kd.R_drew)); exact HO210.out) (Kd.N_typed (by (with_reducible repeat (first | apply Kd.N_alloc | apply Kd.N_drewN | apply Kd.N_drew)); exact HO222.out)) (by decide) hg)
                                              have n6_ := Aside0.mk (Kd.R_over' (by (with_reducible repeat (first | apply Kd.R_alloc | apply Kd.R_drewN | apply Kd.R_drew)); exact HO217.out) (Kd.N_typed (by (with_reducible repeat (first | apply Kd.N_alloc | apply Kd.N_drewN | apply Kd.N_drew)); exact HO222.out)) (by decide) hg)
                                              have n7_ := Aside0.mk (hb)
                                              have n8_ := Aside0.mk (ho)
                                              clear HO_2
                                              clear HO_181001
                                              clear HO_181003
                                              clear BK180
                                              clear HO207
                                              clear HO210
                                              clear HO217
                                              clear HB
                                              clear HO222
                                              have HO_2 := n0_
                                              have HO_181001 := n1_
                                              have HO_181003 := n2_
                                              have BK180 := n3_
                                              have HO207 := n4_
                                              have HO210 := n5_
                                              have HO217 := n6_
                                              have HB := n7_
                                              have HO225 := n8_
                                              clear n0_ n1_ n2_ n3_ n4_ n5_ n6_ n7_ n8_
                                              clear ho hb hg hat
                                              refine hK.out _ _ ⟨(blk_cell BK180.out 0).trans rfl, (blk_cell BK180.out 1).trans rfl, (blk_cell BK180.out 2).trans rfl, (blk_cell BK180.out 3).trans rfl⟩ (fun hHeld => ?_)
                                              clear hK K
                                              refine norm_ (a' := ?_) ?_ ?_
                                              rotate_left
                                              · show Act.put _ (some 80) _ = _
                                                simp only [Act.put, List.setIfInBounds_toArray, List.set_cons_zero, List.set_cons_succ, i64_w, i32_w]
                                                rfl
                                              refine one_ (i := 4) (N := some 82) #[true, true, true, true, true, false, false, false] rfl rfl (one_of HT_.out (by kernel_rfl)) (by decide) (fun K hK => ?_)
                                              refine Kd.N_lit_step k32 _ 32 ?hg (N' := 82) ?hd (xs := ([(⟨a3_0, l3_1, a3_2, l3_3⟩ : S32)] : List (S32))) (inner := [.bool a3_0, .slice A3_1 l3_1.length c3_1, .bool a3_2, .slice A3_3 l3_3.length c3_3]) (ok := (fun k_ => ((P2_ k_ ∨ P3_1_ k_ ∨ P3_3_ k_) ∨ w.heap.size ≤ k_) ∧ some k_ ≠ (.slice Ao55 y205.length co55 : Value).ownBlock ∧ some k_ ≠ (.slice Ao56 y208.length co56 : Value).ownBlock ∧ some k_ ≠ (.slice Ao61 y215.length co61 : Value).ownBlock ∧ some k_ ≠ (v224 : Value).ownBlock ∧ k_ ≠ gb180)) (okp := (fun k_ => ((P2_ k_ ∨ P3_1_ k_ ∨ P3_3_ k_) ∨ w.heap.size ≤ k_) ∧ some k_ ≠ (.slice Ao55 y205.length co55 : Value).ownBlock ∧ some k_ ≠ (.slice Ao56 y208.length co56 : Value).ownBlock ∧ some k_ ≠ (.slice Ao61 y215.length co61 : Value).ownBlock ∧ some k_ ≠ (v224 : Value).ownBlock ∧ k_ ≠ gb180)) ?hr ?hp (fun _ hk => hk) ((show ∀ k_, w67.heap.size ≤ k_ → (fun k_ => ((P2_ k_ ∨ P3_1_ k_ ∨ P3_3_ k_) ∨ w.heap.size ≤ k_) ∧ some k_ ≠ (.slice Ao55 y205.length co55 : Value).ownBlock ∧ some k_ ≠ (.slice Ao56 y208.length co56 : Value).ownBlock ∧ some k_ ≠ (.slice Ao61 y215.length co61 : Value).ownBlock ∧ some k_ ≠ (v224 : Value).ownBlock ∧ k_ ≠ gb180) k_ from fun k_ hk => ⟨(.inr (Nat.le_trans (below_size (by repeat (first | (with_reducible first | exact HB.out | apply below_alloc | apply pw_below_drewN | apply below_drew1 | refine below_set ?_ GE180.out) | exact HB.out))) hk)), Kd.fresh' (Kd.R_lt (by (with_reducible repeat (first | apply Kd.R_alloc | apply Kd.R_drewN | apply Kd.R_drew)); exact HO207.out)) k_ hk, Kd.fresh' (Kd.R_lt (by (with_reducible repeat (first | apply Kd.R_alloc | apply Kd.R_drewN | apply Kd.R_drew)); exact HO210.out)) k_ hk, Kd.fresh' (Kd.R_lt (by (with_reducible repeat (first | apply Kd.R_alloc | apply Kd.R_drewN | apply Kd.R_drew)); exact HO217.out)) k_ hk, Kd.fresh' (Kd.N_lt (by (with_reducible repeat (first | apply Kd.N_alloc | apply Kd.N_drewN | apply Kd.N_drew)); exact HO225.out)) k_ hk, Kd.freshB (g := gb180) (o := .cells #[.bool a3_0, .slice A3_1 l3_1.length c3_1, .bool a3_2, .slice A3_3 l3_3.length c3_3] 32 (0, 0)) (by (with_reducible repeat (first | refine blk_drewN ?_ _ | refine blk_drew ?_ | refine blk_alloc ?_ _)); exact BK180.out) k_ hk⟩) _ (Nat.le_refl _)) (Below.refl _ _) (Nat.le_refl _) (by simp) ?_; (case hd => rfl); (case hg => rfl); (case hr => first | (go_simp; done) | (go_simp; rfl)); (case hp => exact (Reps.c4 (show Kd.FK k32 _ _ (⟨a3_0, l3_1, a3_2, l3_3⟩ : S32) [.bool a3_0, .slice A3_1 l3_1.length c3_1, .bool a3_2, .slice A3_3 l3_3.length c3_3] from (k32_mkF _ _ (⟨a3_0, l3_1, a3_2, l3_3⟩ : S32) (Kd.V_reads' (Kd.V_mono (ok' := (fun k_ => ((P2_ k_ ∨ P3_1_ k_ ∨ P3_3_ k_) ∨ w.heap.size ≤ k_) ∧ some k_ ≠ (.slice Ao55 y205.length co55 : Value).ownBlock ∧ some k_ ≠ (.slice Ao56 y208.length co56 : Value).ownBlock ∧ some k_ ≠ (.slice Ao61 y215.length co61 : Value).ownBlock ∧ some k_ ≠ (v224 : Value).ownBlock ∧ k_ ≠ gb180)) (HO_181001.out) (fun k_ hk => ⟨hk.1.1, ⟨hk.1.2.1, ⟨hk.1.2.2.1, ⟨hk.1.2.2.2.1, ⟨hk.2, hk.1.2.2.2.2⟩⟩⟩⟩⟩))).2.1 (Kd.V_F (Kd.V_mono (ok' := (fun k_ => ((P2_ k_ ∨ P3_1_ k_ ∨ P3_3_ k_) ∨ w.heap.size ≤ k_) ∧ some k_ ≠ (.slice Ao55 y205.length co55 : Value).ownBlock ∧ some k_ ≠ (.slice Ao56 y208.length co56 : Value).ownBlock ∧ some k_ ≠ (.slice Ao61 y215.length co61 : Value).ownBlock ∧ some k_ ≠ (v224 : Value).ownBlock ∧ k_ ≠ gb180)) (HO_181001.out) (fun k_ hk => ⟨hk.1.1, ⟨hk.1.2.1, ⟨hk.1.2.2.1, ⟨hk.1.2.2.2.1, ⟨hk.2, hk.1.2.2.2.2⟩⟩⟩⟩⟩))) (Kd.V_reads' (Kd.V_mono (ok' := (fun k_ => ((P2_ k_ ∨ P3_1_ k_ ∨ P3_3_ k_) ∨ w.heap.size ≤ k_) ∧ some k_ ≠ (.slice Ao55 y205.length co55 : Value).ownBlock ∧ some k_ ≠ (.slice Ao56 y208.length co56 : Value).ownBlock ∧ some k_ ≠ (.slice Ao61 y215.length co61 : Value).ownBlock ∧ some k_ ≠ (v224 : Value).ownBlock ∧ k_ ≠ gb180)) (HO_181003.out) (fun k_ hk => ⟨hk.1.1, ⟨hk.1.2.1, ⟨hk.1.2.2.1, ⟨hk.1.2.2.2.1, ⟨hk.2, hk.1.2.2.2.2⟩⟩⟩⟩⟩))).2.1 (Kd.V_F (Kd.V_mono (ok' := (fun k_ => ((P2_ k_ ∨ P3_1_ k_ ∨ P3_3_ k_) ∨ w.heap.size ≤ k_) ∧ some k_ ≠ (.slice Ao55 y205.length co55 : Value).ownBlock ∧ some k_ ≠ (.slice Ao56 y208.length co56 : Value).ownBlock ∧ some k_ ≠ (.slice Ao61 y215.length co61 : Value).ownBlock ∧ some k_ ≠ (v224 : Value).ownBlock ∧ k_ ≠ gb180)) (HO_181003.out) (fun k_ hk => ⟨hk.1.1, ⟨hk.1.2.1, ⟨hk.1.2.2.1, ⟨hk.1.2.2.2.1, ⟨hk.2, hk.1.2.2.2.2⟩⟩⟩⟩⟩))))) (Reps.none _ _)))
                                              intro v227 w68 ho69 hb hg_ hnew_
                                              clear hg_ hnew_
                                              (first | rw [← Ny226.out] at ho69 | (simp only [Int.reduceToNat] at ho69; rw [← Ny226.out] at ho69))
                                              have n0_ := Aside0.mk (Kd.V_elder' (by (with_reducible repeat (first | apply Kd.V_alloc | apply Kd.V_drewN | apply Kd.V_drew)); exact HO_2.out) (Kd.N_base ho69) hb)
                                              have n1_ := Aside0.mk (Kd.V_elder' (by (with_reducible repeat (first | apply Kd.V_alloc | apply Kd.V_drewN | apply Kd.V_drew)); exact HO_181001.out) (Kd.N_base ho69) hb)
                                              have n2_ := Aside0.mk (Kd.V_elder' (by (with_reducible repeat (first | apply Kd.V_alloc | apply Kd.V_drewN | apply Kd.V_drew)); exact HO_181003.out) (Kd.N_base ho69) hb)
                                              have n3_ := Aside0.mk (Kd.R_below (by (with_reducible repeat (first | apply Kd.R_alloc | apply Kd.R_drewN | apply Kd.R_drew)); exact HO207.out) hb)
                                              have n4_ := Aside0.mk (Kd.R_below (by (with_reducible repeat (first | apply Kd.R_alloc | apply Kd.R_drewN | apply Kd.R_drew)); exact HO210.out) hb)
                                              have n5_ := Aside0.mk (Kd.R_below (by (with_reducible repeat (first | apply Kd.R_alloc | apply Kd.R_drewN | apply Kd.R_drew)); exact HO217.out) hb)
                                              have n6_ := Aside0.mk (Kd.N_elder' (by (with_reducible repeat (first | apply Kd.N_alloc | apply Kd.N_drewN | apply Kd.N_drew)); exact HO225.out) (Kd.N_base ho69) hb)
                                              have n7_ := Aside0.mk (Kd.N_lower ho69 (below_size (by repeat (first | (with_reducible first | exact HB.out | apply below_alloc | apply pw_below_drewN | apply below_drew1 | refine below_set ?_ GE180.out) | exact HB.out))))
                                              have n8_ := Aside0.mk (blk_below (g := gb180) (o := .cells #[.bool a3_0, .slice A3_1 l3_1.length c3_1, .bool a3_2, .slice A3_3 l3_3.length c3_3] 32 (0, 0)) (by (with_reducible repeat (first | refine blk_drewN ?_ _ | refine blk_drew ?_ | refine blk_alloc ?_ _)); exact BK180.out) hb)
                                              have n9_ := Aside0.mk (below_step (by repeat (first | (with_reducible first | exact HB.out | apply below_alloc | apply pw_below_drewN | apply below_drew1 | refine below_set ?_ GE180.out) | exact HB.out)) hb)
                                              clear HO_2
                                              clear HO_181001
                                              clear HO_181003
                                              clear HO207
                                              clear HO210
                                              clear HO217
                                              clear HO225
                                              clear BK180
                                              clear HB
                                              have HO_2 := n0_
                                              have HO_181001 := n1_
                                              have HO_181003 := n2_
                                              have HO207 := n3_
                                              have HO210 := n4_
                                              have HO217 := n5_
                                              have HO225 := n6_
                                              have HO228 := n7_
                                              have BK180 := n8_
                                              have HB := n9_
                                              clear n0_ n1_ n2_ n3_ n4_ n5_ n6_ n7_ n8_ n9_
                                              clear hb ho69
                                              refine hK.out _ _ ⟨(blk_cell BK180.out 0).trans rfl, (blk_cell BK180.out 1).trans rfl, (blk_cell BK180.out 2).trans rfl, (blk_cell BK180.out 3).trans rfl⟩ (fun hHeld => ?_)
                                              clear hK K
                                              refine norm_ (a' := ?_) ?_ ?_
                                              rotate_left
                                              · show Act.put _ (some 82) _ = _
                                                simp only [Act.put, List.setIfInBounds_toArray, List.set_cons_zero, List.set_cons_succ, i64_w, i32_w]
                                                rfl
                                              exact norm_ (by simp only [putAll, Act.put, List.setIfInBounds_toArray, List.set_cons_zero, List.set_cons_succ]) (hCont (v221, v224, v227) _ ⟨hHeld, (by (with_reducible repeat (first | apply Kd.R_alloc | apply Kd.R_drewN | apply Kd.R_drew)); exact Kd.R_mono HO207.out (fun _ hk => ⟨hk.1.1, ⟨hk.1.2, hk.2⟩⟩)), (by (with_reducible repeat (first | apply Kd.R_alloc | apply Kd.R_drewN | apply Kd.R_drew)); exact Kd.R_mono HO210.out (fun _ hk => ⟨hk.1.1, ⟨hk.1.2, hk.2⟩⟩)), (by (with_reducible repeat (first | apply Kd.R_alloc | apply Kd.R_drewN | apply Kd.R_drew)); exact HO217.out), (by (with_reducible repeat (first | apply Kd.N_alloc | apply Kd.N_drewN | apply Kd.N_drew)); exact Kd.N_mono HO225.out (fun _ hk => ⟨hk.1.1, ⟨hk.1.2.1, ⟨hk.1.2.2.1, ⟨hk.1.2.2.2.1, ⟨hk.2, hk.1.2.2.2.2⟩⟩⟩⟩⟩)), (by (with_reducible repeat (first | apply Kd.N_alloc | apply Kd.N_drewN | apply Kd.N_drew)); exact HO228.out), (by (with_reducible repeat (first | apply Kd.V_alloc | apply Kd.V_drewN | apply Kd.V_drew)); exact Kd.V_mono HO_181001.out (fun _ hk => ⟨hk.1.1.1, ⟨hk.1.1.2.1, ⟨hk.1.1.2.2.1, ⟨hk.1.1.2.2.2.1, ⟨hk.1.2, ⟨hk.2, hk.1.1.2.2.2.2⟩⟩⟩⟩⟩⟩)), (by (with_reducible repeat (first | apply Kd.V_alloc | apply Kd.V_drewN | apply Kd.V_drew)); exact Kd.V_mono HO_181003.out (fun _ hk => ⟨hk.1.1.1, ⟨hk.1.1.2.1, ⟨hk.1.1.2.2.1, ⟨hk.1.1.2.2.2.1, ⟨hk.1.2, ⟨hk.2, hk.1.1.2.2.2.2⟩⟩⟩⟩⟩⟩)), (by (with_reducible repeat (first | apply Kd.V_alloc | apply Kd.V_drewN | apply Kd.V_drew)); exact Kd.V_mono HO_2.out (fun _ hk => ⟨hk.1.1.1, ⟨hk.1.1.2.1, ⟨hk.1.1.2.2.1, ⟨hk.1.1.2.2.2.1, ⟨hk.1.2, ⟨hk.2, hk.1.1.2.2.2.2⟩⟩⟩⟩⟩⟩)), (by (with_reducible repeat (first | refine blk_drewN ?_ _ | refine blk_drew ?_ | refine blk_alloc ?_ _)); exact BK180.out), (by repeat (first | (with_reducible first | exact HB.out | apply below_alloc | apply pw_below_drewN | apply below_drew1 | refine below_set ?_ GE180.out) | exact HB.out))⟩)
                                            · skip
                                              refine Kd.N_lit_step k32 _ 32 ?hg (N' := 82) ?hd (xs := ([(⟨a3_0, l3_1, a3_2, l3_3⟩ : S32)] : List (S32))) (inner := [.bool a3_0, .slice A3_1 l3_1.length c3_1, .bool a3_2, .slice A3_3 l3_3.length c3_3]) (ok := (fun k_ => ((P2_ k_ ∨ P3_1_ k_ ∨ P3_3_ k_) ∨ w.heap.size ≤ k_) ∧ some k_ ≠ (.slice Ao55 y205.length co55 : Value).ownBlock ∧ some k_ ≠ (.slice Ao56 y208.length co56 : Value).ownBlock ∧ some k_ ≠ (.slice Ao61 y215.length co61 : Value).ownBlock ∧ some k_ ≠ (v221 : Value).ownBlock ∧ k_ ≠ gb180)) (okp := (fun k_ => ((P2_ k_ ∨ P3_1_ k_ ∨ P3_3_ k_) ∨ w.heap.size ≤ k_) ∧ some k_ ≠ (.slice Ao55 y205.length co55 : Value).ownBlock ∧ some k_ ≠ (.slice Ao56 y208.length co56 : Value).ownBlock ∧ some k_ ≠ (.slice Ao61 y215.length co61 : Value).ownBlock ∧ some k_ ≠ (v221 : Value).ownBlock ∧ k_ ≠ gb180)) ?hr ?hp (fun _ hk => hk) ((show ∀ k_, w65.heap.size ≤ k_ → (fun k_ => ((P2_ k_ ∨ P3_1_ k_ ∨ P3_3_ k_) ∨ w.heap.size ≤ k_) ∧ some k_ ≠ (.slice Ao55 y205.length co55 : Value).ownBlock ∧ some k_ ≠ (.slice Ao56 y208.length co56 : Value).ownBlock ∧ some k_ ≠ (.slice Ao61 y215.length co61 : Value).ownBlock ∧ some k_ ≠ (v221 : Value).ownBlock ∧ k_ ≠ gb180) k_ from fun k_ hk => ⟨(.inr (Nat.le_trans (below_size (by repeat (first | (with_reducible first | exact HB.out | apply below_alloc | apply pw_below_drewN | apply below_drew1 | refine below_set ?_ GE180.out) | exact HB.out))) hk)), Kd.fresh' (Kd.R_lt (by (with_reducible repeat (first | apply Kd.R_alloc | apply Kd.R_drewN | apply Kd.R_drew)); exact HO207.out)) k_ hk, Kd.fresh' (Kd.R_lt (by (with_reducible repeat (first | apply Kd.R_alloc | apply Kd.R_drewN | apply Kd.R_drew)); exact HO210.out)) k_ hk, Kd.fresh' (Kd.R_lt (by (with_reducible repeat (first | apply Kd.R_alloc | apply Kd.R_drewN | apply Kd.R_drew)); exact HO217.out)) k_ hk, Kd.fresh' (Kd.N_lt (by (with_reducible repeat (first | apply Kd.N_alloc | apply Kd.N_drewN | apply Kd.N_drew)); exact HO222.out)) k_ hk, Kd.freshB (g := gb180) (o := .cells #[.bool a3_0, .slice A3_1 l3_1.length c3_1, .bool a3_2, .slice A3_3 l3_3.length c3_3] 32 (0, 0)) (by (with_reducible repeat (first | refine blk_drewN ?_ _ | refine blk_drew ?_ | refine blk_alloc ?_ _)); exact BK180.out) k_ hk⟩) _ (Nat.le_refl _)) (Below.refl _ _) (Nat.le_refl _) (by simp) ?_; (case hd => rfl); (case hg => rfl); (case hr => first | (go_simp; done) | (go_simp; rfl)); (case hp => exact (Reps.c4 (show Kd.FK k32 _ _ (⟨a3_0, l3_1, a3_2, l3_3⟩ : S32) [.bool a3_0, .slice A3_1 l3_1.length c3_1, .bool a3_2, .slice A3_3 l3_3.length c3_3] from (k32_mkF _ _ (⟨a3_0, l3_1, a3_2, l3_3⟩ : S32) (Kd.V_reads' (Kd.V_mono (ok' := (fun k_ => ((P2_ k_ ∨ P3_1_ k_ ∨ P3_3_ k_) ∨ w.heap.size ≤ k_) ∧ some k_ ≠ (.slice Ao55 y205.length co55 : Value).ownBlock ∧ some k_ ≠ (.slice Ao56 y208.length co56 : Value).ownBlock ∧ some k_ ≠ (.slice Ao61 y215.length co61 : Value).ownBlock ∧ some k_ ≠ (v221 : Value).ownBlock ∧ k_ ≠ gb180)) (HO_181001.out) (fun k_ hk => ⟨hk.1.1.1, ⟨hk.1.1.2.1, ⟨hk.1.1.2.2.1, ⟨hk.1.2, ⟨hk.2, hk.1.1.2.2.2⟩⟩⟩⟩⟩))).2.1 (Kd.V_F (Kd.V_mono (ok' := (fun k_ => ((P2_ k_ ∨ P3_1_ k_ ∨ P3_3_ k_) ∨ w.heap.size ≤ k_) ∧ some k_ ≠ (.slice Ao55 y205.length co55 : Value).ownBlock ∧ some k_ ≠ (.slice Ao56 y208.length co56 : Value).ownBlock ∧ some k_ ≠ (.slice Ao61 y215.length co61 : Value).ownBlock ∧ some k_ ≠ (v221 : Value).ownBlock ∧ k_ ≠ gb180)) (HO_181001.out) (fun k_ hk => ⟨hk.1.1.1, ⟨hk.1.1.2.1, ⟨hk.1.1.2.2.1, ⟨hk.1.2, ⟨hk.2, hk.1.1.2.2.2⟩⟩⟩⟩⟩))) (Kd.V_reads' (Kd.V_mono (ok' := (fun k_ => ((P2_ k_ ∨ P3_1_ k_ ∨ P3_3_ k_) ∨ w.heap.size ≤ k_) ∧ some k_ ≠ (.slice Ao55 y205.length co55 : Value).ownBlock ∧ some k_ ≠ (.slice Ao56 y208.length co56 : Value).ownBlock ∧ some k_ ≠ (.slice Ao61 y215.length co61 : Value).ownBlock ∧ some k_ ≠ (v221 : Value).ownBlock ∧ k_ ≠ gb180)) (HO_181003.out) (fun k_ hk => ⟨hk.1.1.1, ⟨hk.1.1.2.1, ⟨hk.1.1.2.2.1, ⟨hk.1.2, ⟨hk.2, hk.1.1.2.2.2⟩⟩⟩⟩⟩))).2.1 (Kd.V_F (Kd.V_mono (ok' := (fun k_ => ((P2_ k_ ∨ P3_1_ k_ ∨ P3_3_ k_) ∨ w.heap.size ≤ k_) ∧ some k_ ≠ (.slice Ao55 y205.length co55 : Value).ownBlock ∧ some k_ ≠ (.slice Ao56 y208.length co56 : Value).ownBlock ∧ some k_ ≠ (.slice Ao61 y215.length co61 : Value).ownBlock ∧ some k_ ≠ (v221 : Value).ownBlock ∧ k_ ≠ gb180)) (HO_181003.out) (fun k_ hk => ⟨hk.1.1.1, ⟨hk.1.1.2.1, ⟨hk.1.1.2.2.1, ⟨hk.1.2, ⟨hk.2, hk.1.1.2.2.2⟩⟩⟩⟩⟩))))) (Reps.none _ _)))
                                              intro v227 w67 ho68 hb hg_ hnew_
                                              clear hg_ hnew_
                                              (first | rw [← Ny226.out] at ho68 | (simp only [Int.reduceToNat] at ho68; rw [← Ny226.out] at ho68))
                                              have n0_ := Aside0.mk (Kd.V_elder' (by (with_reducible repeat (first | apply Kd.V_alloc | apply Kd.V_drewN | apply Kd.V_drew)); exact HO_2.out) (Kd.N_base ho68) hb)
                                              have n1_ := Aside0.mk (Kd.V_elder' (by (with_reducible repeat (first | apply Kd.V_alloc | apply Kd.V_drewN | apply Kd.V_drew)); exact HO_181001.out) (Kd.N_base ho68) hb)
                                              have n2_ := Aside0.mk (Kd.V_elder' (by (with_reducible repeat (first | apply Kd.V_alloc | apply Kd.V_drewN | apply Kd.V_drew)); exact HO_181003.out) (Kd.N_base ho68) hb)
                                              have n3_ := Aside0.mk (Kd.R_below (by (with_reducible repeat (first | apply Kd.R_alloc | apply Kd.R_drewN | apply Kd.R_drew)); exact HO207.out) hb)
                                              have n4_ := Aside0.mk (Kd.R_below (by (with_reducible repeat (first | apply Kd.R_alloc | apply Kd.R_drewN | apply Kd.R_drew)); exact HO210.out) hb)
                                              have n5_ := Aside0.mk (Kd.R_below (by (with_reducible repeat (first | apply Kd.R_alloc | apply Kd.R_drewN | apply Kd.R_drew)); exact HO217.out) hb)
                                              have n6_ := Aside0.mk (Kd.N_elder' (by (with_reducible repeat (first | apply Kd.N_alloc | apply Kd.N_drewN | apply Kd.N_drew)); exact HO222.out) (Kd.N_base ho68) hb)
                                              have n7_ := Aside0.mk (Kd.N_lower ho68 (below_size (by repeat (first | (with_reducible first | exact HB.out | apply below_alloc | apply pw_below_drewN | apply below_drew1 | refine below_set ?_ GE180.out) | exact HB.out))))
                                              have n8_ := Aside0.mk (blk_below (g := gb180) (o := .cells #[.bool a3_0, .slice A3_1 l3_1.length c3_1, .bool a3_2, .slice A3_3 l3_3.length c3_3] 32 (0, 0)) (by (with_reducible repeat (first | refine blk_drewN ?_ _ | refine blk_drew ?_ | refine blk_alloc ?_ _)); exact BK180.out) hb)
                                              have n9_ := Aside0.mk (below_step (by repeat (first | (with_reducible first | exact HB.out | apply below_alloc | apply pw_below_drewN | apply below_drew1 | refine below_set ?_ GE180.out) | exact HB.out)) hb)
                                              clear HO_2
                                              clear HO_181001
                                              clear HO_181003
                                              clear HO207
                                              clear HO210
                                              clear HO217
                                              clear HO222
                                              clear BK180
                                              clear HB
                                              have HO_2 := n0_
                                              have HO_181001 := n1_
                                              have HO_181003 := n2_
                                              have HO207 := n3_
                                              have HO210 := n4_
                                              have HO217 := n5_
                                              have HO222 := n6_
                                              have HO228 := n7_
                                              have BK180 := n8_
                                              have HB := n9_
                                              clear n0_ n1_ n2_ n3_ n4_ n5_ n6_ n7_ n8_ n9_
                                              clear hb ho68
                                              refine hK.out _ _ ⟨(blk_cell BK180.out 0).trans rfl, (blk_cell BK180.out 1).trans rfl, (blk_cell BK180.out 2).trans rfl, (blk_cell BK180.out 3).trans rfl⟩ (fun hHeld => ?_)
                                              clear hK K
                                              refine norm_ (a' := ?_) ?_ ?_
                                              rotate_left
                                              · show Act.put _ (some 82) _ = _
                                                simp only [Act.put, List.setIfInBounds_toArray, List.set_cons_zero, List.set_cons_succ, i64_w, i32_w]
                                                rfl
                                              refine one_ (i := 2) (N := some 80) #[true, true, true, true, true, false, false, false] rfl rfl (one_of HT_.out (by kernel_rfl)) (by decide) (fun K hK => ?_)
                                              refine Kd.N_append_rows_step k32 (w0 := w) w.heap.size (by rfl) (.tmp 78) (.tmp 79) 30 32 (.agg #[(.bool false), (.slice none 0 0), (.bool false), (.slice none 0 0)]) 64 rfl Try.underlying30 info32 rfl (by decide) (by omega) v221 y220 l2 _ _ _ (fun k_ => ((P2_ k_ ∨ P3_1_ k_ ∨ P3_3_ k_) ∨ w.heap.size ≤ k_) ∧ some k_ ≠ (.slice Ao55 y205.length co55 : Value).ownBlock ∧ some k_ ≠ (.slice Ao56 y208.length co56 : Value).ownBlock ∧ some k_ ≠ (.slice Ao61 y215.length co61 : Value).ownBlock ∧ some k_ ≠ (v227 : Value).ownBlock ∧ k_ ≠ gb180) (fun k_ => ((fun k_ => ((P2_ k_ ∨ P3_1_ k_ ∨ P3_3_ k_) ∨ w.heap.size ≤ k_) ∧ some k_ ≠ (.slice Ao55 y205.length co55 : Value).ownBlock ∧ some k_ ≠ (.slice Ao56 y208.length co56 : Value).ownBlock ∧ some k_ ≠ (.slice Ao61 y215.length co61 : Value).ownBlock ∧ some k_ ≠ (v227 : Value).ownBlock ∧ k_ ≠ gb180)) k_ ∧ some k_ ≠ (v221 : Value).ownBlock) rfl rfl ?aO ?aR (fun _ hk => hk) ?aF ?aB ?aS ?aL ?_
                                              (case aR => exact (by skip; exact Kd.V_F (Kd.V_mono (ok' := (fun k_ => ((fun k_ => ((P2_ k_ ∨ P3_1_ k_ ∨ P3_3_ k_) ∨ w.heap.size ≤ k_) ∧ some k_ ≠ (.slice Ao55 y205.length co55 : Value).ownBlock ∧ some k_ ≠ (.slice Ao56 y208.length co56 : Value).ownBlock ∧ some k_ ≠ (.slice Ao61 y215.length co61 : Value).ownBlock ∧ some k_ ≠ (v227 : Value).ownBlock ∧ k_ ≠ gb180)) k_ ∧ some k_ ≠ (v221 : Value).ownBlock)) (HO_2.out) (fun k_ hk => ⟨⟨hk.1.1.1.1, ⟨hk.1.1.1.2.1, ⟨hk.1.1.1.2.2.1, ⟨hk.1.1.2, ⟨hk.2, hk.1.1.1.2.2.2⟩⟩⟩⟩⟩, hk.1.2⟩))))
                                              (case aB => exact (by repeat (first | (with_reducible first | exact HB.out | apply below_alloc | apply pw_below_drewN | apply below_drew1 | refine below_set ?_ GE180.out) | exact HB.out)))
                                              (case aF => exact (fun k_ hk => ⟨(.inr (Nat.le_trans (below_size (by repeat (first | (with_reducible first | exact HB.out | apply below_alloc | apply pw_below_drewN | apply below_drew1 | refine below_set ?_ GE180.out) | exact HB.out))) hk)), Kd.fresh' (Kd.R_lt (by (with_reducible repeat (first | apply Kd.R_alloc | apply Kd.R_drewN | apply Kd.R_drew)); exact HO207.out)) k_ hk, Kd.fresh' (Kd.R_lt (by (with_reducible repeat (first | apply Kd.R_alloc | apply Kd.R_drewN | apply Kd.R_drew)); exact HO210.out)) k_ hk, Kd.fresh' (Kd.R_lt (by (with_reducible repeat (first | apply Kd.R_alloc | apply Kd.R_drewN | apply Kd.R_drew)); exact HO217.out)) k_ hk, Kd.fresh' (Kd.N_lt (by (with_reducible repeat (first | apply Kd.N_alloc | apply Kd.N_drewN | apply Kd.N_drew)); exact HO228.out)) k_ hk, Kd.freshB (g := gb180) (o := .cells #[.bool a3_0, .slice A3_1 l3_1.length c3_1, .bool a3_2, .slice A3_3 l3_3.length c3_3] 32 (0, 0)) (by (with_reducible repeat (first | refine blk_drewN ?_ _ | refine blk_drew ?_ | refine blk_alloc ?_ _)); exact BK180.out) k_ hk⟩))
                                              (case aO => exact (by (with_reducible repeat (first | apply Kd.N_alloc | apply Kd.N_drewN | apply Kd.N_drew)); exact Kd.N_mono HO222.out (fun _ hk => ⟨hk.1.1, ⟨hk.1.2.1, ⟨hk.1.2.2.1, ⟨hk.1.2.2.2.1, ⟨hk.2, hk.1.2.2.2.2⟩⟩⟩⟩⟩)))
                                              (case aS => exact (below_size (by repeat (first | (with_reducible first | exact HB.out | apply below_alloc | apply pw_below_drewN | apply below_drew1 | refine below_set ?_ GE180.out) | exact HB.out))))
                                              (case aL => have := LMc37.out; omega)
                                              intro v224 w69 ho hb hg hat
                                              rw [← Ny223.out] at ho
                                              have n0_ := Aside0.mk (Kd.V_afterv (ok := (fun k_ => ((P2_ k_ ∨ P3_1_ k_ ∨ P3_3_ k_) ∨ w.heap.size ≤ k_) ∧ some k_ ≠ (.slice Ao55 y205.length co55 : Value).ownBlock ∧ some k_ ≠ (.slice Ao56 y208.length co56 : Value).ownBlock ∧ some k_ ≠ (.slice Ao61 y215.length co61 : Value).ownBlock ∧ some k_ ≠ (v227 : Value).ownBlock ∧ k_ ≠ gb180)) (by (with_reducible repeat (first | apply Kd.V_alloc | apply Kd.V_drewN | apply Kd.V_drew)); exact Kd.V_mono HO_2.out (fun _ hk => ⟨⟨hk.1.1.1.1, ⟨hk.1.1.1.2.1, ⟨hk.1.1.1.2.2.1, ⟨hk.1.1.2, ⟨hk.2, hk.1.1.1.2.2.2⟩⟩⟩⟩⟩, hk.1.2⟩)) hg hat)
                                              have n1_ := Aside0.mk (Kd.V_afterv (ok := (fun k_ => ((P2_ k_ ∨ P3_1_ k_ ∨ P3_3_ k_) ∨ w.heap.size ≤ k_) ∧ some k_ ≠ (.slice Ao55 y205.length co55 : Value).ownBlock ∧ some k_ ≠ (.slice Ao56 y208.length co56 : Value).ownBlock ∧ some k_ ≠ (.slice Ao61 y215.length co61 : Value).ownBlock ∧ some k_ ≠ (v227 : Value).ownBlock ∧ k_ ≠ gb180)) (by (with_reducible repeat (first | apply Kd.V_alloc | apply Kd.V_drewN | apply Kd.V_drew)); exact Kd.V_mono HO_181001.out (fun _ hk => ⟨⟨hk.1.1.1.1, ⟨hk.1.1.1.2.1, ⟨hk.1.1.1.2.2.1, ⟨hk.1.1.2, ⟨hk.2, hk.1.1.1.2.2.2⟩⟩⟩⟩⟩, hk.1.2⟩)) hg hat)
                                              have n2_ := Aside0.mk (Kd.V_afterv (ok := (fun k_ => ((P2_ k_ ∨ P3_1_ k_ ∨ P3_3_ k_) ∨ w.heap.size ≤ k_) ∧ some k_ ≠ (.slice Ao55 y205.length co55 : Value).ownBlock ∧ some k_ ≠ (.slice Ao56 y208.length co56 : Value).ownBlock ∧ some k_ ≠ (.slice Ao61 y215.length co61 : Value).ownBlock ∧ some k_ ≠ (v227 : Value).ownBlock ∧ k_ ≠ gb180)) (by (with_reducible repeat (first | apply Kd.V_alloc | apply Kd.V_drewN | apply Kd.V_drew)); exact Kd.V_mono HO_181003.out (fun _ hk => ⟨⟨hk.1.1.1.1, ⟨hk.1.1.1.2.1, ⟨hk.1.1.1.2.2.1, ⟨hk.1.1.2, ⟨hk.2, hk.1.1.1.2.2.2⟩⟩⟩⟩⟩, hk.1.2⟩)) hg hat)
                                              have n3_ := Aside0.mk (blk_grown (g := gb180) (o := .cells #[.bool a3_0, .slice A3_1 l3_1.length c3_1, .bool a3_2, .slice A3_3 l3_3.length c3_3] 32 (0, 0)) (by (with_reducible repeat (first | refine blk_drewN ?_ _ | refine blk_drew ?_ | refine blk_alloc ?_ _)); exact BK180.out) hg (Kd.N_away HO222.out (fun _ hk => hk.1.2.2.2.2)))
                                              have n4_ := Aside0.mk (Kd.R_over' (by (with_reducible repeat (first | apply Kd.R_alloc | apply Kd.R_drewN | apply Kd.R_drew)); exact HO207.out) (Kd.N_typed (by (with_reducible repeat (first | apply Kd.N_alloc | apply Kd.N_drewN | apply Kd.N_drew)); exact HO222.out)) (by decide) hg)
                                              have n5_ := Aside0.mk (Kd.R_over' (by (with_reducible repeat (first | apply Kd.R_alloc | apply Kd.R_drewN | apply Kd.R_drew)); exact HO210.out) (Kd.N_typed (by (with_reducible repeat (first | apply Kd.N_alloc | apply Kd.N_drewN | apply Kd.N_drew)); exact HO222.out)) (by decide) hg)
                                              have n6_ := Aside0.mk (Kd.R_over' (by (with_reducible repeat (first | apply Kd.R_alloc | apply Kd.R_drewN | apply Kd.R_drew)); exact HO217.out) (Kd.N_typed (by (with_reducible repeat (first | apply Kd.N_alloc | apply Kd.N_drewN | apply Kd.N_drew)); exact HO222.out)) (by decide) hg)
                                              have n7_ := Aside0.mk (Kd.N_afterv (ok := (fun k_ => ((P2_ k_ ∨ P3_1_ k_ ∨ P3_3_ k_) ∨ w.heap.size ≤ k_) ∧ some k_ ≠ (.slice Ao55 y205.length co55 : Value).ownBlock ∧ some k_ ≠ (.slice Ao56 y208.length co56 : Value).ownBlock ∧ some k_ ≠ (.slice Ao61 y215.length co61 : Value).ownBlock ∧ k_ ≠ gb180)) (by (with_reducible repeat (first | apply Kd.N_alloc | apply Kd.N_drewN | apply Kd.N_drew)); exact Kd.N_mono HO228.out (fun _ hk => ⟨⟨hk.1, ⟨hk.2.1, ⟨hk.2.2.1, ⟨hk.2.2.2.1, hk.2.2.2.2.2⟩⟩⟩⟩, hk.2.2.2.2.1⟩)) hg hat)
                                              have n8_ := Aside0.mk (hb)
                                              have n9_ := Aside0.mk (ho)
                                              clear HO_2
                                              clear HO_181001
                                              clear HO_181003
                                              clear BK180
                                              clear HO207
                                              clear HO210
                                              clear HO217
                                              clear HO228
                                              clear HB
                                              clear HO222
                                              have HO_2 := n0_
                                              have HO_181001 := n1_
                                              have HO_181003 := n2_
                                              have BK180 := n3_
                                              have HO207 := n4_
                                              have HO210 := n5_
                                              have HO217 := n6_
                                              have HO228 := n7_
                                              have HB := n8_
                                              have HO225 := n9_
                                              clear n0_ n1_ n2_ n3_ n4_ n5_ n6_ n7_ n8_ n9_
                                              clear ho hb hg hat
                                              refine hK.out _ _ ⟨(blk_cell BK180.out 0).trans rfl, (blk_cell BK180.out 1).trans rfl, (blk_cell BK180.out 2).trans rfl, (blk_cell BK180.out 3).trans rfl⟩ (fun hHeld => ?_)
                                              clear hK K
                                              refine norm_ (a' := ?_) ?_ ?_
                                              rotate_left
                                              · show Act.put _ (some 80) _ = _
                                                simp only [Act.put, List.setIfInBounds_toArray, List.set_cons_zero, List.set_cons_succ, i64_w, i32_w]
                                                rfl
                                              exact norm_ (by simp only [putAll, Act.put, List.setIfInBounds_toArray, List.set_cons_zero, List.set_cons_succ]) (hCont (v221, v224, v227) _ ⟨hHeld, (by (with_reducible repeat (first | apply Kd.R_alloc | apply Kd.R_drewN | apply Kd.R_drew)); exact Kd.R_mono HO207.out (fun _ hk => ⟨hk.1.1, ⟨hk.1.2, hk.2⟩⟩)), (by (with_reducible repeat (first | apply Kd.R_alloc | apply Kd.R_drewN | apply Kd.R_drew)); exact Kd.R_mono HO210.out (fun _ hk => ⟨hk.1.1, ⟨hk.1.2, hk.2⟩⟩)), (by (with_reducible repeat (first | apply Kd.R_alloc | apply Kd.R_drewN | apply Kd.R_drew)); exact HO217.out), (by (with_reducible repeat (first | apply Kd.N_alloc | apply Kd.N_drewN | apply Kd.N_drew)); exact HO225.out), (by (with_reducible repeat (first | apply Kd.N_alloc | apply Kd.N_drewN | apply Kd.N_drew)); exact Kd.N_mono HO228.out (fun _ hk => ⟨hk.1.1, ⟨hk.1.2.1, ⟨hk.1.2.2.1, ⟨hk.1.2.2.2.1, ⟨hk.2, hk.1.2.2.2.2⟩⟩⟩⟩⟩)), (by (with_reducible repeat (first | apply Kd.V_alloc | apply Kd.V_drewN | apply Kd.V_drew)); exact Kd.V_mono HO_181001.out (fun _ hk => ⟨hk.1.1, ⟨hk.1.2.1, ⟨hk.1.2.2.1, ⟨hk.1.2.2.2.1, ⟨hk.2, ⟨hk.1.2.2.2.2.1, hk.1.2.2.2.2.2⟩⟩⟩⟩⟩⟩)), (by (with_reducible repeat (first | apply Kd.V_alloc | apply Kd.V_drewN | apply Kd.V_drew)); exact Kd.V_mono HO_181003.out (fun _ hk => ⟨hk.1.1, ⟨hk.1.2.1, ⟨hk.1.2.2.1, ⟨hk.1.2.2.2.1, ⟨hk.2, ⟨hk.1.2.2.2.2.1, hk.1.2.2.2.2.2⟩⟩⟩⟩⟩⟩)), (by (with_reducible repeat (first | apply Kd.V_alloc | apply Kd.V_drewN | apply Kd.V_drew)); exact Kd.V_mono HO_2.out (fun _ hk => ⟨hk.1.1, ⟨hk.1.2.1, ⟨hk.1.2.2.1, ⟨hk.1.2.2.2.1, ⟨hk.2, ⟨hk.1.2.2.2.2.1, hk.1.2.2.2.2.2⟩⟩⟩⟩⟩⟩)), (by (with_reducible repeat (first | refine blk_drewN ?_ _ | refine blk_drew ?_ | refine blk_alloc ?_ _)); exact BK180.out), (by repeat (first | (with_reducible first | exact HB.out | apply below_alloc | apply pw_below_drewN | apply below_drew1 | refine below_set ?_ GE180.out) | exact HB.out))⟩)
                                          · skip
                                            refine Kd.N_lit_step k32 _ 32 ?hg (N' := 82) ?hd (xs := ([(⟨a3_0, l3_1, a3_2, l3_3⟩ : S32)] : List (S32))) (inner := [.bool a3_0, .slice A3_1 l3_1.length c3_1, .bool a3_2, .slice A3_3 l3_3.length c3_3]) (ok := (fun k_ => ((P2_ k_ ∨ P3_1_ k_ ∨ P3_3_ k_) ∨ w.heap.size ≤ k_) ∧ some k_ ≠ (.slice Ao55 y205.length co55 : Value).ownBlock ∧ some k_ ≠ (.slice Ao56 y208.length co56 : Value).ownBlock ∧ some k_ ≠ (.slice Ao61 y215.length co61 : Value).ownBlock ∧ k_ ≠ gb180)) (okp := (fun k_ => ((P2_ k_ ∨ P3_1_ k_ ∨ P3_3_ k_) ∨ w.heap.size ≤ k_) ∧ some k_ ≠ (.slice Ao55 y205.length co55 : Value).ownBlock ∧ some k_ ≠ (.slice Ao56 y208.length co56 : Value).ownBlock ∧ some k_ ≠ (.slice Ao61 y215.length co61 : Value).ownBlock ∧ k_ ≠ gb180)) ?hr ?hp (fun _ hk => hk) ((show ∀ k_, w64.heap.size ≤ k_ → (fun k_ => ((P2_ k_ ∨ P3_1_ k_ ∨ P3_3_ k_) ∨ w.heap.size ≤ k_) ∧ some k_ ≠ (.slice Ao55 y205.length co55 : Value).ownBlock ∧ some k_ ≠ (.slice Ao56 y208.length co56 : Value).ownBlock ∧ some k_ ≠ (.slice Ao61 y215.length co61 : Value).ownBlock ∧ k_ ≠ gb180) k_ from fun k_ hk => ⟨(.inr (Nat.le_trans (below_size (by repeat (first | (with_reducible first | exact HB.out | apply below_alloc | apply pw_below_drewN | apply below_drew1 | refine below_set ?_ GE180.out) | exact HB.out))) hk)), Kd.fresh' (Kd.R_lt (by (with_reducible repeat (first | apply Kd.R_alloc | apply Kd.R_drewN | apply Kd.R_drew)); exact HO207.out)) k_ hk, Kd.fresh' (Kd.R_lt (by (with_reducible repeat (first | apply Kd.R_alloc | apply Kd.R_drewN | apply Kd.R_drew)); exact HO210.out)) k_ hk, Kd.fresh' (Kd.R_lt (by (with_reducible repeat (first | apply Kd.R_alloc | apply Kd.R_drewN | apply Kd.R_drew)); exact HO217.out)) k_ hk, Kd.freshB (g := gb180) (o := .cells #[.bool a3_0, .slice A3_1 l3_1.length c3_1, .bool a3_2, .slice A3_3 l3_3.length c3_3] 32 (0, 0)) (by (with_reducible repeat (first | refine blk_drewN ?_ _ | refine blk_drew ?_ | refine blk_alloc ?_ _)); exact BK180.out) k_ hk⟩) _ (Nat.le_refl _)) (Below.refl _ _) (Nat.le_refl _) (by simp) ?_; (case hd => rfl); (case hg => rfl); (case hr => first | (go_simp; done) | (go_simp; rfl)); (case hp => exact (Reps.c4 (show Kd.FK k32 _ _ (⟨a3_0, l3_1, a3_2, l3_3⟩ : S32) [.bool a3_0, .slice A3_1 l3_1.length c3_1, .bool a3_2, .slice A3_3 l3_3.length c3_3] from (k32_mkF _ _ (⟨a3_0, l3_1, a3_2, l3_3⟩ : S32) (Kd.V_reads' (Kd.V_mono (ok' := (fun k_ => ((P2_ k_ ∨ P3_1_ k_ ∨ P3_3_ k_) ∨ w.heap.size ≤ k_) ∧ some k_ ≠ (.slice Ao55 y205.length co55 : Value).ownBlock ∧ some k_ ≠ (.slice Ao56 y208.length co56 : Value).ownBlock ∧ some k_ ≠ (.slice Ao61 y215.length co61 : Value).ownBlock ∧ k_ ≠ gb180)) (HO_181001.out) (fun k_ hk => ⟨hk.1.1, ⟨hk.1.2.1, ⟨hk.1.2.2.1, ⟨hk.2, hk.1.2.2.2⟩⟩⟩⟩))).2.1 (Kd.V_F (Kd.V_mono (ok' := (fun k_ => ((P2_ k_ ∨ P3_1_ k_ ∨ P3_3_ k_) ∨ w.heap.size ≤ k_) ∧ some k_ ≠ (.slice Ao55 y205.length co55 : Value).ownBlock ∧ some k_ ≠ (.slice Ao56 y208.length co56 : Value).ownBlock ∧ some k_ ≠ (.slice Ao61 y215.length co61 : Value).ownBlock ∧ k_ ≠ gb180)) (HO_181001.out) (fun k_ hk => ⟨hk.1.1, ⟨hk.1.2.1, ⟨hk.1.2.2.1, ⟨hk.2, hk.1.2.2.2⟩⟩⟩⟩))) (Kd.V_reads' (Kd.V_mono (ok' := (fun k_ => ((P2_ k_ ∨ P3_1_ k_ ∨ P3_3_ k_) ∨ w.heap.size ≤ k_) ∧ some k_ ≠ (.slice Ao55 y205.length co55 : Value).ownBlock ∧ some k_ ≠ (.slice Ao56 y208.length co56 : Value).ownBlock ∧ some k_ ≠ (.slice Ao61 y215.length co61 : Value).ownBlock ∧ k_ ≠ gb180)) (HO_181003.out) (fun k_ hk => ⟨hk.1.1, ⟨hk.1.2.1, ⟨hk.1.2.2.1, ⟨hk.2, hk.1.2.2.2⟩⟩⟩⟩))).2.1 (Kd.V_F (Kd.V_mono (ok' := (fun k_ => ((P2_ k_ ∨ P3_1_ k_ ∨ P3_3_ k_) ∨ w.heap.size ≤ k_) ∧ some k_ ≠ (.slice Ao55 y205.length co55 : Value).ownBlock ∧ some k_ ≠ (.slice Ao56 y208.length co56 : Value).ownBlock ∧ some k_ ≠ (.slice Ao61 y215.length co61 : Value).ownBlock ∧ k_ ≠ gb180)) (HO_181003.out) (fun k_ hk => ⟨hk.1.1, ⟨hk.1.2.1, ⟨hk.1.2.2.1, ⟨hk.2, hk.1.2.2.2⟩⟩⟩⟩))))) (Reps.none _ _)))
                                            intro v227 w65 ho66 hb hg_ hnew_
                                            clear hg_ hnew_
                                            (first | rw [← Ny226.out] at ho66 | (simp only [Int.reduceToNat] at ho66; rw [← Ny226.out] at ho66))
                                            have n0_ := Aside0.mk (Kd.V_elder' (by (with_reducible repeat (first | apply Kd.V_alloc | apply Kd.V_drewN | apply Kd.V_drew)); exact HO_2.out) (Kd.N_base ho66) hb)
                                            have n1_ := Aside0.mk (Kd.V_elder' (by (with_reducible repeat (first | apply Kd.V_alloc | apply Kd.V_drewN | apply Kd.V_drew)); exact HO_181001.out) (Kd.N_base ho66) hb)
                                            have n2_ := Aside0.mk (Kd.V_elder' (by (with_reducible repeat (first | apply Kd.V_alloc | apply Kd.V_drewN | apply Kd.V_drew)); exact HO_181003.out) (Kd.N_base ho66) hb)
                                            have n3_ := Aside0.mk (Kd.R_below (by (with_reducible repeat (first | apply Kd.R_alloc | apply Kd.R_drewN | apply Kd.R_drew)); exact HO207.out) hb)
                                            have n4_ := Aside0.mk (Kd.R_below (by (with_reducible repeat (first | apply Kd.R_alloc | apply Kd.R_drewN | apply Kd.R_drew)); exact HO210.out) hb)
                                            have n5_ := Aside0.mk (Kd.R_below (by (with_reducible repeat (first | apply Kd.R_alloc | apply Kd.R_drewN | apply Kd.R_drew)); exact HO217.out) hb)
                                            have n6_ := Aside0.mk (Kd.N_lower ho66 (below_size (by repeat (first | (with_reducible first | exact HB.out | apply below_alloc | apply pw_below_drewN | apply below_drew1 | refine below_set ?_ GE180.out) | exact HB.out))))
                                            have n7_ := Aside0.mk (blk_below (g := gb180) (o := .cells #[.bool a3_0, .slice A3_1 l3_1.length c3_1, .bool a3_2, .slice A3_3 l3_3.length c3_3] 32 (0, 0)) (by (with_reducible repeat (first | refine blk_drewN ?_ _ | refine blk_drew ?_ | refine blk_alloc ?_ _)); exact BK180.out) hb)
                                            have n8_ := Aside0.mk (below_step (by repeat (first | (with_reducible first | exact HB.out | apply below_alloc | apply pw_below_drewN | apply below_drew1 | refine below_set ?_ GE180.out) | exact HB.out)) hb)
                                            clear HO_2
                                            clear HO_181001
                                            clear HO_181003
                                            clear HO207
                                            clear HO210
                                            clear HO217
                                            clear BK180
                                            clear HB
                                            have HO_2 := n0_
                                            have HO_181001 := n1_
                                            have HO_181003 := n2_
                                            have HO207 := n3_
                                            have HO210 := n4_
                                            have HO217 := n5_
                                            have HO228 := n6_
                                            have BK180 := n7_
                                            have HB := n8_
                                            clear n0_ n1_ n2_ n3_ n4_ n5_ n6_ n7_ n8_
                                            clear hb ho66
                                            refine hK.out _ _ ⟨(blk_cell BK180.out 0).trans rfl, (blk_cell BK180.out 1).trans rfl, (blk_cell BK180.out 2).trans rfl, (blk_cell BK180.out 3).trans rfl⟩ (fun hHeld => ?_)
                                            clear hK K
                                            refine norm_ (a' := ?_) ?_ ?_
                                            rotate_left
                                            · show Act.put _ (some 82) _ = _
                                              simp only [Act.put, List.setIfInBounds_toArray, List.set_cons_zero, List.set_cons_succ, i64_w, i32_w]
                                              rfl
                                            refine one_ (i := 0) (N := some 78) #[true, true, false, true, true, false, false, false] rfl rfl (one_of HT_.out (by kernel_rfl)) (by decide) (fun K hK => ?_)
                                            refine Kd.N_lit_step k32 _ 32 ?hg (N' := 78) ?hd (xs := ([] : List (S32))) (inner := []) (ok := (fun k_ => ((P2_ k_ ∨ P3_1_ k_ ∨ P3_3_ k_) ∨ w.heap.size ≤ k_) ∧ some k_ ≠ (.slice Ao55 y205.length co55 : Value).ownBlock ∧ some k_ ≠ (.slice Ao56 y208.length co56 : Value).ownBlock ∧ some k_ ≠ (.slice Ao61 y215.length co61 : Value).ownBlock ∧ some k_ ≠ (v227 : Value).ownBlock ∧ k_ ≠ gb180)) (okp := (fun k_ => ((P2_ k_ ∨ P3_1_ k_ ∨ P3_3_ k_) ∨ w.heap.size ≤ k_) ∧ some k_ ≠ (.slice Ao55 y205.length co55 : Value).ownBlock ∧ some k_ ≠ (.slice Ao56 y208.length co56 : Value).ownBlock ∧ some k_ ≠ (.slice Ao61 y215.length co61 : Value).ownBlock ∧ some k_ ≠ (v227 : Value).ownBlock ∧ k_ ≠ gb180)) ?hr ?hp (fun _ hk => hk) ((show ∀ k_, w65.heap.size ≤ k_ → (fun k_ => ((P2_ k_ ∨ P3_1_ k_ ∨ P3_3_ k_) ∨ w.heap.size ≤ k_) ∧ some k_ ≠ (.slice Ao55 y205.length co55 : Value).ownBlock ∧ some k_ ≠ (.slice Ao56 y208.length co56 : Value).ownBlock ∧ some k_ ≠ (.slice Ao61 y215.length co61 : Value).ownBlock ∧ some k_ ≠ (v227 : Value).ownBlock ∧ k_ ≠ gb180) k_ from fun k_ hk => ⟨(.inr (Nat.le_trans (below_size (by repeat (first | (with_reducible first | exact HB.out | apply below_alloc | apply pw_below_drewN | apply below_drew1 | refine below_set ?_ GE180.out) | exact HB.out))) hk)), Kd.fresh' (Kd.R_lt (by (with_reducible repeat (first | apply Kd.R_alloc | apply Kd.R_drewN | apply Kd.R_drew)); exact HO207.out)) k_ hk, Kd.fresh' (Kd.R_lt (by (with_reducible repeat (first | apply Kd.R_alloc | apply Kd.R_drewN | apply Kd.R_drew)); exact HO210.out)) k_ hk, Kd.fresh' (Kd.R_lt (by (with_reducible repeat (first | apply Kd.R_alloc | apply Kd.R_drewN | apply Kd.R_drew)); exact HO217.out)) k_ hk, Kd.fresh' (Kd.N_lt (by (with_reducible repeat (first | apply Kd.N_alloc | apply Kd.N_drewN | apply Kd.N_drew)); exact HO228.out)) k_ hk, Kd.freshB (g := gb180) (o := .cells #[.bool a3_0, .slice A3_1 l3_1.length c3_1, .bool a3_2, .slice A3_3 l3_3.length c3_3] 32 (0, 0)) (by (with_reducible repeat (first | refine blk_drewN ?_ _ | refine blk_drew ?_ | refine blk_alloc ?_ _)); exact BK180.out) k_ hk⟩) _ (Nat.le_refl _)) (Below.refl _ _) (Nat.le_refl _) (by simp) ?_; (case hd => rfl); (case hg => rfl); (case hr => first | (go_simp; done) | (go_simp; rfl)); (case hp => exact (Reps.none _ _))
                                            intro v221 w67 ho68 hb hg_ hnew_
                                            clear hg_ hnew_
                                            (first | rw [← Ny220.out] at ho68 | (simp only [Int.reduceToNat] at ho68; rw [← Ny220.out] at ho68))
                                            have n0_ := Aside0.mk (Kd.V_elder' (by (with_reducible repeat (first | apply Kd.V_alloc | apply Kd.V_drewN | apply Kd.V_drew)); exact HO_2.out) (Kd.N_base ho68) hb)
                                            have n1_ := Aside0.mk (Kd.V_elder' (by (with_reducible repeat (first | apply Kd.V_alloc | apply Kd.V_drewN | apply Kd.V_drew)); exact HO_181001.out) (Kd.N_base ho68) hb)
                                            have n2_ := Aside0.mk (Kd.V_elder' (by (with_reducible repeat (first | apply Kd.V_alloc | apply Kd.V_drewN | apply Kd.V_drew)); exact HO_181003.out) (Kd.N_base ho68) hb)
                                            have n3_ := Aside0.mk (Kd.R_below (by (with_reducible repeat (first | apply Kd.R_alloc | apply Kd.R_drewN | apply Kd.R_drew)); exact HO207.out) hb)
                                            have n4_ := Aside0.mk (Kd.R_below (by (with_reducible repeat (first | apply Kd.R_alloc | apply Kd.R_drewN | apply Kd.R_drew)); exact HO210.out) hb)
                                            have n5_ := Aside0.mk (Kd.R_below (by (with_reducible repeat (first | apply Kd.R_alloc | apply Kd.R_drewN | apply Kd.R_drew)); exact HO217.out) hb)
                                            have n6_ := Aside0.mk (Kd.N_elder' (by (with_reducible repeat (first | apply Kd.N_alloc | apply Kd.N_drewN | apply Kd.N_drew)); exact HO228.out) (Kd.N_base ho68) hb)
                                            have n7_ := Aside0.mk (Kd.N_lower ho68 (below_size (by repeat (first | (with_reducible first | exact HB.out | apply below_alloc | apply pw_below_drewN | apply below_drew1 | refine below_set ?_ GE180.out) | exact HB.out))))
                                            have n8_ := Aside0.mk (blk_below (g := gb180) (o := .cells #[.bool a3_0, .slice A3_1 l3_1.length c3_1, .bool a3_2, .slice A3_3 l3_3.length c3_3] 32 (0, 0)) (by (with_reducible repeat (first | refine blk_drewN ?_ _ | refine blk_drew ?_ | refine blk_alloc ?_ _)); exact BK180.out) hb)
                                            have n9_ := Aside0.mk (below_step (by repeat (first | (with_reducible first | exact HB.out | apply below_alloc | apply pw_below_drewN | apply below_drew1 | refine below_set ?_ GE180.out) | exact HB.out)) hb)
                                            clear HO_2
                                            clear HO_181001
                                            clear HO_181003
                                            clear HO207
                                            clear HO210
                                            clear HO217
                                            clear HO228
                                            clear BK180
                                            clear HB
                                            have HO_2 := n0_
                                            have HO_181001 := n1_
                                            have HO_181003 := n2_
                                            have HO207 := n3_
                                            have HO210 := n4_
                                            have HO217 := n5_
                                            have HO228 := n6_
                                            have HO222 := n7_
                                            have BK180 := n8_
                                            have HB := n9_
                                            clear n0_ n1_ n2_ n3_ n4_ n5_ n6_ n7_ n8_ n9_
                                            clear hb ho68
                                            refine hK.out _ _ ⟨(blk_cell BK180.out 0).trans rfl, (blk_cell BK180.out 1).trans rfl, (blk_cell BK180.out 2).trans rfl, (blk_cell BK180.out 3).trans rfl⟩ (fun hHeld => ?_)
                                            clear hK K
                                            refine norm_ (a' := ?_) ?_ ?_
                                            rotate_left
                                            · show Act.put _ (some 78) _ = _
                                              simp only [Act.put, List.setIfInBounds_toArray, List.set_cons_zero, List.set_cons_succ, i64_w, i32_w]
                                              rfl
                                            refine one_ (i := 2) (N := some 80) #[true, true, true, true, true, false, false, false] rfl rfl (one_of HT_.out (by kernel_rfl)) (by decide) (fun K hK => ?_)
                                            refine Kd.N_append_rows_step k32 (w0 := w) w.heap.size (by rfl) (.tmp 78) (.tmp 79) 30 32 (.agg #[(.bool false), (.slice none 0 0), (.bool false), (.slice none 0 0)]) 64 rfl Try.underlying30 info32 rfl (by decide) (by omega) v221 y220 l2 _ _ _ (fun k_ => ((P2_ k_ ∨ P3_1_ k_ ∨ P3_3_ k_) ∨ w.heap.size ≤ k_) ∧ some k_ ≠ (.slice Ao55 y205.length co55 : Value).ownBlock ∧ some k_ ≠ (.slice Ao56 y208.length co56 : Value).ownBlock ∧ some k_ ≠ (.slice Ao61 y215.length co61 : Value).ownBlock ∧ some k_ ≠ (v227 : Value).ownBlock ∧ k_ ≠ gb180) (fun k_ => ((fun k_ => ((P2_ k_ ∨ P3_1_ k_ ∨ P3_3_ k_) ∨ w.heap.size ≤ k_) ∧ some k_ ≠ (.slice Ao55 y205.length co55 : Value).ownBlock ∧ some k_ ≠ (.slice Ao56 y208.length co56 : Value).ownBlock ∧ some k_ ≠ (.slice Ao61 y215.length co61 : Value).ownBlock ∧ some k_ ≠ (v227 : Value).ownBlock ∧ k_ ≠ gb180)) k_ ∧ some k_ ≠ (v221 : Value).ownBlock) rfl rfl ?aO ?aR (fun _ hk => hk) ?aF ?aB ?aS ?aL ?_
                                            (case aR => exact (by skip; exact Kd.V_F (Kd.V_mono (ok' := (fun k_ => ((fun k_ => ((P2_ k_ ∨ P3_1_ k_ ∨ P3_3_ k_) ∨ w.heap.size ≤ k_) ∧ some k_ ≠ (.slice Ao55 y205.length co55 : Value).ownBlock ∧ some k_ ≠ (.slice Ao56 y208.length co56 : Value).ownBlock ∧ some k_ ≠ (.slice Ao61 y215.length co61 : Value).ownBlock ∧ some k_ ≠ (v227 : Value).ownBlock ∧ k_ ≠ gb180)) k_ ∧ some k_ ≠ (v221 : Value).ownBlock)) (HO_2.out) (fun k_ hk => ⟨⟨hk.1.1.1.1, ⟨hk.1.1.1.2.1, ⟨hk.1.1.1.2.2.1, ⟨hk.1.1.2, ⟨hk.1.2, hk.1.1.1.2.2.2⟩⟩⟩⟩⟩, hk.2⟩))))
                                            (case aB => exact (by repeat (first | (with_reducible first | exact HB.out | apply below_alloc | apply pw_below_drewN | apply below_drew1 | refine below_set ?_ GE180.out) | exact HB.out)))
                                            (case aF => exact (fun k_ hk => ⟨(.inr (Nat.le_trans (below_size (by repeat (first | (with_reducible first | exact HB.out | apply below_alloc | apply pw_below_drewN | apply below_drew1 | refine below_set ?_ GE180.out) | exact HB.out))) hk)), Kd.fresh' (Kd.R_lt (by (with_reducible repeat (first | apply Kd.R_alloc | apply Kd.R_drewN | apply Kd.R_drew)); exact HO207.out)) k_ hk, Kd.fresh' (Kd.R_lt (by (with_reducible repeat (first | apply Kd.R_alloc | apply Kd.R_drewN | apply Kd.R_drew)); exact HO210.out)) k_ hk, Kd.fresh' (Kd.R_lt (by (with_reducible repeat (first | apply Kd.R_alloc | apply Kd.R_drewN | apply Kd.R_drew)); exact HO217.out)) k_ hk, Kd.fresh' (Kd.N_lt (by (with_reducible repeat (first | apply Kd.N_alloc | apply Kd.N_drewN | apply Kd.N_drew)); exact HO228.out)) k_ hk, Kd.freshB (g := gb180) (o := .cells #[.bool a3_0, .slice A3_1 l3_1.length c3_1, .bool a3_2, .slice A3_3 l3_3.length c3_3] 32 (0, 0)) (by (with_reducible repeat (first | refine blk_drewN ?_ _ | refine blk_drew ?_ | refine blk_alloc ?_ _)); exact BK180.out) k_ hk⟩))
                                            (case aO => exact (by (with_reducible repeat (first | apply Kd.N_alloc | apply Kd.N_drewN | apply Kd.N_drew)); exact HO222.out))
                                            (case aS => exact (below_size (by repeat (first | (with_reducible first | exact HB.out | apply below_alloc | apply pw_below_drewN | apply below_drew1 | refine below_set ?_ GE180.out) | exact HB.out))))
                                            (case aL => have := LMc37.out; omega)
                                            intro v224 w69 ho hb hg hat
                                            rw [← Ny223.out] at ho
                                            have n0_ := Aside0.mk (Kd.V_afterv (ok := (fun k_ => ((P2_ k_ ∨ P3_1_ k_ ∨ P3_3_ k_) ∨ w.heap.size ≤ k_) ∧ some k_ ≠ (.slice Ao55 y205.length co55 : Value).ownBlock ∧ some k_ ≠ (.slice Ao56 y208.length co56 : Value).ownBlock ∧ some k_ ≠ (.slice Ao61 y215.length co61 : Value).ownBlock ∧ some k_ ≠ (v227 : Value).ownBlock ∧ k_ ≠ gb180)) (by (with_reducible repeat (first | apply Kd.V_alloc | apply Kd.V_drewN | apply Kd.V_drew)); exact Kd.V_mono HO_2.out (fun _ hk => ⟨⟨hk.1.1.1.1, ⟨hk.1.1.1.2.1, ⟨hk.1.1.1.2.2.1, ⟨hk.1.1.2, ⟨hk.1.2, hk.1.1.1.2.2.2⟩⟩⟩⟩⟩, hk.2⟩)) hg hat)
                                            have n1_ := Aside0.mk (Kd.V_afterv (ok := (fun k_ => ((P2_ k_ ∨ P3_1_ k_ ∨ P3_3_ k_) ∨ w.heap.size ≤ k_) ∧ some k_ ≠ (.slice Ao55 y205.length co55 : Value).ownBlock ∧ some k_ ≠ (.slice Ao56 y208.length co56 : Value).ownBlock ∧ some k_ ≠ (.slice Ao61 y215.length co61 : Value).ownBlock ∧ some k_ ≠ (v227 : Value).ownBlock ∧ k_ ≠ gb180)) (by (with_reducible repeat (first | apply Kd.V_alloc | apply Kd.V_drewN | apply Kd.V_drew)); exact Kd.V_mono HO_181001.out (fun _ hk => ⟨⟨hk.1.1.1.1, ⟨hk.1.1.1.2.1, ⟨hk.1.1.1.2.2.1, ⟨hk.1.1.2, ⟨hk.1.2, hk.1.1.1.2.2.2⟩⟩⟩⟩⟩, hk.2⟩)) hg hat)
                                            have n2_ := Aside0.mk (Kd.V_afterv (ok := (fun k_ => ((P2_ k_ ∨ P3_1_ k_ ∨ P3_3_ k_) ∨ w.heap.size ≤ k_) ∧ some k_ ≠ (.slice Ao55 y205.length co55 : Value).ownBlock ∧ some k_ ≠ (.slice Ao56 y208.length co56 : Value).ownBlock ∧ some k_ ≠ (.slice Ao61 y215.length co61 : Value).ownBlock ∧ some k_ ≠ (v227 : Value).ownBlock ∧ k_ ≠ gb180)) (by (with_reducible repeat (first | apply Kd.V_alloc | apply Kd.V_drewN | apply Kd.V_drew)); exact Kd.V_mono HO_181003.out (fun _ hk => ⟨⟨hk.1.1.1.1, ⟨hk.1.1.1.2.1, ⟨hk.1.1.1.2.2.1, ⟨hk.1.1.2, ⟨hk.1.2, hk.1.1.1.2.2.2⟩⟩⟩⟩⟩, hk.2⟩)) hg hat)
                                            have n3_ := Aside0.mk (blk_grown (g := gb180) (o := .cells #[.bool a3_0, .slice A3_1 l3_1.length c3_1, .bool a3_2, .slice A3_3 l3_3.length c3_3] 32 (0, 0)) (by (with_reducible repeat (first | refine blk_drewN ?_ _ | refine blk_drew ?_ | refine blk_alloc ?_ _)); exact BK180.out) hg (Kd.N_away HO222.out (fun _ hk => hk.2.2.2.2.2)))
                                            have n4_ := Aside0.mk (Kd.R_over' (by (with_reducible repeat (first | apply Kd.R_alloc | apply Kd.R_drewN | apply Kd.R_drew)); exact HO207.out) (Kd.N_typed (by (with_reducible repeat (first | apply Kd.N_alloc | apply Kd.N_drewN | apply Kd.N_drew)); exact HO222.out)) (by decide) hg)
                                            have n5_ := Aside0.mk (Kd.R_over' (by (with_reducible repeat (first | apply Kd.R_alloc | apply Kd.R_drewN | apply Kd.R_drew)); exact HO210.out) (Kd.N_typed (by (with_reducible repeat (first | apply Kd.N_alloc | apply Kd.N_drewN | apply Kd.N_drew)); exact HO222.out)) (by decide) hg)
                                            have n6_ := Aside0.mk (Kd.R_over' (by (with_reducible repeat (first | apply Kd.R_alloc | apply Kd.R_drewN | apply Kd.R_drew)); exact HO217.out) (Kd.N_typed (by (with_reducible repeat (first | apply Kd.N_alloc | apply Kd.N_drewN | apply Kd.N_drew)); exact HO222.out)) (by decide) hg)
                                            have n7_ := Aside0.mk (Kd.N_afterv (ok := (fun k_ => ((P2_ k_ ∨ P3_1_ k_ ∨ P3_3_ k_) ∨ w.heap.size ≤ k_) ∧ some k_ ≠ (.slice Ao55 y205.length co55 : Value).ownBlock ∧ some k_ ≠ (.slice Ao56 y208.length co56 : Value).ownBlock ∧ some k_ ≠ (.slice Ao61 y215.length co61 : Value).ownBlock ∧ k_ ≠ gb180)) (by (with_reducible repeat (first | apply Kd.N_alloc | apply Kd.N_drewN | apply Kd.N_drew)); exact HO228.out) hg hat)
                                            have n8_ := Aside0.mk (hb)
                                            have n9_ := Aside0.mk (ho)
                                            clear HO_2
                                            clear HO_181001
                                            clear HO_181003
                                            clear BK180
                                            clear HO207
                                            clear HO210
                                            clear HO217
                                            clear HO228
                                            clear HB
                                            clear HO222
                                            have HO_2 := n0_
                                            have HO_181001 := n1_
                                            have HO_181003 := n2_
                                            have BK180 := n3_
                                            have HO207 := n4_
                                            have HO210 := n5_
                                            have HO217 := n6_
                                            have HO228 := n7_
                                            have HB := n8_
                                            have HO225 := n9_
                                            clear n0_ n1_ n2_ n3_ n4_ n5_ n6_ n7_ n8_ n9_
                                            clear ho hb hg hat
                                            refine hK.out _ _ ⟨(blk_cell BK180.out 0).trans rfl, (blk_cell BK180.out 1).trans rfl, (blk_cell BK180.out 2).trans rfl, (blk_cell BK180.out 3).trans rfl⟩ (fun hHeld => ?_)
                                            clear hK K
                                            refine norm_ (a' := ?_) ?_ ?_
                                            rotate_left
                                            · show Act.put _ (some 80) _ = _
                                              simp only [Act.put, List.setIfInBounds_toArray, List.set_cons_zero, List.set_cons_succ, i64_w, i32_w]
                                              rfl
                                            exact norm_ (by simp only [putAll, Act.put, List.setIfInBounds_toArray, List.set_cons_zero, List.set_cons_succ]) (hCont (v221, v224, v227) _ ⟨hHeld, (by (with_reducible repeat (first | apply Kd.R_alloc | apply Kd.R_drewN | apply Kd.R_drew)); exact Kd.R_mono HO207.out (fun _ hk => ⟨hk.1.1, ⟨hk.1.2, hk.2⟩⟩)), (by (with_reducible repeat (first | apply Kd.R_alloc | apply Kd.R_drewN | apply Kd.R_drew)); exact Kd.R_mono HO210.out (fun _ hk => ⟨hk.1.1, ⟨hk.1.2, hk.2⟩⟩)), (by (with_reducible repeat (first | apply Kd.R_alloc | apply Kd.R_drewN | apply Kd.R_drew)); exact HO217.out), (by (with_reducible repeat (first | apply Kd.N_alloc | apply Kd.N_drewN | apply Kd.N_drew)); exact HO225.out), (by (with_reducible repeat (first | apply Kd.N_alloc | apply Kd.N_drewN | apply Kd.N_drew)); exact Kd.N_mono HO228.out (fun _ hk => ⟨hk.1.1, ⟨hk.1.2.1, ⟨hk.1.2.2.1, ⟨hk.1.2.2.2.1, ⟨hk.2, hk.1.2.2.2.2⟩⟩⟩⟩⟩)), (by (with_reducible repeat (first | apply Kd.V_alloc | apply Kd.V_drewN | apply Kd.V_drew)); exact Kd.V_mono HO_181001.out (fun _ hk => ⟨hk.1.1, ⟨hk.1.2.1, ⟨hk.1.2.2.1, ⟨hk.1.2.2.2.1, ⟨hk.2, ⟨hk.1.2.2.2.2.1, hk.1.2.2.2.2.2⟩⟩⟩⟩⟩⟩)), (by (with_reducible repeat (first | apply Kd.V_alloc | apply Kd.V_drewN | apply Kd.V_drew)); exact Kd.V_mono HO_181003.out (fun _ hk => ⟨hk.1.1, ⟨hk.1.2.1, ⟨hk.1.2.2.1, ⟨hk.1.2.2.2.1, ⟨hk.2, ⟨hk.1.2.2.2.2.1, hk.1.2.2.2.2.2⟩⟩⟩⟩⟩⟩)), (by (with_reducible repeat (first | apply Kd.V_alloc | apply Kd.V_drewN | apply Kd.V_drew)); exact Kd.V_mono HO_2.out (fun _ hk => ⟨hk.1.1, ⟨hk.1.2.1, ⟨hk.1.2.2.1, ⟨hk.1.2.2.2.1, ⟨hk.2, ⟨hk.1.2.2.2.2.1, hk.1.2.2.2.2.2⟩⟩⟩⟩⟩⟩)), (by (with_reducible repeat (first | refine blk_drewN ?_ _ | refine blk_drew ?_ | refine blk_alloc ?_ _)); exact BK180.out), (by repeat (first | (with_reducible first | exact HB.out | apply below_alloc | apply pw_below_drewN | apply below_drew1 | refine below_set ?_ GE180.out) | exact HB.out))⟩)
                                        rintro ⟨v221, v224, v227⟩ w70 ⟨hS_, h0_, h1_, h2_, h3_, h4_, h5_, h6_, h7_, h8_, h9_⟩
                                        have n0_ : Aside0 (Kd.R Kd.string 9 w70 w.heap.size (fun k_ => (w.heap.size ≤ k_) ∧ some k_ ≠ (.slice Ao56 y208.length co56 : Value).ownBlock ∧ some k_ ≠ (.slice Ao61 y215.length co61 : Value).ownBlock) (.slice Ao55 y205.length co55) y205) := ⟨h0_⟩
                                        have n1_ : Aside0 (Kd.R Kd.string 9 w70 w.heap.size (fun k_ => (w.heap.size ≤ k_) ∧ some k_ ≠ (.slice Ao55 y205.length co55 : Value).ownBlock ∧ some k_ ≠ (.slice Ao61 y215.length co61 : Value).ownBlock) (.slice Ao56 y208.length co56) y208) := ⟨h1_⟩
                                        have n2_ : Aside0 (Kd.R Kd.string 9 w70 w.heap.size (fun k_ => (w.heap.size ≤ k_) ∧ some k_ ≠ (.slice Ao55 y205.length co55 : Value).ownBlock ∧ some k_ ≠ (.slice Ao56 y208.length co56 : Value).ownBlock) (.slice Ao61 y215.length co61) y215) := ⟨h2_⟩
                                        have n3_ : Aside0 (Kd.N k32 32 w70 w.heap.size (fun k_ => ((P2_ k_ ∨ P3_1_ k_ ∨ P3_3_ k_) ∨ w.heap.size ≤ k_) ∧ some k_ ≠ (.slice Ao55 y205.length co55 : Value).ownBlock ∧ some k_ ≠ (.slice Ao56 y208.length co56 : Value).ownBlock ∧ some k_ ≠ (.slice Ao61 y215.length co61 : Value).ownBlock ∧ some k_ ≠ (v227 : Value).ownBlock ∧ k_ ≠ gb180) v224 y223) := ⟨h3_⟩
                                        have n4_ : Aside0 (Kd.N k32 32 w70 w.heap.size (fun k_ => ((P2_ k_ ∨ P3_1_ k_ ∨ P3_3_ k_) ∨ w.heap.size ≤ k_) ∧ some k_ ≠ (.slice Ao55 y205.length co55 : Value).ownBlock ∧ some k_ ≠ (.slice Ao56 y208.length co56 : Value).ownBlock ∧ some k_ ≠ (.slice Ao61 y215.length co61 : Value).ownBlock ∧ some k_ ≠ (v224 : Value).ownBlock ∧ k_ ≠ gb180) v227 y226) := ⟨h4_⟩
                                        have n5_ : Aside0 (Kd.V Kd.string 9 w70 w.heap.size (fun k_ => ((P2_ k_ ∨ P3_1_ k_ ∨ P3_3_ k_) ∨ w.heap.size ≤ k_) ∧ some k_ ≠ (.slice Ao55 y205.length co55 : Value).ownBlock ∧ some k_ ≠ (.slice Ao56 y208.length co56 : Value).ownBlock ∧ some k_ ≠ (.slice Ao61 y215.length co61 : Value).ownBlock ∧ some k_ ≠ (v224 : Value).ownBlock ∧ some k_ ≠ (v227 : Value).ownBlock ∧ k_ ≠ gb180) (.slice A3_1 l3_1.length c3_1) l3_1) := ⟨h5_⟩
                                        have n6_ : Aside0 (Kd.V Kd.string 9 w70 w.heap.size (fun k_ => ((P2_ k_ ∨ P3_1_ k_ ∨ P3_3_ k_) ∨ w.heap.size ≤ k_) ∧ some k_ ≠ (.slice Ao55 y205.length co55 : Value).ownBlock ∧ some k_ ≠ (.slice Ao56 y208.length co56 : Value).ownBlock ∧ some k_ ≠ (.slice Ao61 y215.length co61 : Value).ownBlock ∧ some k_ ≠ (v224 : Value).ownBlock ∧ some k_ ≠ (v227 : Value).ownBlock ∧ k_ ≠ gb180) (.slice A3_3 l3_3.length c3_3) l3_3) := ⟨h6_⟩
                                        have n7_ : Aside0 (Kd.V k32 32 w70 w.heap.size (fun k_ => ((P2_ k_ ∨ P3_1_ k_ ∨ P3_3_ k_) ∨ w.heap.size ≤ k_) ∧ some k_ ≠ (.slice Ao55 y205.length co55 : Value).ownBlock ∧ some k_ ≠ (.slice Ao56 y208.length co56 : Value).ownBlock ∧ some k_ ≠ (.slice Ao61 y215.length co61 : Value).ownBlock ∧ some k_ ≠ (v224 : Value).ownBlock ∧ some k_ ≠ (v227 : Value).ownBlock ∧ k_ ≠ gb180) (.slice A2 l2.length c2) l2) := ⟨h7_⟩
                                        have n8_ : Aside0 (w70.heap[gb180]? = some (.cells #[.bool a3_0, .slice A3_1 l3_1.length c3_1, .bool a3_2, .slice A3_3 l3_3.length c3_3] 32 (0, 0))) := ⟨h8_⟩
                                        have n9_ : Aside0 (Below w.heap.size w w70) := ⟨h9_⟩
                                        clear HO_2
                                        clear HO_181001
                                        clear HO_181003
                                        clear HO207
                                        clear HO210
                                        clear HO217
                                        clear BK180
                                        clear HB
                                        clear h0_ h1_ h2_ h3_ h4_ h5_ h6_ h7_ h8_ h9_
                                        have HO207 := n0_
                                        have HO210 := n1_
                                        have HO217 := n2_
                                        have HO225 := n3_
                                        have HO228 := n4_
                                        have HO_181001 := n5_
                                        have HO_181003 := n6_
                                        have HO_2 := n7_
                                        have BK180 := n8_
                                        have HB := n9_
                                        clear n0_ n1_ n2_ n3_ n4_ n5_ n6_ n7_ n8_ n9_
                                        have hHeld : w70.cell? ⟨gb180, 0, none⟩ = some (.bool a3_0) ∧ w70.cell? ⟨gb180, 1, none⟩ = some (.slice A3_1 l3_1.length c3_1) ∧ w70.cell? ⟨gb180, 2, none⟩ = some (.bool a3_2) ∧ w70.cell? ⟨gb180, 3, none⟩ = some (.slice A3_3 l3_3.length c3_3) := hS_
                                        obtain ⟨Ao72, co72, eo72⟩ := Kd.N_slice HO228.out
                                        (first | subst eo72 | (injection eo72 with f1_ f2_ f3_; have f4_ := f1_.symm; have f5_ := f3_.symm; clear f1_ f2_ f3_; subst f4_; subst f5_))
                                        refine norm_ (a' := ?_) ?_ ?_
                                        rotate_left
                                        · simp only [putAll, Act.put, List.setIfInBounds_toArray, List.set_cons_zero, List.set_cons_succ]
                                          rfl
                                        refine one_ (i := 5) (N := some 83) #[true, true, true, true, true, true, false, false] rfl rfl (one_of HT_.out (by kernel_rfl)) (by decide) (fun K hK => ?_)
                                        refine Kd.N_append_rows_step k32 (w0 := w) w.heap.size (by rfl) (.tmp 80) (.tmp 82) 30 32 (.agg #[(.bool false), (.slice none 0 0), (.bool false), (.slice none 0 0)]) 64 rfl Try.underlying30 info32 rfl (by decide) (by omega) v224 y223 y226 _ _ _ (fun k_ => ((P2_ k_ ∨ P3_1_ k_ ∨ P3_3_ k_) ∨ w.heap.size ≤ k_) ∧ some k_ ≠ (.slice Ao55 y205.length co55 : Value).ownBlock ∧ some k_ ≠ (.slice Ao56 y208.length co56 : Value).ownBlock ∧ some k_ ≠ (.slice Ao61 y215.length co61 : Value).ownBlock ∧ k_ ≠ gb180) (fun k_ => ((fun k_ => ((P2_ k_ ∨ P3_1_ k_ ∨ P3_3_ k_) ∨ w.heap.size ≤ k_) ∧ some k_ ≠ (.slice Ao55 y205.length co55 : Value).ownBlock ∧ some k_ ≠ (.slice Ao56 y208.length co56 : Value).ownBlock ∧ some k_ ≠ (.slice Ao61 y215.length co61 : Value).ownBlock ∧ k_ ≠ gb180)) k_ ∧ some k_ ≠ (v224 : Value).ownBlock) rfl rfl ?aO ?aR (fun _ hk => hk) ?aF ?aB ?aS ?aL ?_
                                        (case aR => exact (by skip; exact Kd.N_F (Kd.N_mono (ok' := (fun k_ => ((fun k_ => ((P2_ k_ ∨ P3_1_ k_ ∨ P3_3_ k_) ∨ w.heap.size ≤ k_) ∧ some k_ ≠ (.slice Ao55 y205.length co55 : Value).ownBlock ∧ some k_ ≠ (.slice Ao56 y208.length co56 : Value).ownBlock ∧ some k_ ≠ (.slice Ao61 y215.length co61 : Value).ownBlock ∧ k_ ≠ gb180)) k_ ∧ some k_ ≠ (v224 : Value).ownBlock)) (HO228.out) (fun k_ hk => ⟨⟨hk.1, ⟨hk.2.1, ⟨hk.2.2.1, ⟨hk.2.2.2.1, hk.2.2.2.2.2⟩⟩⟩⟩, hk.2.2.2.2.1⟩))))
                                        (case aB => exact (by repeat (first | (with_reducible first | exact HB.out | apply below_alloc | apply pw_below_drewN | apply below_drew1 | refine below_set ?_ GE180.out) | exact HB.out)))
                                        (case aF => exact (fun k_ hk => ⟨(.inr (Nat.le_trans (below_size (by repeat (first | (with_reducible first | exact HB.out | apply below_alloc | apply pw_below_drewN | apply below_drew1 | refine below_set ?_ GE180.out) | exact HB.out))) hk)), Kd.fresh' (Kd.R_lt (by (with_reducible repeat (first | apply Kd.R_alloc | apply Kd.R_drewN | apply Kd.R_drew)); exact HO207.out)) k_ hk, Kd.fresh' (Kd.R_lt (by (with_reducible repeat (first | apply Kd.R_alloc | apply Kd.R_drewN | apply Kd.R_drew)); exact HO210.out)) k_ hk, Kd.fresh' (Kd.R_lt (by (with_reducible repeat (first | apply Kd.R_alloc | apply Kd.R_drewN | apply Kd.R_drew)); exact HO217.out)) k_ hk, Kd.freshB (g := gb180) (o := .cells #[.bool a3_0, .slice A3_1 l3_1.length c3_1, .bool a3_2, .slice A3_3 l3_3.length c3_3] 32 (0, 0)) (by (with_reducible repeat (first | refine blk_drewN ?_ _ | refine blk_drew ?_ | refine blk_alloc ?_ _)); exact BK180.out) k_ hk⟩))
                                        (case aO => exact (by (with_reducible repeat (first | apply Kd.N_alloc | apply Kd.N_drewN | apply Kd.N_drew)); exact Kd.N_mono HO225.out (fun _ hk => ⟨hk.1, ⟨hk.2.1, ⟨hk.2.2.1, ⟨hk.2.2.2.1, hk.2.2.2.2.2⟩⟩⟩⟩)))
                                        (case aS => exact (below_size (by repeat (first | (with_reducible first | exact HB.out | apply below_alloc | apply pw_below_drewN | apply below_drew1 | refine below_set ?_ GE180.out) | exact HB.out))))
                                        (case aL => have := LMc38.out; omega)
                                        intro v230 w71 ho hb hg hat
                                        rw [← Ny229.out] at ho
                                        have n0_ := Aside0.mk (Kd.V_afterv (ok := (fun k_ => ((P2_ k_ ∨ P3_1_ k_ ∨ P3_3_ k_) ∨ w.heap.size ≤ k_) ∧ some k_ ≠ (.slice Ao55 y205.length co55 : Value).ownBlock ∧ some k_ ≠ (.slice Ao56 y208.length co56 : Value).ownBlock ∧ some k_ ≠ (.slice Ao61 y215.length co61 : Value).ownBlock ∧ some k_ ≠ (.slice Ao72 y226.length co72 : Value).ownBlock ∧ k_ ≠ gb180)) (by (with_reducible repeat (first | apply Kd.V_alloc | apply Kd.V_drewN | apply Kd.V_drew)); exact Kd.V_mono HO_2.out (fun _ hk => ⟨⟨hk.1, ⟨hk.2.1, ⟨hk.2.2.1, ⟨hk.2.2.2.1, ⟨hk.2.2.2.2.2.1, hk.2.2.2.2.2.2⟩⟩⟩⟩⟩, hk.2.2.2.2.1⟩)) hg hat)
                                        have n1_ := Aside0.mk (Kd.V_afterv (ok := (fun k_ => ((P2_ k_ ∨ P3_1_ k_ ∨ P3_3_ k_) ∨ w.heap.size ≤ k_) ∧ some k_ ≠ (.slice Ao55 y205.length co55 : Value).ownBlock ∧ some k_ ≠ (.slice Ao56 y208.length co56 : Value).ownBlock ∧ some k_ ≠ (.slice Ao61 y215.length co61 : Value).ownBlock ∧ some k_ ≠ (.slice Ao72 y226.length co72 : Value).ownBlock ∧ k_ ≠ gb180)) (by (with_reducible repeat (first | apply Kd.V_alloc | apply Kd.V_drewN | apply Kd.V_drew)); exact Kd.V_mono HO_181001.out (fun _ hk => ⟨⟨hk.1, ⟨hk.2.1, ⟨hk.2.2.1, ⟨hk.2.2.2.1, ⟨hk.2.2.2.2.2.1, hk.2.2.2.2.2.2⟩⟩⟩⟩⟩, hk.2.2.2.2.1⟩)) hg hat)
                                        have n2_ := Aside0.mk (Kd.V_afterv (ok := (fun k_ => ((P2_ k_ ∨ P3_1_ k_ ∨ P3_3_ k_) ∨ w.heap.size ≤ k_) ∧ some k_ ≠ (.slice Ao55 y205.length co55 : Value).ownBlock ∧ some k_ ≠ (.slice Ao56 y208.length co56 : Value).ownBlock ∧ some k_ ≠ (.slice Ao61 y215.length co61 : Value).ownBlock ∧ some k_ ≠ (.slice Ao72 y226.length co72 : Value).ownBlock ∧ k_ ≠ gb180)) (by (with_reducible repeat (first | apply Kd.V_alloc | apply Kd.V_drewN | apply Kd.V_drew)); exact Kd.V_mono HO_181003.out (fun _ hk => ⟨⟨hk.1, ⟨hk.2.1, ⟨hk.2.2.1, ⟨hk.2.2.2.1, ⟨hk.2.2.2.2.2.1, hk.2.2.2.2.2.2⟩⟩⟩⟩⟩, hk.2.2.2.2.1⟩)) hg hat)
                                        have n3_ := Aside0.mk (blk_grown (g := gb180) (o := .cells #[.bool a3_0, .slice A3_1 l3_1.length c3_1, .bool a3_2, .slice A3_3 l3_3.length c3_3] 32 (0, 0)) (by (with_reducible repeat (first | refine blk_drewN ?_ _ | refine blk_drew ?_ | refine blk_alloc ?_ _)); exact BK180.out) hg (Kd.N_away HO225.out (fun _ hk => hk.2.2.2.2.2)))
                                        have n4_ := Aside0.mk (Kd.R_over' (by (with_reducible repeat (first | apply Kd.R_alloc | apply Kd.R_drewN | apply Kd.R_drew)); exact HO207.out) (Kd.N_typed (by (with_reducible repeat (first | apply Kd.N_alloc | apply Kd.N_drewN | apply Kd.N_drew)); exact HO225.out)) (by decide) hg)
                                        have n5_ := Aside0.mk (Kd.R_over' (by (with_reducible repeat (first | apply Kd.R_alloc | apply Kd.R_drewN | apply Kd.R_drew)); exact HO210.out) (Kd.N_typed (by (with_reducible repeat (first | apply Kd.N_alloc | apply Kd.N_drewN | apply Kd.N_drew)); exact HO225.out)) (by decide) hg)
                                        have n6_ := Aside0.mk (Kd.R_over' (by (with_reducible repeat (first | apply Kd.R_alloc | apply Kd.R_drewN | apply Kd.R_drew)); exact HO217.out) (Kd.N_typed (by (with_reducible repeat (first | apply Kd.N_alloc | apply Kd.N_drewN | apply Kd.N_drew)); exact HO225.out)) (by decide) hg)
                                        have n7_ := Aside0.mk (Kd.N_afterv (ok := (fun k_ => ((P2_ k_ ∨ P3_1_ k_ ∨ P3_3_ k_) ∨ w.heap.size ≤ k_) ∧ some k_ ≠ (.slice Ao55 y205.length co55 : Value).ownBlock ∧ some k_ ≠ (.slice Ao56 y208.length co56 : Value).ownBlock ∧ some k_ ≠ (.slice Ao61 y215.length co61 : Value).ownBlock ∧ k_ ≠ gb180)) (by (with_reducible repeat (first | apply Kd.N_alloc | apply Kd.N_drewN | apply Kd.N_drew)); exact Kd.N_mono HO228.out (fun _ hk => ⟨⟨hk.1, ⟨hk.2.1, ⟨hk.2.2.1, ⟨hk.2.2.2.1, hk.2.2.2.2.2⟩⟩⟩⟩, hk.2.2.2.2.1⟩)) hg hat)
                                        have n8_ := Aside0.mk (hb)
                                        have n9_ := Aside0.mk (ho)
                                        clear HO_2
                                        clear HO_181001
                                        clear HO_181003
                                        clear BK180
                                        clear HO207
                                        clear HO210
                                        clear HO217
                                        clear HO228
                                        clear HB
                                        clear HO225
                                        have HO_2 := n0_
                                        have HO_181001 := n1_
                                        have HO_181003 := n2_
                                        have BK180 := n3_
                                        have HO207 := n4_
                                        have HO210 := n5_
                                        have HO217 := n6_
                                        have HO228 := n7_
                                        have HB := n8_
                                        have HO231 := n9_
                                        clear n0_ n1_ n2_ n3_ n4_ n5_ n6_ n7_ n8_ n9_
                                        clear ho hb hg hat
                                        obtain ⟨Ao73, co73, eo73⟩ := Kd.N_slice HO231.out
                                        (first | subst eo73 | (injection eo73 with f1_ f2_ f3_; have f4_ := f1_.symm; have f5_ := f3_.symm; clear f1_ f2_ f3_; subst f4_; subst f5_))
                                        refine hK.out _ _ ⟨(blk_cell BK180.out 0).trans rfl, (blk_cell BK180.out 1).trans rfl, (blk_cell BK180.out 2).trans rfl, (blk_cell BK180.out 3).trans rfl⟩ (fun hHeld => ?_)
                                        clear hK K
                                        refine norm_ (a' := ?_) ?_ ?_
                                        rotate_left
                                        · show Act.put _ (some 83) _ = _
                                          simp only [Act.put, List.setIfInBounds_toArray, List.set_cons_zero, List.set_cons_succ, i64_w, i32_w]
                                          rfl
                                        refine one_ (i := 6) (N := some 84) #[true, true, true, true, true, true, true, false] rfl rfl (one_of HT_.out (by kernel_rfl)) (by decide) (fun K hK => ?_)
                                        refine goes_ Try.func18 (by kernel_rfl) rfl #[.slice Ao73 y229.length co73] (by rfl) rfl rfl (by (try simp only [List.map_toArray, List.map_cons, List.map_nil]); first | done | rfl | (simp only [List.length_drop, List.length_take]; rfl)) ?_
                                        with_reducible refine (sandbox_All.calls k2 _ _ y229 t232 _ ?side1 ?side2 A39.out).mono ?_
                                        (case side1 => repeat (first | exact (Kd.N_reads' HO231.out).2.2 | (with_reducible refine Kd.C_alloc ?_ _) | (with_reducible refine Kd.C_drewN ?_ _) | (with_reducible refine Kd.C_drew ?_)))
                                        (case side2 => exact (Kd.N_reads' HO231.out).2.1)
                                        rintro e w74 ⟨rfl, hb⟩
                                        refine ⟨_, rfl, ?_⟩
                                        have n0_ := Aside0.mk (Kd.V_below (by (with_reducible repeat (first | apply Kd.V_alloc | apply Kd.V_drewN | apply Kd.V_drew)); exact HO_2.out) hb)
                                        have n1_ := Aside0.mk (Kd.V_below (by (with_reducible repeat (first | apply Kd.V_alloc | apply Kd.V_drewN | apply Kd.V_drew)); exact HO_181001.out) hb)
                                        have n2_ := Aside0.mk (Kd.V_below (by (with_reducible repeat (first | apply Kd.V_alloc | apply Kd.V_drewN | apply Kd.V_drew)); exact HO_181003.out) hb)
                                        have n3_ := Aside0.mk (Kd.R_below (by (with_reducible repeat (first | apply Kd.R_alloc | apply Kd.R_drewN | apply Kd.R_drew)); exact HO207.out) hb)
                                        have n4_ := Aside0.mk (Kd.R_below (by (with_reducible repeat (first | apply Kd.R_alloc | apply Kd.R_drewN | apply Kd.R_drew)); exact HO210.out) hb)
                                        have n5_ := Aside0.mk (Kd.R_below (by (with_reducible repeat (first | apply Kd.R_alloc | apply Kd.R_drewN | apply Kd.R_drew)); exact HO217.out) hb)
                                        have n6_ := Aside0.mk (Kd.N_below (by (with_reducible repeat (first | apply Kd.N_alloc | apply Kd.N_drewN | apply Kd.N_drew)); exact HO228.out) hb)
                                        have n7_ := Aside0.mk (Kd.N_below (by (with_reducible repeat (first | apply Kd.N_alloc | apply Kd.N_drewN | apply Kd.N_drew)); exact HO231.out) hb)
                                        have n8_ := Aside0.mk (blk_below (g := gb180) (o := .cells #[.bool a3_0, .slice A3_1 l3_1.length c3_1, .bool a3_2, .slice A3_3 l3_3.length c3_3] 32 (0, 0)) (by (with_reducible repeat (first | refine blk_drewN ?_ _ | refine blk_drew ?_ | refine blk_alloc ?_ _)); exact BK180.out) hb)
                                        have n9_ := Aside0.mk (below_step (by repeat (first | (with_reducible first | exact HB.out | apply below_alloc | apply pw_below_drewN | apply below_drew1 | refine below_set ?_ GE180.out) | exact HB.out)) hb)
                                        clear HO_2
                                        clear HO_181001
                                        clear HO_181003
                                        clear HO207
                                        clear HO210
                                        clear HO217
                                        clear HO228
                                        clear HO231
                                        clear BK180
                                        clear HB
                                        have HO_2 := n0_
                                        have HO_181001 := n1_
                                        have HO_181003 := n2_
                                        have HO207 := n3_
                                        have HO210 := n4_
                                        have HO217 := n5_
                                        have HO228 := n6_
                                        have HO231 := n7_
                                        have BK180 := n8_
                                        have HB := n9_
                                        clear n0_ n1_ n2_ n3_ n4_ n5_ n6_ n7_ n8_ n9_
                                        (try clear hb)
                                        (try clear hb2)
                                        (try clear hk)
                                        (try clear hi)
                                        refine hK.out _ _ ⟨(blk_cell BK180.out 0).trans rfl, (blk_cell BK180.out 1).trans rfl, (blk_cell BK180.out 2).trans rfl, (blk_cell BK180.out 3).trans rfl⟩ (fun hHeld => ?_)
                                        clear hK K
                                        refine norm_ (a' := ?_) ?_ ?_
                                        rotate_left
                                        · show Act.put _ (some 84) _ = _
                                          simp only [Act.put, List.setIfInBounds_toArray, List.set_cons_zero, List.set_cons_succ, i64_w, i32_w]
                                          rfl
                                        refine pure_ (i := 7) (N := some 18) (v := ?_) (a' := ?_) #[true, true, true, true, true, true, true, true] rfl rfl (any_of HT_.out (by kernel_rfl)) (fun _ _ _ h => h) (Or.inl ⟨by rfl, ?_⟩) ?_ ?_
                                        rotate_left
                                        · intro w'
                                          go_simp
                                          with_reducible rfl
                                        rotate_left
                                        · simp only [Act.put, List.setIfInBounds_toArray, List.set_cons_zero, List.set_cons_succ, i64_w, i32_w]
                                          rfl
                                        refine done_ (done_of HT_.out (by kernel_rfl)) ?_
                                        try go_wp2_with (first | (go_at_call 20; (with_reducible refine (glacisref12_Union.calls k2 t198 t211 t233 _ A41.out).mono ?_); rintro e w' ⟨rfl, ⟨nd, rfl⟩⟩) | (go_at_call 20; (with_reducible refine (glacisref12_Union.calls k2 t219 t232 t234 _ A44.out).mono ?_); rintro e w' ⟨rfl, ⟨nd, rfl⟩⟩))
                                        go_ret
                                        exact ⟨by first | rfl | (simp [errW_none, errW_some] <;> rfl) | (simp [*, errW_none, errW_some] <;> rfl), by repeat (first | (with_reducible first | exact HB.out | apply below_alloc | apply pw_below_drewN | apply below_drew1 | refine below_set ?_ GE180.out) | exact HB.out)⟩
                                      · rw [if_neg c47] at H
                                        exact absurd H (by simp)
                                    · rw [if_neg c46] at H
                                      exact absurd H (by simp)
                                  · rw [if_neg c45] at H
                                    exact absurd H (by simp)
                                · rw [if_neg c43] at H
                                  exact absurd H (by simp)
                              · rw [if_neg c42] at H
                                exact absurd H (by simp)
                            · replace c40 := Bool.eq_false_iff.mpr c40
                              subst c40
                              have H1 : (none) = some r := by rw [if_neg (show ¬ (false = true) by decide)] at H; exact H
                              clear H
                              have H := H1
                              clear H1
                              exact absurd H (by simp)
                          · rw [if_neg c38] at H
                            exact absurd H (by simp)
                        · rw [if_neg c37] at H
                          exact absurd H (by simp)
                      · rw [if_neg c34] at H
                        exact absurd H (by simp)
                    · rw [if_neg c32] at H
                      exact absurd H (by simp)
                  · rw [if_neg c31] at H
                    exact absurd H (by simp)
    · rw [if_neg c7] at H
      exact absurd H (by simp)
  · rw [if_neg c6] at H
    exact absurd H (by simp)

end Go.Proofs.Ytdccplnfnjpfpaa.X
