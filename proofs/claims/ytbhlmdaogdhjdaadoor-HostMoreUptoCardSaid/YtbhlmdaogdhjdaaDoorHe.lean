import Derived.Test.YtbhlmdaogdhjdaaDoorYa
import Derived.Test.YtbhlmdaogdhjdaaDoorHc
/-! Numbers up to 255. -/
namespace Go.Proofs.YtbhlmdaogdhjdaaDoor.H
open Go.RowKit Go.Proofs.YtbhlmdaogdhjdaaDoorW.PrintWords Go.Proofs.YtbhlmdaogdhjdaaDoor.Y

/-- The last d bytes' number, behind n; or none. -/
def numL (s : ByteArray) : Nat → Int → Int × Bool
  | 0, n => (n, true)
  | d + 1, n => if bt s ((s.size : Int) - (d + 1)) < 48 ∨ bt s ((s.size : Int) - (d + 1)) > 57 ∨ n > (255 - (bt s ((s.size : Int) - (d + 1)) - 48)) / 10 then (0, false) else numL s d (10 * n + (bt s ((s.size : Int) - (d + 1)) - 48))
def numB (s : ByteArray) : Int × Bool := if s.size = 0 ∨ (bt s 0 = 48 ∧ 1 < s.size) then (0, false) else numL s s.size 0
theorem octet_l0 (s : ByteArray) (hs : s.size ≤ 9223372036854775806) : ∀ (d k : Nat) (n : Int), d ≤ s.size → d < k → 0 ≤ n → n ≤ 255 → octet_Number.l0 k s 255 n (s.size : Int) ((s.size : Int) - d) = some (numL s d n) := by
  intro d
  induction d with
  | zero =>
    intro k n hd hk h0 h1
    obtain ⟨k, rfl⟩ : ∃ m, k = m + 1 := ⟨k - 1, by omega⟩
    simp only [octet_Number.l0, numL]
    rw [if_neg (by omega)]
  | succ d ih =>
    intro k n hd hk h0 h1
    obtain ⟨k, rfl⟩ : ∃ m, k = m + 1 := ⟨k - 1, by omega⟩
    have hb := bt_range s ((s.size : Int) - (d + 1))
    simp only [octet_Number.l0, numL]
    have hcast : ((d + 1 : Nat) : Int) = (d : Int) + 1 := by omega
    rw [hcast]
    generalize hc : bt s ((s.size : Int) - (d + 1)) = c at *
    have w1 : wrap64 (wrap64 c - 48) = c - 48 := by unfold wrap64; omega
    have w2 : wrap64 ((s.size : Int) - (d + 1) + 1) = (s.size : Int) - d := by unfold wrap64; omega
    rw [if_pos (by omega), if_pos (by omega), if_pos (by omega), w1, w2]
    by_cases a1 : c - 48 < 0
    · rw [if_pos a1, if_pos (.inl (by omega))]
    · rw [if_neg a1]
      by_cases a2 : c - 48 > 9
      · rw [if_pos a2, if_pos (.inr (.inl (by omega)))]
      · rw [if_neg a2, if_neg (by omega)]
        have w3 : wrap64 (255 - (c - 48)) = 255 - (c - 48) := by unfold wrap64; omega
        have w4 : wrap64 (Int.tdiv (255 - (c - 48)) 10) = (255 - (c - 48)) / 10 := by
          rw [Int.tdiv_eq_ediv_of_nonneg (by omega)]; unfold wrap64; omega
        rw [w3, w4]
        by_cases a3 : n > (255 - (c - 48)) / 10
        · rw [if_pos a3, if_pos (.inr (.inr a3))]
        · have w5 : wrap64 (wrap64 (10 * n) + (c - 48)) = 10 * n + (c - 48) := by unfold wrap64; omega
          rw [if_neg a3, if_neg (by omega), w5]
          exact ih k _ (by omega) (by omega) (by omega) (by omega)
theorem ref_l0 (s : ByteArray) (hs : s.size ≤ 9223372036854775806) : ∀ (d k : Nat) (n : Int), d ≤ s.size → d < k → 0 ≤ n → n ≤ 255 → glacisref01_Number.l0 k s 255 n ((s.size : Int) - d) = some (numL s d n) := by
  intro d
  induction d with
  | zero =>
    intro k n hd hk h0 h1
    obtain ⟨k, rfl⟩ : ∃ m, k = m + 1 := ⟨k - 1, by omega⟩
    simp only [glacisref01_Number.l0, numL]
    rw [if_neg (by omega)]
  | succ d ih =>
    intro k n hd hk h0 h1
    obtain ⟨k, rfl⟩ : ∃ m, k = m + 1 := ⟨k - 1, by omega⟩
    have hb := bt_range s ((s.size : Int) - (d + 1))
    simp only [glacisref01_Number.l0, numL]
    have hcast : ((d + 1 : Nat) : Int) = (d : Int) + 1 := by omega
    rw [hcast]
    generalize hc : bt s ((s.size : Int) - (d + 1)) = c at *
    have w2 : wrap64 ((s.size : Int) - (d + 1) + 1) = (s.size : Int) - d := by unfold wrap64; omega
    rw [if_pos (by omega), if_pos (by omega), w2]
    unfold glacisref01_Digit.f
    by_cases a1 : c < 48
    · rw [if_neg (show ¬ c ≥ 48 by omega), if_pos (show c < 48 ∨ c > 57 ∨ n > (255 - (c - 48)) / 10 from .inl a1)]; rfl
    · rw [if_pos (show c ≥ 48 by omega)]
      by_cases a2 : c > 57
      · rw [decide_eq_false (show ¬ c ≤ 57 by omega), if_pos (show c < 48 ∨ c > 57 ∨ n > (255 - (c - 48)) / 10 from .inr (.inl a2))]; rfl
      · rw [decide_eq_true (show c ≤ 57 by omega)]
        simp only [Option.bind_some, if_true]
        have w0 : (c - 48) % 256 = c - 48 := by omega
        rw [w0]
        have w3 : wrap64 (255 - (c - 48)) = 255 - (c - 48) := by unfold wrap64; omega
        have w4 : wrap64 (Int.tdiv (255 - (c - 48)) 10) = (255 - (c - 48)) / 10 := by
          rw [Int.tdiv_eq_ediv_of_nonneg (by omega)]; unfold wrap64; omega
        rw [w3, w4]
        by_cases a3 : n > (255 - (c - 48)) / 10
        · rw [if_pos a3, if_pos (.inr (.inr a3))]
        · have w5 : wrap64 (wrap64 (10 * n) + (c - 48)) = 10 * n + (c - 48) := by unfold wrap64; omega
          rw [if_neg a3, if_neg (by omega), if_neg (by omega), w5]
          exact ih k _ (by omega) (by omega) (by omega) (by omega)
theorem toL_nil (s : ByteArray) : (s.toList = ([] : List UInt8)) ↔ s.size = 0 := by
  rw [ByteArray.toList_eq, ← data_length s]
  exact ⟨fun h => by rw [h]; rfl, fun h => List.eq_nil_of_length_eq_zero h⟩
theorem toL_zero (s : ByteArray) (h : s.toList = ([48] : List UInt8)) : s.size = 1 := by
  rw [ByteArray.toList_eq] at h
  rw [← data_length s, h]; rfl
theorem bt_first (s : ByteArray) (h1 : s.size = 1) (h : bt s 0 = 48) : s.toList = ([48] : List UInt8) := by
  rw [ByteArray.toList_eq]
  have hl : s.data.toList.length = 1 := by rw [data_length]; exact h1
  match hm : s.data.toList, hl with
  | [x], _ =>
    have : bt s 0 = (x.toNat : Int) := by
      rw [← rd_bytesOf]
      simp [rd, bytesOf, hm]
    rw [h] at this
    have h2 : x = 48 := UInt8.toNat_inj.1 (by have : x.toNat = 48 := by omega
                                              exact this)
    rw [h2]
theorem octet_number (s : ByteArray) (hs : s.size ≤ 9223372036854775806) : octet_Number.f (s.size + 2) s 255 = some (numB s) := by
  unfold octet_Number.f numB
  have hl := octet_l0 s hs s.size (s.size + 1) 0 (Nat.le_refl _) (by omega) (by omega) (by omega)
  rw [Int.sub_self] at hl
  by_cases h0 : s.toList = ([] : List UInt8)
  · rw [if_pos h0, if_pos (.inl ((toL_nil s).1 h0))]; rfl
  · rw [if_neg h0]
    have hz : s.size ≠ 0 := fun h => h0 ((toL_nil s).2 h)
    by_cases h1 : s.toList = ([48] : List UInt8)
    · have := toL_zero s h1
      rw [if_pos h1, if_neg (by omega)]
      exact hl
    · rw [if_neg h1, if_pos (by omega)]
      by_cases h2 : bt s 0 = 48
      · have h3 : 1 < s.size := by
          rcases Nat.lt_or_ge 1 s.size with h | h
          · exact h
          · exact absurd (bt_first s (by omega) h2) h1
        rw [if_pos h2, if_pos (.inr ⟨h2, h3⟩)]; rfl
      · rw [if_neg h2, if_neg (by omega)]
        exact hl
theorem ref_number (s : ByteArray) (hs : s.size ≤ 9223372036854775806) : glacisref01_Number.f (s.size + 2) s 255 = some (numB s) := by
  unfold glacisref01_Number.f numB
  have hl := ref_l0 s hs s.size (s.size + 1) 0 (Nat.le_refl _) (by omega) (by omega) (by omega)
  rw [Int.sub_self] at hl
  by_cases h0 : s.toList = ([] : List UInt8)
  · rw [if_pos h0, if_pos (.inl ((toL_nil s).1 h0))]; rfl
  · rw [if_neg h0, if_neg (by omega)]
    have hz : s.size ≠ 0 := fun h => h0 ((toL_nil s).2 h)
    rw [if_pos (by omega)]
    by_cases h2 : bt s 0 = 48
    · rw [if_pos h2]
      by_cases h3 : 1 < s.size
      · rw [if_pos (.inr ⟨h2, h3⟩), decide_eq_true (by omega)]; rfl
      · rw [if_neg (by omega), decide_eq_false (by omega)]
        exact hl
    · rw [if_neg h2, if_neg (by omega)]
      exact hl
theorem number_calls (s : ByteArray) (w : World) (hs : s.size ≤ 9223372036854775806) : Calls Tryd.prog 20 #[.string s, .int .i64 255] w fun e w' => e = .returned (.tuple #[.int .i64 (numB s).1, .bool (numB s).2]) ∧ Drawn0 w w' :=
  octet_Number.calls (s.size + 2) s 255 _ _ w (octet_number s hs)
theorem numL_bound (s : ByteArray) : ∀ (d : Nat) (n : Int), 0 ≤ n → n ≤ 255 → 0 ≤ (numL s d n).1 ∧ (numL s d n).1 ≤ 255 := by
  intro d
  induction d with
  | zero => intro n h0 h1; exact ⟨h0, h1⟩
  | succ d ih =>
    intro n h0 h1
    unfold numL
    split
    · exact ⟨by decide, by decide⟩
    · rename_i h
      have hb := bt_range s ((s.size : Int) - (d + 1))
      exact ih _ (by omega) (by omega)
theorem numB_bound (s : ByteArray) : 0 ≤ (numB s).1 ∧ (numB s).1 ≤ 255 := by
  unfold numB
  split
  · exact ⟨by decide, by decide⟩
  · exact numL_bound s _ 0 (by decide) (by decide)
end Go.Proofs.YtbhlmdaogdhjdaaDoor.H
