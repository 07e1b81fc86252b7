import Derived.Test.YtbhlmdaogdhjdaaDoorHp
/-! Numbers up to 255 and their texts. -/
namespace Go.Proofs.YtbhlmdaogdhjdaaDoor.H
open Go.RowKit Go.Proofs.YtbhlmdaogdhjdaaDoorW.PrintWords
set_option linter.unusedVariables false

theorem numL_cons (s : ByteArray) (d : Nat) (n c : Int) (hc : bt s ((s.size : Int) - (d + 1)) = c) (r : Int) (h : numL s (d + 1) n = (r, true)) : 48 ≤ c ∧ c ≤ 57 ∧ n ≤ (255 - (c - 48)) / 10 ∧ numL s d (10 * n + (c - 48)) = (r, true) := by
  rw [numL, hc] at h
  split at h
  · cases h
  · rename_i hn
    exact ⟨by omega, by omega, by omega, h⟩
theorem itoa_one : ∀ a : Fin 10, Lib.itoa (a.val : Int) = [UInt8.ofNat (48 + a.val)] := by decide +kernel
theorem itoa_two : ∀ a b : Fin 10, a.val ≠ 0 → Lib.itoa ((10 * a.val + b.val : Nat) : Int) = [UInt8.ofNat (48 + a.val), UInt8.ofNat (48 + b.val)] := by decide +kernel
theorem itoa_three : ∀ a : Fin 3, ∀ b c : Fin 10, a.val ≠ 0 → Lib.itoa ((100 * a.val + 10 * b.val + c.val : Nat) : Int) = [UInt8.ofNat (48 + a.val), UInt8.ofNat (48 + b.val), UInt8.ofNat (48 + c.val)] := by decide +kernel
theorem u8_of (c : UInt8) (k : Nat) (h : (c.toNat : Int) = 48 + k) : c = UInt8.ofNat (48 + k) := by
  have h1 := c.toNat_lt
  exact UInt8.toNat_inj.1 (by rw [UInt8.toNat_ofNat']; omega)
/-- A text that reads as a number up to 255 is this number's text. -/
theorem num_canon (s : ByteArray) (n : Int) (h : numB s = (n, true)) : s.data.toList = Lib.itoa n ∧ 0 ≤ n ∧ n ≤ 255 := by
  have hb := numB_bound s
  rw [h] at hb
  refine ⟨?_, hb⟩
  have hl : s.data.toList.length = s.size := data_length s
  unfold numB at h
  split at h
  · cases h
  · rename_i hz
    have g : ∀ (i : Nat) (hi : i < s.data.toList.length), bt s (i : Int) = ((s.data.toList[i]).toNat : Int) := fun i hi => bt_get s i (by omega)
    match hm : s.data.toList, hl with
    | [], hl => exact absurd (Or.inl (by simpa using hl.symm)) hz
    | [a], hl =>
      rw [hm] at g
      have hs : s.size = 1 := by simpa using hl.symm
      rw [hs] at h
      have e0 := g 0 (by simp)
      obtain ⟨a1, a2, a3, h⟩ := numL_cons s 0 0 (a.toNat : Int) (by rw [hs]; exact e0) n h
      rw [numL] at h
      cases h
      obtain ⟨k, hk⟩ : ∃ k : Nat, (a.toNat : Int) = 48 + k := ⟨a.toNat - 48, by omega⟩
      have := itoa_one ⟨k, by omega⟩
      simp only at this
      rw [show (10 * 0 + ((a.toNat : Int) - 48)) = (k : Int) by omega, this, u8_of a k hk]
    | [a, b], hl =>
      rw [hm] at g
      have hs : s.size = 2 := by simpa using hl.symm
      rw [hs] at h
      have e0 := g 0 (by simp)
      have e1 := g 1 (by simp)
      have hz0 : ¬ (a.toNat : Int) = 48 := fun e => hz (.inr ⟨by rw [show (0 : Int) = ((0 : Nat) : Int) from rfl, e0]; exact e, by omega⟩)
      obtain ⟨a1, a2, a3, h⟩ := numL_cons s 1 0 (a.toNat : Int) (by rw [hs]; exact e0) n h
      obtain ⟨b1, b2, b3, h⟩ := numL_cons s 0 _ (b.toNat : Int) (by rw [hs]; exact e1) n h
      rw [numL] at h
      cases h
      obtain ⟨k, hk⟩ : ∃ k : Nat, (a.toNat : Int) = 48 + k := ⟨a.toNat - 48, by omega⟩
      obtain ⟨l, hl⟩ : ∃ k : Nat, (b.toNat : Int) = 48 + k := ⟨b.toNat - 48, by omega⟩
      have := itoa_two ⟨k, by omega⟩ ⟨l, by omega⟩ (by simp only; omega)
      simp only at this
      rw [show (10 * (10 * 0 + ((a.toNat : Int) - 48)) + ((b.toNat : Int) - 48)) = ((10 * k + l : Nat) : Int) by omega, this, u8_of a k hk, u8_of b l hl]
    | [a, b, c], hl =>
      rw [hm] at g
      have hs : s.size = 3 := by simpa using hl.symm
      rw [hs] at h
      have e0 := g 0 (by simp)
      have e1 := g 1 (by simp)
      have e2 := g 2 (by simp)
      have hz0 : ¬ (a.toNat : Int) = 48 := fun e => hz (.inr ⟨by rw [show (0 : Int) = ((0 : Nat) : Int) from rfl, e0]; exact e, by omega⟩)
      obtain ⟨a1, a2, a3, h⟩ := numL_cons s 2 0 (a.toNat : Int) (by rw [hs]; exact e0) n h
      obtain ⟨b1, b2, b3, h⟩ := numL_cons s 1 _ (b.toNat : Int) (by rw [hs]; exact e1) n h
      obtain ⟨c1, c2, c3, h⟩ := numL_cons s 0 _ (c.toNat : Int) (by rw [hs]; exact e2) n h
      rw [numL] at h
      cases h
      obtain ⟨k, hk⟩ : ∃ k : Nat, (a.toNat : Int) = 48 + k := ⟨a.toNat - 48, by omega⟩
      obtain ⟨l, hl⟩ : ∃ k : Nat, (b.toNat : Int) = 48 + k := ⟨b.toNat - 48, by omega⟩
      obtain ⟨m, hm'⟩ : ∃ k : Nat, (c.toNat : Int) = 48 + k := ⟨c.toNat - 48, by omega⟩
      have := itoa_three ⟨k, by omega⟩ ⟨l, by omega⟩ ⟨m, by omega⟩ (by simp only; omega)
      simp only at this
      rw [show (10 * (10 * (10 * 0 + ((a.toNat : Int) - 48)) + ((b.toNat : Int) - 48)) + ((c.toNat : Int) - 48)) = ((100 * k + 10 * l + m : Nat) : Int) by omega, this, u8_of a k hk, u8_of b l hl, u8_of c m hm']
    | a :: b :: c :: d :: r, hl =>
      exfalso
      rw [hm] at g
      obtain ⟨q, hq⟩ : ∃ q, s.size = q + 4 := ⟨r.length, by simpa using hl.symm⟩
      rw [hq] at h
      have e0 := g 0 (by simp)
      have e1 := g 1 (by simp)
      have e2 := g 2 (by simp)
      have e3 := g 3 (by simp)
      have hz0 : ¬ (a.toNat : Int) = 48 := fun e => hz (.inr ⟨by rw [show (0 : Int) = ((0 : Nat) : Int) from rfl, e0]; exact e, by omega⟩)
      obtain ⟨a1, a2, a3, h⟩ := numL_cons s (q + 3) 0 (a.toNat : Int) (by rw [hq, show (((q + 4 : Nat) : Int) - (((q + 3 : Nat) : Int) + 1)) = ((0 : Nat) : Int) by omega]; exact e0) n h
      obtain ⟨b1, b2, b3, h⟩ := numL_cons s (q + 2) _ (b.toNat : Int) (by rw [hq, show (((q + 4 : Nat) : Int) - (((q + 2 : Nat) : Int) + 1)) = ((1 : Nat) : Int) by omega]; exact e1) n h
      obtain ⟨c1, c2, c3, h⟩ := numL_cons s (q + 1) _ (c.toNat : Int) (by rw [hq, show (((q + 4 : Nat) : Int) - (((q + 1 : Nat) : Int) + 1)) = ((2 : Nat) : Int) by omega]; exact e2) n h
      obtain ⟨d1, d2, d3, h⟩ := numL_cons s q _ (d.toNat : Int) (by rw [hq, show (((q + 4 : Nat) : Int) - ((q : Int) + 1)) = ((3 : Nat) : Int) by omega]; exact e3) n h
      omega
theorem itoa_ok : ∀ n : Fin 256, numB ⟨(Lib.itoa (n.val : Int)).toArray⟩ = ((n.val : Int), true) ∧ labelB ⟨(Lib.itoa (n.val : Int)).toArray⟩ = true ∧ fitsB digitB ⟨(Lib.itoa (n.val : Int)).toArray⟩ = true ∧ (46 : UInt8) ∉ Lib.itoa (n.val : Int) ∧ lowerB ⟨(Lib.itoa (n.val : Int)).toArray⟩ = ⟨(Lib.itoa (n.val : Int)).toArray⟩ := by decide +kernel
end Go.Proofs.YtbhlmdaogdhjdaaDoor.H
