import Derived.Test.YtbhlmdaogdhjdaaDoorHg
/-! The reference's Text. -/
namespace Go.Proofs.YtbhlmdaogdhjdaaDoor.H
open Go.RowKit Go.Shelf Go.Joins Go.Proofs.YtbhlmdaogdhjdaaDoorW.PrintWords
set_option linter.unusedVariables false

set_option maxRecDepth 100000 in
set_option maxHeartbeats 2000000 in
theorem ref_text_name (nm : ByteArray) (a : Int) (w : World) : Calls Tryd.prog 15 #[.agg #[.string nm, .bool false, .int .u32 a]] w fun e w' => e = .returned (.string nm) ∧ Below w.heap.size w w' := by
  go_enter Tryd.func15, Tryd.ntmps15
  go_wp2
  go_ret
  exact ⟨rfl, below_alloc (Below.refl _ _) _⟩
theorem and64 (x : Int) (h0 : 0 ≤ x) (h1 : x < 4294967296) : Go.bits .and .i64 x 255 = x % 256 :=
  bits_mask .i64 63 (by decide) (fun n h0 h1 => by rw [IntKind.wrap_i64]; omega) 8 (by decide) x h0 (by omega)
/-- What is written behind k numbers. -/
def accB (a : Int) : Nat → ByteArray
  | 0 => ⟨#[]⟩
  | k + 1 => (if 0 < k then accB a k ++ ⟨#[46]⟩ else accB a k) ++ octB a k
theorem octB_size (a : Int) (k : Nat) : (octB a k).size ≤ 3 := by
  have := octB_len a k
  rwa [data_length] at this
theorem accB_size (a : Int) : ∀ k, (accB a k).size ≤ 4 * k
  | 0 => Nat.le_refl _
  | k + 1 => by
    have ih := accB_size a k
    have h := octB_size a k
    unfold accB
    split
    · simp only [ByteArray.size_append]
      have : (⟨#[46]⟩ : ByteArray).size = 1 := rfl
      omega
    · simp only [ByteArray.size_append]
      omega
structure RSt (w : World) (a : Int) (nm : ByteArray) (bh : Nat) (wr : World) : Prop where
  h : wr.heap[bh]? = some (.cells #[.string nm, .bool true, .int .u32 a] 25 (0, 0))
  b : Below w.heap.size w wr
set_option maxRecDepth 100000 in
set_option maxHeartbeats 2000000 in
theorem ref_text_addr (nm : ByteArray) (a : Int) (h0 : 0 ≤ a) (h1 : a ≤ 4294967295) (w : World) (ht : Tab w) : Calls Tryd.prog 15 #[.agg #[.string nm, .bool true, .int .u32 a]] w fun e w' => e = .returned (.string (accB a 4)) ∧ Below w.heap.size w w' := by
  have HT := Lib.hid ht
  have HST := Lib.hid (show RSt w a nm w.heap.size (w.alloc (.cells #[.string nm, .bool true, .int .u32 a] 25)) from ⟨blk_new w _, below_alloc (Below.refl _ _) _⟩)
  clear ht
  go_enter Tryd.func15, Tryd.ntmps15
  go_wp2_with fail
  obtain ⟨bh, hbh⟩ : ∃ k, k = w.heap.size := ⟨_, rfl⟩
  rw [← hbh] at HST ⊢
  clear hbh
  go_loopw [3, 4] (fun o i wr => ∃ k : Nat, k ≤ 4 ∧ i = .int .i64 k ∧ o = .string (accB a k) ∧ Hid (RSt w a nm bh wr)) (fun _ i _ => (4 - intOf i).toNat)
  case atStart => exact ⟨0, by omega, rfl, rfl, HST.out⟩
  case round =>
    clear HST
    obtain ⟨k, hk, rfl, rfl, HS⟩ := hrel
    have c2 : wr.cell? ⟨bh, 2, none⟩ = some (.int .u32 a) := blk_cell HS.out.h 2
    obtain ⟨acc, hacc⟩ : ∃ x, x = accB a k := ⟨_, rfl⟩
    have hacs : acc.size ≤ 4 * k := by rw [hacc]; exact accB_size a k
    rw [← hacc]
    have HACC := Lib.hid hacc
    clear hacc
    rcases (show k = 0 ∨ k = 1 ∨ k = 2 ∨ k = 3 ∨ k = 4 by omega) with rfl | rfl | rfl | rfl | rfl
    · go_wp2_with fail
      have harg : Go.bits .and .i64 (a / 16777216) 255 = a / 2 ^ (24 - 8 * 0) % 256 := by rw [and64 _ (by omega) (by omega)]; simp
      rw [harg]
      obtain ⟨n, hn⟩ : ∃ n, n = a / 2 ^ (24 - 8 * 0) % 256 := ⟨_, rfl⟩
      have hn0 : 0 ≤ n := by rw [hn]; exact Int.emod_nonneg _ (by decide)
      have hn1 : n ≤ 255 := by rw [hn]; have := Int.emod_lt_of_pos (a / 2 ^ (24 - 8 * 0)) (show (0 : Int) < 256 by decide); omega
      rw [← hn]
      have HN := Lib.hid hn
      clear hn harg
      refine (itoa_calls n hn0 hn1 wr (HT.out.below HS.out.b)).mono ?_
      rintro e w2 ⟨rfl, hb⟩
      obtain ⟨tx, htx⟩ : ∃ x : ByteArray, x = ⟨(Lib.itoa n).toArray⟩ := ⟨_, rfl⟩
      have htxs : tx.size ≤ 3 := by
        rw [htx, HN.out]
        exact octB_size a _
      rw [← htx]
      have HTX := Lib.hid htx
      clear htx
      have HS2 := Lib.hid (show RSt w a nm bh w2 from ⟨blk_after HS.out.h hb rfl, below_then HS.out.b HS.out.b.size hb⟩)
      clear hb HS c2
      go_wp2
      go_roundw
      case rel => exact ⟨0 + 1, by omega, by simp, by rw [accB, ← HACC.out, HTX.out, HN.out]; rfl, HS2.out⟩
      case measure => simp [intOf]
    · go_wp2_with fail
      have harg : Go.bits .and .i64 (a / 65536) 255 = a / 2 ^ (24 - 8 * 1) % 256 := by rw [and64 _ (by omega) (by omega)]; simp
      rw [harg]
      obtain ⟨n, hn⟩ : ∃ n, n = a / 2 ^ (24 - 8 * 1) % 256 := ⟨_, rfl⟩
      have hn0 : 0 ≤ n := by rw [hn]; exact Int.emod_nonneg _ (by decide)
      have hn1 : n ≤ 255 := by rw [hn]; have := Int.emod_lt_of_pos (a / 2 ^ (24 - 8 * 1)) (show (0 : Int) < 256 by decide); omega
      rw [← hn]
      have HN := Lib.hid hn
      clear hn harg
      refine (itoa_calls n hn0 hn1 wr (HT.out.below HS.out.b)).mono ?_
      rintro e w2 ⟨rfl, hb⟩
      obtain ⟨tx, htx⟩ : ∃ x : ByteArray, x = ⟨(Lib.itoa n).toArray⟩ := ⟨_, rfl⟩
      have htxs : tx.size ≤ 3 := by
        rw [htx, HN.out]
        exact octB_size a _
      rw [← htx]
      have HTX := Lib.hid htx
      clear htx
      have HS2 := Lib.hid (show RSt w a nm bh w2 from ⟨blk_after HS.out.h hb rfl, below_then HS.out.b HS.out.b.size hb⟩)
      clear hb HS c2
      go_wp2
      go_roundw
      case rel => exact ⟨1 + 1, by omega, by simp, by rw [accB, ← HACC.out, HTX.out, HN.out]; rfl, HS2.out⟩
      case measure => simp [intOf]
    · go_wp2_with fail
      have harg : Go.bits .and .i64 (a / 256) 255 = a / 2 ^ (24 - 8 * 2) % 256 := by rw [and64 _ (by omega) (by omega)]; simp
      rw [harg]
      obtain ⟨n, hn⟩ : ∃ n, n = a / 2 ^ (24 - 8 * 2) % 256 := ⟨_, rfl⟩
      have hn0 : 0 ≤ n := by rw [hn]; exact Int.emod_nonneg _ (by decide)
      have hn1 : n ≤ 255 := by rw [hn]; have := Int.emod_lt_of_pos (a / 2 ^ (24 - 8 * 2)) (show (0 : Int) < 256 by decide); omega
      rw [← hn]
      have HN := Lib.hid hn
      clear hn harg
      refine (itoa_calls n hn0 hn1 wr (HT.out.below HS.out.b)).mono ?_
      rintro e w2 ⟨rfl, hb⟩
      obtain ⟨tx, htx⟩ : ∃ x : ByteArray, x = ⟨(Lib.itoa n).toArray⟩ := ⟨_, rfl⟩
      have htxs : tx.size ≤ 3 := by
        rw [htx, HN.out]
        exact octB_size a _
      rw [← htx]
      have HTX := Lib.hid htx
      clear htx
      have HS2 := Lib.hid (show RSt w a nm bh w2 from ⟨blk_after HS.out.h hb rfl, below_then HS.out.b HS.out.b.size hb⟩)
      clear hb HS c2
      go_wp2
      go_roundw
      case rel => exact ⟨2 + 1, by omega, by simp, by rw [accB, ← HACC.out, HTX.out, HN.out]; rfl, HS2.out⟩
      case measure => simp [intOf]
    · go_wp2_with fail
      have harg : Go.bits .and .i64 (a) 255 = a / 2 ^ (24 - 8 * 3) % 256 := by rw [and64 _ (by omega) (by omega)]; simp
      rw [harg]
      obtain ⟨n, hn⟩ : ∃ n, n = a / 2 ^ (24 - 8 * 3) % 256 := ⟨_, rfl⟩
      have hn0 : 0 ≤ n := by rw [hn]; exact Int.emod_nonneg _ (by decide)
      have hn1 : n ≤ 255 := by rw [hn]; have := Int.emod_lt_of_pos (a / 2 ^ (24 - 8 * 3)) (show (0 : Int) < 256 by decide); omega
      rw [← hn]
      have HN := Lib.hid hn
      clear hn harg
      refine (itoa_calls n hn0 hn1 wr (HT.out.below HS.out.b)).mono ?_
      rintro e w2 ⟨rfl, hb⟩
      obtain ⟨tx, htx⟩ : ∃ x : ByteArray, x = ⟨(Lib.itoa n).toArray⟩ := ⟨_, rfl⟩
      have htxs : tx.size ≤ 3 := by
        rw [htx, HN.out]
        exact octB_size a _
      rw [← htx]
      have HTX := Lib.hid htx
      clear htx
      have HS2 := Lib.hid (show RSt w a nm bh w2 from ⟨blk_after HS.out.h hb rfl, below_then HS.out.b HS.out.b.size hb⟩)
      clear hb HS c2
      go_wp2
      go_roundw
      case rel => exact ⟨3 + 1, by omega, by simp, by rw [accB, ← HACC.out, HTX.out, HN.out]; rfl, HS2.out⟩
      case measure => simp [intOf]
    · go_wp2_with fail
      go_ret
      exact ⟨by rw [HACC.out]; rfl, HS.out.b⟩
end Go.Proofs.YtbhlmdaogdhjdaaDoor.H
