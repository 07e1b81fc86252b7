import Derived.Test.YtbhlmdaogdhjdaaDoorHd
import Derived.Test.YtbhlmdaogdhjdaaDoorShelf
import Derived.Lib.SmallJoins
import Derived.Lib.VarintBits
/-! host.Text. -/
namespace Go.Proofs.YtbhlmdaogdhjdaaDoor.H
open Go.RowKit Go.Shelf Go.Joins Go.Proofs.YtbhlmdaogdhjdaaDoorW.PrintWords

def Tab (w : World) : Prop := Lib.TabIs Tryd.prog w "internal/strconv.uint64pow10" .u64 Lib.pow10Tab
theorem tab_glob : Tryd.prog.globalNamed "internal/strconv.uint64pow10" = some 0 := by kernel_rfl
theorem Tab.below {w w1 : World} (h : Tab w) (hb : Below w.heap.size w w1) : Tab w1 := tab_stays tab_glob h hb (Nat.le_refl _)
def octB (a : Int) (k : Nat) : ByteArray := ⟨(Lib.itoa (a / 2 ^ (24 - 8 * k) % 256)).toArray⟩
def textB (a : Int) : ByteArray := ⟨(Lib.join ([octB a 0, octB a 1, octB a 2, octB a 3].map (·.data.toList)) [46]).toArray⟩
theorem and_wrap (x : Int) (h0 : 0 ≤ x) (h1 : x < 4294967296) : wrap64 (Go.bits .and .u32 x 255) = x % 256 := by
  have h : Go.bits .and .u32 x 255 = x % 256 := bits_mask .u32 32 (by decide) wraps_u32 8 (by decide) x h0 h1
  rw [h]; unfold wrap64; omega
theorem itoa_calls (n : Int) (h0 : 0 ≤ n) (h1 : n ≤ 255) (w : World) (ht : Tab w) : Calls Tryd.prog 30 #[.int .i64 n] w fun e w' => e = .returned (.string ⟨(Lib.itoa n).toArray⟩) ∧ Below w.heap.size w w' := by
  refine (Tryd.strconv_Itoa n (by omega) (by omega) w ht).mono ?_
  rintro e w' ⟨rfl, k, os, rfl⟩
  refine ⟨rfl, ⟨rfl, rfl, rfl, ?_, fun i hi => ?_⟩⟩
  · show w.heap.size ≤ (w.heap ++ os).size
    rw [Array.size_append]; omega
  · show (w.heap ++ os)[i]? = w.heap[i]?
    rw [Array.getElem?_append_left hi]
/-- The j-th number's text, where k are laid. -/
def octU (a : Int) (k j : Nat) : ByteArray := if j < k then octB a j else ⟨#[]⟩
structure FSt (w : World) (a : Int) (nm : ByteArray) (bh bf k : Nat) (wr : World) : Prop where
  h : wr.heap[bh]? = some (.cells #[.string nm, .bool true, .int .u32 a] 25 (0, 0))
  f : wr.heap[bf]? = some (.cells #[.string (octU a k 0), .string (octU a k 1), .string (octU a k 2), .string (octU a k 3)] 47 (0, 0))
  b : Below w.heap.size w wr
theorem itoa_len : ∀ n : Fin 256, (Lib.itoa (n.val : Int)).length ≤ 3 := by decide +kernel
theorem octB_len (a : Int) (k : Nat) : (octB a k).data.toList.length ≤ 3 := by
  have h0 : 0 ≤ a / 2 ^ (24 - 8 * k) % 256 := Int.emod_nonneg _ (by decide)
  have h1 := Int.emod_lt_of_pos (a / 2 ^ (24 - 8 * k)) (show (0 : Int) < 256 by decide)
  have h := itoa_len ⟨(a / 2 ^ (24 - 8 * k) % 256).toNat, by omega⟩
  simp only [Int.toNat_of_nonneg h0] at h
  exact h
theorem join_small (a : Int) : (Lib.join ([octB a 0, octB a 1, octB a 2, octB a 3].map (·.data.toList)) (⟨#[46]⟩ : ByteArray).data.toList).length ≤ 140737488355328 := by
  have h0 := octB_len a 0
  have h1 := octB_len a 1
  have h2 := octB_len a 2
  have h3 := octB_len a 3
  simp [Lib.join]
  simp at h0 h1 h2 h3
  omega
set_option maxRecDepth 100000 in
set_option maxHeartbeats 2000000 in
theorem text_name (nm : ByteArray) (a : Int) (w : World) : Calls Tryd.prog 14 #[.agg #[.string nm, .bool false, .int .u32 a]] w fun e w' => e = .returned (.string nm) ∧ Below w.heap.size w w' := by
  go_enter Tryd.func14, Tryd.ntmps14
  go_wp2
  go_ret
  exact ⟨rfl, below_alloc (Below.refl _ _) _⟩
set_option maxRecDepth 100000 in
set_option maxHeartbeats 2000000 in
theorem text_addr (nm : ByteArray) (a : Int) (h0 : 0 ≤ a) (h1 : a ≤ 4294967295) (w : World) (ht : Tab w) : Calls Tryd.prog 14 #[.agg #[.string nm, .bool true, .int .u32 a]] w fun e w' => e = .returned (.string (textB a)) ∧ Below w.heap.size w w' := by
  have HT := Lib.hid ht
  have hst : FSt w a nm w.heap.size (w.heap.size + 1) 0 ((w.alloc (.cells #[.string nm, .bool true, .int .u32 a] 25)).alloc (.cells #[.string ⟨#[]⟩, .string ⟨#[]⟩, .string ⟨#[]⟩, .string ⟨#[]⟩] 47)) := by
    refine ⟨blk_alloc (blk_new w _) _, ?_, below_alloc (below_alloc (Below.refl _ _) _) _⟩
    have := blk_new (w.alloc (.cells #[.string nm, .bool true, .int .u32 a] 25)) (.cells #[.string ⟨#[]⟩, .string ⟨#[]⟩, .string ⟨#[]⟩, .string ⟨#[]⟩] 47)
    rw [show (w.alloc (.cells #[.string nm, .bool true, .int .u32 a] 25)).heap.size = w.heap.size + 1 by simp] at this
    exact this
  have HST := Lib.hid hst
  clear ht hst
  go_enter Tryd.func14, Tryd.ntmps14
  go_wp2_with fail
  obtain ⟨bh, hbh⟩ : ∃ k, k = w.heap.size := ⟨_, rfl⟩
  obtain ⟨bf, hbf⟩ : ∃ k, k = w.heap.size + 1 := ⟨_, rfl⟩
  rw [← hbf, ← hbh] at HST
  rw [← hbf, ← hbh]
  have hne : bh ≠ bf := by omega
  have hb1 : w.heap.size ≤ bh := by omega
  have hb2 : w.heap.size ≤ bf := by omega
  clear hbh hbf
  go_loopw [10] (fun i wr => ∃ k : Nat, k ≤ 4 ∧ i = .int .i64 k ∧ Hid (FSt w a nm bh bf k wr)) (fun i _ => (4 - intOf i).toNat)
  case atStart => exact ⟨0, by omega, rfl, HST.out⟩
  case round =>
    clear HST
    obtain ⟨k, hk, rfl, HS⟩ := hrel
    have c2 : wr.cell? ⟨bh, 2, none⟩ = some (.int .u32 a) := blk_cell HS.out.h 2
    have f0 := blk_frozen HS.out.f 0
    have f1 := blk_frozen HS.out.f 1
    have f2 := blk_frozen HS.out.f 2
    have f3 := blk_frozen HS.out.f 3
    have d0 : wr.cell? ⟨bf, 0, none⟩ = some (.string (octU a k 0)) := blk_cell HS.out.f 0
    have d1 : wr.cell? ⟨bf, 1, none⟩ = some (.string (octU a k 1)) := blk_cell HS.out.f 1
    have d2 : wr.cell? ⟨bf, 2, none⟩ = some (.string (octU a k 2)) := blk_cell HS.out.f 2
    have d3 : wr.cell? ⟨bf, 3, none⟩ = some (.string (octU a k 3)) := blk_cell HS.out.f 3
    rcases (show k = 0 ∨ k = 1 ∨ k = 2 ∨ k = 3 ∨ k = 4 by omega) with rfl | rfl | rfl | rfl | rfl
    · go_wp2_with fail
      have harg : wrap64 (Go.bits .and .u32 (a / 16777216) 255) = a / 2 ^ (24 - 8 * 0) % 256 := by rw [and_wrap _ (by omega) (by omega)]; simp
      rw [harg]
      obtain ⟨n, hn⟩ : ∃ n, n = a / 2 ^ (24 - 8 * 0) % 256 := ⟨_, rfl⟩
      have hn0 : 0 ≤ n := by rw [hn]; exact Int.emod_nonneg _ (by decide)
      have hn1 : n ≤ 255 := by rw [hn]; have := Int.emod_lt_of_pos (a / 2 ^ (24 - 8 * 0)) (show (0 : Int) < 256 by decide); omega
      rw [← hn]
      have HN := Lib.hid hn
      clear hn harg
      refine (itoa_calls n hn0 hn1 wr (HT.out.below HS.out.b)).mono ?_
      rintro e w2 ⟨rfl, hb⟩
      have hF := blk_after HS.out.f hb rfl
      have dk : w2.cell? ⟨bf, 0, none⟩ = some (.string (octU a 0 0)) := blk_cell hF 0
      have fk := blk_frozen hF 0
      have HS2 := Lib.hid (show FSt w a nm bh bf (0 + 1) (w2.setCell ⟨bf, 0, none⟩ (.string ⟨(Lib.itoa n).toArray⟩)) from by
        rw [HN.out]
        exact ⟨blk_far (p := ⟨bf, 0, none⟩) (blk_after HS.out.h hb rfl) hne _, blk_set hF 0 _, (below_then HS.out.b HS.out.b.size hb).setCell (p := ⟨bf, 0, none⟩) hb2 _⟩)
      clear hF hb HS c2 f0 f1 f2 f3 d0 d1 d2 d3
      go_wp2
      go_roundw
      case rel => exact ⟨0 + 1, by omega, by simp, HS2.out⟩
      case measure => simp [intOf]
    · go_wp2_with fail
      have harg : wrap64 (Go.bits .and .u32 (a / 65536) 255) = a / 2 ^ (24 - 8 * 1) % 256 := by rw [and_wrap _ (by omega) (by omega)]; simp
      rw [harg]
      obtain ⟨n, hn⟩ : ∃ n, n = a / 2 ^ (24 - 8 * 1) % 256 := ⟨_, rfl⟩
      have hn0 : 0 ≤ n := by rw [hn]; exact Int.emod_nonneg _ (by decide)
      have hn1 : n ≤ 255 := by rw [hn]; have := Int.emod_lt_of_pos (a / 2 ^ (24 - 8 * 1)) (show (0 : Int) < 256 by decide); omega
      rw [← hn]
      have HN := Lib.hid hn
      clear hn harg
      refine (itoa_calls n hn0 hn1 wr (HT.out.below HS.out.b)).mono ?_
      rintro e w2 ⟨rfl, hb⟩
      have hF := blk_after HS.out.f hb rfl
      have dk : w2.cell? ⟨bf, 1, none⟩ = some (.string (octU a 1 1)) := blk_cell hF 1
      have fk := blk_frozen hF 1
      have HS2 := Lib.hid (show FSt w a nm bh bf (1 + 1) (w2.setCell ⟨bf, 1, none⟩ (.string ⟨(Lib.itoa n).toArray⟩)) from by
        rw [HN.out]
        exact ⟨blk_far (p := ⟨bf, 1, none⟩) (blk_after HS.out.h hb rfl) hne _, blk_set hF 1 _, (below_then HS.out.b HS.out.b.size hb).setCell (p := ⟨bf, 1, none⟩) hb2 _⟩)
      clear hF hb HS c2 f0 f1 f2 f3 d0 d1 d2 d3
      go_wp2
      go_roundw
      case rel => exact ⟨1 + 1, by omega, by simp, HS2.out⟩
      case measure => simp [intOf]
    · go_wp2_with fail
      have harg : wrap64 (Go.bits .and .u32 (a / 256) 255) = a / 2 ^ (24 - 8 * 2) % 256 := by rw [and_wrap _ (by omega) (by omega)]; simp
      rw [harg]
      obtain ⟨n, hn⟩ : ∃ n, n = a / 2 ^ (24 - 8 * 2) % 256 := ⟨_, rfl⟩
      have hn0 : 0 ≤ n := by rw [hn]; exact Int.emod_nonneg _ (by decide)
      have hn1 : n ≤ 255 := by rw [hn]; have := Int.emod_lt_of_pos (a / 2 ^ (24 - 8 * 2)) (show (0 : Int) < 256 by decide); omega
      rw [← hn]
      have HN := Lib.hid hn
      clear hn harg
      refine (itoa_calls n hn0 hn1 wr (HT.out.below HS.out.b)).mono ?_
      rintro e w2 ⟨rfl, hb⟩
      have hF := blk_after HS.out.f hb rfl
      have dk : w2.cell? ⟨bf, 2, none⟩ = some (.string (octU a 2 2)) := blk_cell hF 2
      have fk := blk_frozen hF 2
      have HS2 := Lib.hid (show FSt w a nm bh bf (2 + 1) (w2.setCell ⟨bf, 2, none⟩ (.string ⟨(Lib.itoa n).toArray⟩)) from by
        rw [HN.out]
        exact ⟨blk_far (p := ⟨bf, 2, none⟩) (blk_after HS.out.h hb rfl) hne _, blk_set hF 2 _, (below_then HS.out.b HS.out.b.size hb).setCell (p := ⟨bf, 2, none⟩) hb2 _⟩)
      clear hF hb HS c2 f0 f1 f2 f3 d0 d1 d2 d3
      go_wp2
      go_roundw
      case rel => exact ⟨2 + 1, by omega, by simp, HS2.out⟩
      case measure => simp [intOf]
    · go_wp2_with fail
      have harg : wrap64 (Go.bits .and .u32 (a) 255) = a / 2 ^ (24 - 8 * 3) % 256 := by rw [and_wrap _ (by omega) (by omega)]; simp
      rw [harg]
      obtain ⟨n, hn⟩ : ∃ n, n = a / 2 ^ (24 - 8 * 3) % 256 := ⟨_, rfl⟩
      have hn0 : 0 ≤ n := by rw [hn]; exact Int.emod_nonneg _ (by decide)
      have hn1 : n ≤ 255 := by rw [hn]; have := Int.emod_lt_of_pos (a / 2 ^ (24 - 8 * 3)) (show (0 : Int) < 256 by decide); omega
      rw [← hn]
      have HN := Lib.hid hn
      clear hn harg
      refine (itoa_calls n hn0 hn1 wr (HT.out.below HS.out.b)).mono ?_
      rintro e w2 ⟨rfl, hb⟩
      have hF := blk_after HS.out.f hb rfl
      have dk : w2.cell? ⟨bf, 3, none⟩ = some (.string (octU a 3 3)) := blk_cell hF 3
      have fk := blk_frozen hF 3
      have HS2 := Lib.hid (show FSt w a nm bh bf (3 + 1) (w2.setCell ⟨bf, 3, none⟩ (.string ⟨(Lib.itoa n).toArray⟩)) from by
        rw [HN.out]
        exact ⟨blk_far (p := ⟨bf, 3, none⟩) (blk_after HS.out.h hb rfl) hne _, blk_set hF 3 _, (below_then HS.out.b HS.out.b.size hb).setCell (p := ⟨bf, 3, none⟩) hb2 _⟩)
      clear hF hb HS c2 f0 f1 f2 f3 d0 d1 d2 d3
      go_wp2
      go_roundw
      case rel => exact ⟨3 + 1, by omega, by simp, HS2.out⟩
      case measure => simp [intOf]
    · have HD0 := Lib.hid d0
      have HD1 := Lib.hid d1
      have HD2 := Lib.hid d2
      have HD3 := Lib.hid d3
      clear c2 f0 f1 f2 f3 d0 d1 d2 d3
      go_wp2_with fail
      have hj := Tryd.strings_Join bf 0 4 [octB a 0, octB a 1, octB a 2, octB a 3] ⟨#[46]⟩ wr (fun j x hx => by
        match j, hx with
        | 0, hx => cases hx; exact HD0.out
        | 1, hx => cases hx; exact HD1.out
        | 2, hx => cases hx; exact HD2.out
        | 3, hx => cases hx; exact HD3.out
        | j + 4, hx => simp at hx) (blk_lt HS.out.f) (by simp) (by simp) (join_small a)
      refine hj.mono ?_
      rintro e w2 ⟨rfl, hb⟩
      have HB2 := Lib.hid (below_then HS.out.b HS.out.b.size hb)
      clear hb hj
      go_wp2
      go_ret
      exact ⟨rfl, HB2.out⟩
end Go.Proofs.YtbhlmdaogdhjdaaDoor.H
