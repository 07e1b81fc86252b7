import Derived.Test.YtbhlmdaogdhjdaaDoorHi
import Derived.KernelRfl
/-! awake; HostNames. -/
namespace Go.Proofs.YtbhlmdaogdhjdaaDoor.H
open Go.RowKit Go.Shelf Go.Joins Go.Proofs.YtbhlmdaogdhjdaaDoorW.PrintWords Go.Proofs.YtbhlmdaogdhjdaaDoorW.PrintLast Go.Proofs.YtbhlmdaogdhjdaaDoorW.PrintMore
attribute [local go_sem] max2_int min2_int max_two min_two

theorem p1 : parseB (lowerB ⟨#[65, 46, 69, 120, 97, 109, 112, 108, 101]⟩) = ⟨⟨#[97, 46, 101, 120, 97, 109, 112, 108, 101]⟩, false, 0, 0⟩ := by kernel_rfl
theorem p2 : parseB (lowerB ⟨#[49, 46, 50, 46, 51, 46, 52]⟩) = ⟨⟨#[]⟩, true, 16909060, 0⟩ := by kernel_rfl
theorem p3 : parseB (lowerB ⟨#[97, 46, 46, 98]⟩) = bad := by kernel_rfl
theorem t1 : textB 16909060 = ⟨#[49, 46, 50, 46, 51, 46, 52]⟩ := by kernel_rfl
theorem s1 : siteB ⟨#[97, 46, 98, 46, 99, 111, 46, 117, 107]⟩ [⟨#[99, 111, 46, 117, 107]⟩, ⟨#[117, 107]⟩] = ⟨#[98, 46, 99, 111, 46, 117, 107]⟩ := by kernel_rfl
theorem str_lit (W : World) (l : List ByteArray) (hl : l.length ≤ 1000000) : Kd.C Kd.string (W.alloc (.cells (l.map Value.string).toArray 9)) (some ⟨W.heap.size, 0, none⟩) l.length l := by
  refine ⟨rfl, by omega, fun _ => ⟨_, rfl, fun j p hj => ⟨[.string p], rfl, rfl, fun i u hu => ?_⟩⟩⟩
  have hb := blk_new W (.cells (l.map Value.string).toArray 9)
  have hi : i = 0 := by
    have := (List.getElem?_eq_some_iff.1 hu).1
    simpa using this
  subst hi
  have hu2 : u = .string p := by simpa using hu.symm
  subst hu2
  have ha : (⟨W.heap.size, 0, none⟩ : Addr).add (j * Kd.string.sz + 0) = ⟨W.heap.size, j, none⟩ := by
    show (⟨W.heap.size, 0, none⟩ : Addr).add (j * 1 + 0) = _
    simp only [Addr.add]; split <;> simp_all
  rw [ha, blk_cell hb j]
  simp [hj]
set_option maxRecDepth 100000 in
set_option maxHeartbeats 4000000 in
theorem awake_calls (w : World) (ht : Tab w) : Calls Tryd.prog 11 #[] w fun e w' => e = .returned (.bool true) ∧ Below w.heap.size w w' := by
  have HT := Lib.hid ht
  clear ht
  go_enter Tryd.func11, Tryd.ntmps11
  go_wp2_with fail
  refine (parse_calls _ _ (by decide)).mono ?_
  rintro e w1 ⟨rfl, hb⟩
  rw [p1]
  dsimp only [hostV, bad]
  have HB1 := Lib.hid hb
  clear hb
  go_wp2_with fail
  refine (parse_calls _ _ (by decide)).mono ?_
  rintro e w2 ⟨rfl, hb⟩
  rw [p2]
  dsimp only [hostV, bad]
  have HB2 := Lib.hid (below_then (below_alloc HB1.out _) (below_alloc HB1.out _).size hb)
  have HH2 := Lib.hid (blk_after (blk_new w1 _) hb rfl)
  obtain ⟨bh, hbh⟩ : ∃ k, k = w1.heap.size := ⟨_, rfl⟩
  rw [← hbh] at HH2 ⊢
  clear hb HB1 hbh w1
  go_wp2_with fail
  refine (parse_calls _ _ (by decide)).mono ?_
  rintro e w3 ⟨rfl, hb⟩
  rw [p3]
  dsimp only [hostV, bad]
  have HB3 := Lib.hid (below_then (below_alloc HB2.out _) (below_alloc HB2.out _).size hb)
  have hh3 := blk_after (blk_alloc HH2.out _) hb rfl
  have hv3 := blk_after (blk_new w2 _) hb rfl
  obtain ⟨bv, hbv⟩ : ∃ k, k = w2.heap.size := ⟨_, rfl⟩
  rw [← hbv] at hv3 ⊢
  have hh4 := blk_alloc hh3 (.cells #[.string ⟨#[]⟩, .bool false, .int .u32 0] 25)
  have hv4 := blk_alloc hv3 (.cells #[.string ⟨#[]⟩, .bool false, .int .u32 0] 25)
  have ch : (w3.alloc (.cells #[.string ⟨#[]⟩, .bool false, .int .u32 0] 25)).cell? ⟨bh, 0, none⟩ = some (.string ⟨#[97, 46, 101, 120, 97, 109, 112, 108, 101]⟩) := blk_cell hh4 0
  have cv0 : (w3.alloc (.cells #[.string ⟨#[]⟩, .bool false, .int .u32 0] 25)).cell? ⟨bv, 0, none⟩ = some (.string ⟨#[]⟩) := blk_cell hv4 0
  have cv1 : (w3.alloc (.cells #[.string ⟨#[]⟩, .bool false, .int .u32 0] 25)).cell? ⟨bv, 1, none⟩ = some (.bool true) := blk_cell hv4 1
  have cv2 : (w3.alloc (.cells #[.string ⟨#[]⟩, .bool false, .int .u32 0] 25)).cell? ⟨bv, 2, none⟩ = some (.int .u32 16909060) := blk_cell hv4 2
  have HB4 := Lib.hid (below_alloc HB3.out (.cells #[.string ⟨#[]⟩, .bool false, .int .u32 0] 25))
  clear hb HB2 HH2 hbv hh3 hv3 hh4 hv4 w2 HB3
  go_wp2_with fail
  refine (text_addr _ _ (by omega) (by omega) _ (HT.out.below HB4.out)).mono ?_
  rintro e w5 ⟨rfl, hb⟩
  rw [t1]
  have HB5 := Lib.hid (below_then HB4.out HB4.out.size hb)
  clear hb HB4 ch cv0 cv1 cv2
  go_wp2_with fail
  refine (site_name ⟨#[97, 46, 98, 46, 99, 111, 46, 117, 107]⟩ 0 (by decide) (some ⟨w5.heap.size, 0, none⟩) 2 [⟨#[99, 111, 46, 117, 107]⟩, ⟨#[117, 107]⟩] _ (str_lit w5 [⟨#[99, 111, 46, 117, 107]⟩, ⟨#[117, 107]⟩] (by decide)) (by decide)).mono ?_
  rintro e w6 ⟨rfl, hb⟩
  rw [s1]
  have HB6 := Lib.hid (below_then (below_alloc HB5.out _) (below_alloc HB5.out _).size hb)
  clear hb HB5
  go_wp2
  go_ret
  exact ⟨rfl, HB6.out⟩
theorem names_calls (w : World) (ht : Tab w) : Calls Tryd.prog 3 #[] w fun e w' => e = .returned (.bool true) ∧ Below w.heap.size w w' := by
  have HA := Lib.hid (awake_calls w ht)
  go_enter Tryd.func3, Tryd.ntmps3
  go_wp2_with (go_at_call 11; refine HA.out.mono ?_; rintro e w1 ⟨rfl, hb⟩; have HB := Lib.hid hb; clear hb)
  go_ret
  exact ⟨rfl, HB.out⟩
end Go.Proofs.YtbhlmdaogdhjdaaDoor.H
