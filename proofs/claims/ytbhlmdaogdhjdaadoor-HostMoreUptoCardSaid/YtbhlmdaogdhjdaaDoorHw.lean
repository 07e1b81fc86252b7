import Derived.Test.YtbhlmdaogdhjdaaDoorHv
/-! HostNumbers, HostReads. -/
namespace Go.Proofs.YtbhlmdaogdhjdaaDoor.H
open Go.RowKit Go.Shelf Go.Joins Go.Proofs.YtbhlmdaogdhjdaaDoorW.PrintWords Go.Proofs.YtbhlmdaogdhjdaaDoorW.PrintLast Go.Proofs.YtbhlmdaogdhjdaaDoorW.PrintMore
set_option linter.unusedVariables false

theorem text_fold (a : Int) (h0 : 0 ≤ a) (h1 : a ≤ 4294967295) : [octB a 0, octB a 1, octB a 2, octB a 3].foldl numStep (some 0) = some a := by
  simp only [List.foldl_cons, List.foldl_nil, numStep, Option.bind_some, (octB_ok a 0).1, (octB_ok a 1).1, (octB_ok a 2).1, (octB_ok a 3).1, if_true]
  rw [addr_parts a h0 h1]
theorem oct_each (a : Int) : ∀ z ∈ [octB a 0, octB a 1, octB a 2, octB a 3], (numB z).2 = true ∧ z.size ≤ 3 := by
  intro z hz
  simp only [List.mem_cons, List.not_mem_nil, or_false] at hz
  rcases hz with rfl | rfl | rfl | rfl
  all_goals exact ⟨by rw [(octB_ok a _).1], octB_size a _⟩
set_option maxRecDepth 100000 in
set_option maxHeartbeats 2000000 in
theorem numbers_calls (a : Int) (h0 : 0 ≤ a) (h1 : a ≤ 4294967295) (nm : ByteArray) (hnm9 : nm.size ≤ 9223372036854775807) (w : World) (ht : Tab w) :
    Calls Tryd.prog 10 #[.int .u32 a, .string nm] w fun e w' => e = .returned (.bool true) ∧ Below w.heap.size w w' := by
  have HT := Lib.hid ht
  have HA := Lib.hid (awake_calls w ht)
  clear ht
  go_enter Tryd.func10, Tryd.ntmps10
  go_wp2_with fail
  refine HA.out.mono ?_
  rintro e w1 ⟨rfl, hb⟩
  have HB1 := Lib.hid hb
  clear hb HA
  by_cases hn : (1000 : Int) < (nm.size : Int)
  · have hd : decide ((1000 : Int) < (nm.size : Int)) = true := decide_eq_true hn
    go_wp2
    go_ret
    exact ⟨rfl, HB1.out⟩
  · have hd : decide ((1000 : Int) < (nm.size : Int)) = false := decide_eq_false hn
    go_wp2_with fail
    refine (text_addr nm a h0 h1 w1 (HT.out.below HB1.out)).mono ?_
    rintro e w2 ⟨rfl, hb⟩
    have HB2 := Lib.hid (below_then HB1.out HB1.out.size hb)
    have HPS := Lib.hid (parse_calls (textB a) w2 (by have := (text_size a).1; omega))
    rw [lower_text, text_parse a h0 h1] at HPS
    have HSP := Lib.hid (fun (W : World) => split_calls (textB a) 46 W (by have := (text_size a).1; omega))
    rw [split_text] at HSP
    have HF := Lib.hid (text_fold a h0 h1)
    have HE := Lib.hid (oct_each a)
    obtain ⟨zs, hzs⟩ : ∃ zs, zs = [octB a 0, octB a 1, octB a 2, octB a 3] := ⟨_, rfl⟩
    have h4a : zs.length ≤ 4 := by rw [hzs]; simp
    have h4b : 4 ≤ zs.length := by rw [hzs]; simp
    have e1 : ((zs.length : Int) == 4) = true := beq_iff_eq.2 (by omega)
    have e2 : ((zs.length : Int) != 4) = false := by simp only [bne, e1]; rfl
    rw [← hzs] at HSP HF HE
    clear hzs hb HB1
    dsimp only [hostV] at HPS
    obtain ⟨tx, htx⟩ : ∃ x, x = textB a := ⟨_, rfl⟩
    rw [← htx] at HPS HSP ⊢
    clear htx
    go_wp2_with fail
    refine HPS.out.mono ?_
    rintro e w3 ⟨rfl, hb⟩
    have HB3 := Lib.hid (below_then HB2.out HB2.out.size hb)
    clear hb HB2 HPS
    go_wp2_with fail
    refine (HSP.out _).mono ?_
    rintro e w4 ⟨v, rfl, hR, hb⟩
    have HB4 := Lib.hid (below_then (below_alloc HB3.out _) (below_alloc HB3.out _).size hb)
    have hh := blk_after (blk_new w3 (.cells #[.string ⟨#[]⟩, .bool true, .int .u32 a] 25)) hb rfl
    obtain ⟨bv, hbv⟩ : ∃ k, k = w3.heap.size := ⟨_, rfl⟩
    rw [← hbv] at hh ⊢
    obtain ⟨B, cl, rfl⟩ := Kd.R_slice hR
    have hzc : zs.length ≤ cl := formed_le hR
    have HG := Lib.hid (show GSt w B zs w4 from ⟨(Kd.R_reads' hR).2.2, HB4.out⟩)
    have c0 : w4.cell? ⟨bv, 0, none⟩ = some (.string ⟨#[]⟩) := blk_cell hh 0
    have c1 : w4.cell? ⟨bv, 1, none⟩ = some (.bool true) := blk_cell hh 1
    have c2 : w4.cell? ⟨bv, 2, none⟩ = some (.int .u32 a) := blk_cell hh 2
    clear hb hR hh hbv HB4 HSP HB3
    go_wp2_with fail
    go_loopw [10, 11] (fun n i wr => ∃ (k : Nat) (x : Int), k ≤ 4 ∧ i = .int .i64 k ∧ n = .int .u32 x ∧ 0 ≤ x ∧ x ≤ 4294967295 ∧ Hid ((zs.take k).foldl numStep (some 0) = some x) ∧ Hid (GSt w B zs wr)) (fun _ i _ => (4 - intOf i).toNat)
    case atStart => exact ⟨0, 0, by omega, rfl, rfl, by omega, by omega, rfl, HG.out.then (by first | exact Below.refl _ _ | exact (Below.refl _ _).drew)⟩
    case round =>
      clear HG c0 c1 c2
      obtain ⟨k, x, hk, rfl, rfl, hx0, hx1, HX, HG⟩ := hrel
      by_cases hlt : k < 4
      · obtain ⟨ad, e, hcell⟩ := str_at HG.out.c k (by omega)
        subst e
        have hkz : k < zs.length := by omega
        have hzk : zs[k].size ≤ 3 := (HE.out _ (List.getElem_mem _)).2
        have hok : (numB zs[k]).2 = true := (HE.out _ (List.getElem_mem _)).1
        have HNX := Lib.hid (fold_next zs k x hkz HX.out hok)
        obtain ⟨y, hy⟩ : ∃ y, y = zs[k] := ⟨_, rfl⟩
        rw [← hy] at hcell hzk HNX hok
        clear hy
        have hd1 : decide ((k : Int) < 4) = true := decide_eq_true (by omega)
        have hd2 : decide (k < 4) = true := decide_eq_true hlt
        have HOK := Lib.hid hok
        clear hok
        go_wp2_with fail
        refine (number_calls y _ (by omega)).mono ?_
        obtain ⟨hn0, hn1⟩ := numB_bound y
        rw [HOK.out]
        obtain ⟨n, hn⟩ : ∃ n, n = (numB y).1 := ⟨_, rfl⟩
        rw [← hn] at hn0 hn1 HNX ⊢
        clear hn
        rintro e w5 ⟨rfl, hd⟩
        have HG3 := Lib.hid (HG.out.then hd.below)
        clear hd HG hcell HOK
        have hq0 : 0 ≤ x * 256 % 4294967296 := Int.emod_nonneg _ (by decide)
        have hq1 : x * 256 % 4294967296 ≤ 4294967040 := by omega
        go_wp2
        go_roundw
        case rel => exact ⟨k + 1, addrStep x n, by omega, by simp, rfl, by unfold addrStep; omega, by unfold addrStep; omega, HNX.out, HG3.out⟩
        case measure => simp [intOf]; omega
      · obtain rfl : k = 4 := by omega
        have hxa : x = a := by
          have h := HX.out
          rw [List.take_of_length_le h4a, HF.out] at h
          exact (Option.some.inj h).symm
        subst hxa
        go_wp2
        go_ret
        exact ⟨rfl, HG.out.b⟩
set_option maxRecDepth 100000 in
set_option maxHeartbeats 2000000 in
theorem reads_calls (s : ByteArray) (hs : s.size < 8796093022207) (w : World) (ht : Tab w) :
    Calls Tryd.prog 4 #[.string s] w fun e w' => e = .returned (.bool true) ∧ Below w.heap.size w w' := by
  have HA := Lib.hid (awake_calls w ht)
  have HP := Lib.hid (fun W => parse_calls s W hs)
  have HR := Lib.hid (fun W => ref_parse_calls s W hs)
  clear ht
  generalize parseB (lowerB s) = p at HP HR
  dsimp only [hostV] at HP HR
  go_enter Tryd.func4, Tryd.ntmps4
  go_wp2_with fail
  refine HA.out.mono ?_
  rintro e w1 ⟨rfl, hb⟩
  have HB1 := Lib.hid hb
  clear hb HA
  go_wp2_with fail
  refine (HP.out _).mono ?_
  rintro e w2 ⟨rfl, hb⟩
  have HB2 := Lib.hid (below_then HB1.out HB1.out.size hb)
  clear hb HB1 HP
  go_wp2_with fail
  refine (HR.out _).mono ?_
  rintro e w3 ⟨rfl, hb⟩
  have HB3 := Lib.hid (below_alloc (below_then (below_alloc HB2.out _) (below_alloc HB2.out _).size hb) (.cells #[.string p.name, .bool p.v4, .int .u32 p.addr] 25))
  have h2 := blk_alloc (blk_after (blk_new w2 (.cells #[.string p.name, .bool p.v4, .int .u32 p.addr] 25)) hb rfl) (.cells #[.string p.name, .bool p.v4, .int .u32 p.addr] 25)
  obtain ⟨bv, hbv⟩ : ∃ k, k = w2.heap.size := ⟨_, rfl⟩
  rw [← hbv] at h2 ⊢
  have c0 := blk_cell h2 0
  have c1 := blk_cell h2 1
  have c2 := blk_cell h2 2
  clear hb HB2 HR hbv
  go_wp2_with fail
  go_ret
  exact ⟨rfl, HB3.out⟩
end Go.Proofs.YtbhlmdaogdhjdaaDoor.H
