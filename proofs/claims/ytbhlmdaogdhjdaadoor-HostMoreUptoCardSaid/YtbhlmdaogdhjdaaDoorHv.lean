import Derived.Test.YtbhlmdaogdhjdaaDoorHu
/-! HostTells. -/
namespace Go.Proofs.YtbhlmdaogdhjdaaDoor.H
open Go.RowKit Go.Shelf Go.Joins Go.Proofs.YtbhlmdaogdhjdaaDoorW.PrintWords Go.Proofs.YtbhlmdaogdhjdaaDoorW.PrintLast Go.Proofs.YtbhlmdaogdhjdaaDoorW.PrintMore
set_option linter.unusedVariables false

def textV (nm : ByteArray) (v4 : Bool) (a : Int) : ByteArray := if v4 = true then textB a else nm
def siteV (nm : ByteArray) (v4 : Bool) (a : Int) (sfx : List ByteArray) : ByteArray := if v4 = true then textB a else siteB nm sfx
theorem text_any (nm : ByteArray) (v4 : Bool) (a : Int) (h0 : 0 ≤ a) (h1 : a ≤ 4294967295) (w : World) (ht : Tab w) : Calls Tryd.prog 14 #[.agg #[.string nm, .bool v4, .int .u32 a]] w fun e w' => e = .returned (.string (textV nm v4 a)) ∧ Below w.heap.size w w' := by
  cases v4
  · exact text_name nm a w
  · exact text_addr nm a h0 h1 w ht
theorem ref_text_any (nm : ByteArray) (v4 : Bool) (a : Int) (h0 : 0 ≤ a) (h1 : a ≤ 4294967295) (w : World) (ht : Tab w) : Calls Tryd.prog 15 #[.agg #[.string nm, .bool v4, .int .u32 a]] w fun e w' => e = .returned (.string (textV nm v4 a)) ∧ Below w.heap.size w w' := by
  cases v4
  · exact ref_text_name nm a w
  · have h := ref_text_addr nm a h0 h1 w ht
    rw [acc_text] at h
    exact h
set_option maxRecDepth 100000 in
set_option maxHeartbeats 2000000 in
theorem ref_site_addr (nm : ByteArray) (a : Int) (h0 : 0 ≤ a) (h1 : a ≤ 4294967295) (A : Option Addr) (n c : Nat) (w : World) (ht : Tab w) : Calls Tryd.prog 17 #[.agg #[.string nm, .bool true, .int .u32 a], .slice A n c] w fun e w' => e = .returned (.string (textB a)) ∧ Below w.heap.size w w' := by
  have h := ref_text_addr nm a h0 h1 (w.alloc (.cells #[.string nm, .bool true, .int .u32 a] 25)) (ht.below (below_alloc (Below.refl _ _) _))
  rw [acc_text] at h
  have HT := Lib.hid h
  clear ht h
  go_enter Tryd.func17, Tryd.ntmps17
  go_wp2_with fail
  refine HT.out.mono ?_
  rintro e w1 ⟨rfl, hb⟩
  have HB := Lib.hid (below_then (below_alloc (Below.refl w.heap.size w) _) (by simp) hb)
  clear hb
  go_wp2
  go_ret
  exact ⟨rfl, HB.out⟩
theorem site_anyV (nm : ByteArray) (v4 : Bool) (a : Int) (h0 : 0 ≤ a) (h1 : a ≤ 4294967295) (hnm : nm.size ≤ 1048576) (A : Option Addr) (c : Nat) (sfx : List ByteArray) (w : World) (ht : Tab w) (hC : Kd.C Kd.string w A sfx.length sfx) (hsz : ∀ z ∈ sfx, z.size < 8796093022207) :
    Calls Tryd.prog 16 #[.agg #[.string nm, .bool v4, .int .u32 a], .slice A sfx.length c] w fun e w' => e = .returned (.string (siteV nm v4 a sfx)) ∧ Below w.heap.size w w' :=
  site_any nm v4 a h0 h1 hnm A c sfx w ht hC hsz
theorem ref_site_any (nm : ByteArray) (v4 : Bool) (a : Int) (h0 : 0 ≤ a) (h1 : a ≤ 4294967295) (hnm : nm.size ≤ 1048576) (A : Option Addr) (c : Nat) (sfx : List ByteArray) (w : World) (ht : Tab w) (hC : Kd.C Kd.string w A sfx.length sfx) (hsz : ∀ z ∈ sfx, z.size < 8796093022207) :
    Calls Tryd.prog 17 #[.agg #[.string nm, .bool v4, .int .u32 a], .slice A sfx.length c] w fun e w' => e = .returned (.string (siteV nm v4 a sfx)) ∧ Below w.heap.size w w' := by
  cases v4
  · exact ref_site_name nm a hnm A c sfx w hC hsz
  · exact ref_site_addr nm a h0 h1 A sfx.length c w ht
set_option maxRecDepth 100000 in
set_option maxHeartbeats 2000000 in
theorem tells_calls (nm : ByteArray) (v4 : Bool) (a : Int) (h0 : 0 ≤ a) (h1 : a ≤ 4294967295) (A : Option Addr) (c : Nat) (sfx : List ByteArray) (w : World) (ht : Tab w) (hC : Kd.C Kd.string w A sfx.length sfx) (hc : sfx.length ≤ c) (hnm9 : nm.size ≤ 9223372036854775807) (hsz : ∀ z ∈ sfx, z.size ≤ 9223372036854775807) :
    Calls Tryd.prog 5 #[.agg #[.string nm, .bool v4, .int .u32 a], .slice A sfx.length c] w fun e w' => e = .returned (.bool true) ∧ Below w.heap.size w w' := by
  have HT := Lib.hid ht
  have HC := Lib.hid hC
  have HSZ9 := Lib.hid hsz
  have hb0 := below_alloc (Below.refl w.heap.size w) (.cells #[.string nm, .bool v4, .int .u32 a] 25)
  have HA := Lib.hid (awake_calls (w.alloc (.cells #[.string nm, .bool v4, .int .u32 a] 25)) (ht.below hb0))
  have HH := Lib.hid (blk_new w (.cells #[.string nm, .bool v4, .int .u32 a] 25))
  clear ht hC hb0 hsz
  have hln : sfx.length ≤ 9223372036854775807 := HC.out.2.1
  go_enter Tryd.func5, Tryd.ntmps5
  go_wp2_with fail
  refine HA.out.mono ?_
  rintro e w1 ⟨rfl, hb⟩
  have hH1 := blk_after HH.out hb rfl
  have HB1 := Lib.hid (below_then (below_alloc (Below.refl w.heap.size w) _) (by simp) hb)
  obtain ⟨bh, hbh⟩ : ∃ k, k = w.heap.size := ⟨_, rfl⟩
  rw [← hbh] at hH1 ⊢
  have c0 : w1.cell? ⟨bh, 0, none⟩ = some (.string nm) := blk_cell hH1 0
  have HH1 := Lib.hid hH1
  clear hb hH1 hbh HH HA
  by_cases hn : (1000 : Int) < (nm.size : Int)
  · have hd : decide ((1000 : Int) < (nm.size : Int)) = true := decide_eq_true hn
    go_wp2
    go_ret
    exact ⟨rfl, HB1.out⟩
  · have hd : decide ((1000 : Int) < (nm.size : Int)) = false := decide_eq_false hn
    by_cases hl : (200 : Int) < (sfx.length : Int)
    · have hd2 : decide ((200 : Int) < (sfx.length : Int)) = true := decide_eq_true hl
      have hd3 : decide (200 < sfx.length) = true := decide_eq_true (by omega)
      go_wp2
      go_ret
      exact ⟨rfl, HB1.out⟩
    · have hd2 : decide ((200 : Int) < (sfx.length : Int)) = false := decide_eq_false hl
      have hd3 : decide (200 < sfx.length) = false := decide_eq_false (by omega)
      have hsm : sfx.length ≤ 200 := by omega
      go_wp2_with fail
      go_loopw [6] (fun i wr => ∃ k : Nat, k ≤ sfx.length ∧ i = .int .i64 k ∧ Hid (Below w1.heap.size w1 wr) ∧ Hid (∀ x ∈ sfx.take k, x.size ≤ 1000)) (fun i _ => sfx.length - (intOf i).toNat)
      case atStart => exact ⟨0, Nat.zero_le _, rfl, Below.refl _ _, fun x h => by simp at h⟩
      case round =>
        obtain ⟨k, hk, rfl, HB2, HS⟩ := hrel
        by_cases hlt : k < sfx.length
        · obtain ⟨ad, e, hcell⟩ := str_at HC.out k hlt
          subst e
          have ce : wr.cell? (ad.add k) = some (.string sfx[k]) := cell_below ((HB1.out.trans (HB2.out.mono HB1.out.size))) hcell
          have hz9 : sfx[k].size ≤ 9223372036854775807 := HSZ9.out _ (List.getElem_mem _)
          obtain ⟨z, hz⟩ : ∃ z, z = sfx[k] := ⟨_, rfl⟩
          rw [← hz] at ce hz9
          have HZ := Lib.hid hz
          clear hcell hz
          by_cases hbig : (1000 : Int) < (z.size : Int)
          · have hdb : decide ((1000 : Int) < (z.size : Int)) = true := decide_eq_true hbig
            go_wp2
            go_ret
            exact ⟨rfl, HB1.out.trans (HB2.out.mono HB1.out.size)⟩
          · have hdb : decide ((1000 : Int) < (z.size : Int)) = false := decide_eq_false hbig
            have HS2 : Hid (∀ x ∈ sfx.take (k + 1), x.size ≤ 1000) := Lib.hid (fun x hx => by
              rw [List.take_succ_eq_append_getElem hlt, ← HZ.out, List.mem_append, List.mem_singleton] at hx
              rcases hx with hx | rfl
              · exact HS.out x hx
              · omega)
            go_wp2
            go_roundw
            case rel => exact ⟨k + 1, by omega, by simp, HB2.out, HS2.out⟩
            case measure => simp [intOf]; omega
        · obtain rfl : k = sfx.length := by omega
          rw [List.take_length] at HS
          have HBW := Lib.hid (HB1.out.trans (HB2.out.mono HB1.out.size))
          have hbl := blk_after HH1.out HB2.out rfl
          have d0 : wr.cell? ⟨bh, 0, none⟩ = some (.string nm) := blk_cell hbl 0
          have d1 : wr.cell? ⟨bh, 1, none⟩ = some (.bool v4) := blk_cell hbl 1
          have d2 : wr.cell? ⟨bh, 2, none⟩ = some (.int .u32 a) := blk_cell hbl 2
          have HBD : Hid (Below w.heap.size w wr.drew) := HBW.out.drew
          have HT1 := Lib.hid (text_any nm v4 a h0 h1 wr.drew (HT.out.below HBD.out))
          have HBL := Lib.hid (show wr.drew.heap[bh]? = _ from hbl)
          have HSZ : Hid (∀ z ∈ sfx, z.size < 8796093022207) := Lib.hid (fun z hz => by have := HS.out z hz; omega)
          obtain ⟨tv, htv⟩ : ∃ o, o = textV nm v4 a := ⟨_, rfl⟩
          obtain ⟨sv, hsv⟩ : ∃ o, o = siteV nm v4 a sfx := ⟨_, rfl⟩
          have HTV := Lib.hid htv
          have HSV := Lib.hid hsv
          rw [← htv] at HT1
          clear hbl htv hsv HS HSZ9
          go_wp2_with fail
          go_region_held3 (fun w' => w'.cell? ⟨bh, 0, none⟩ = some (.string nm) ∧ w'.cell? ⟨bh, 1, none⟩ = some (.bool v4) ∧ w'.cell? ⟨bh, 2, none⟩ = some (.int .u32 a)) (first | exact ⟨d0, d1, d2⟩ | exact ⟨d03, d13, d23⟩ | exact ⟨d04, d14, d24⟩ | exact ⟨d05, d15, d25⟩ | exact ⟨d06, d16, d26⟩) ((first
            | (go_at_call 14; refine HT1.out.mono ?_; rintro e w3 ⟨rfl, hb⟩; have HB3 := Lib.hid (below_then HBD.out HBD.out.size hb); have hbl3 := blk_after HBL.out hb rfl; have d03 : w3.cell? ⟨bh, 0, none⟩ = some (.string nm) := blk_cell hbl3 0; have d13 : w3.cell? ⟨bh, 1, none⟩ = some (.bool v4) := blk_cell hbl3 1; have d23 : w3.cell? ⟨bh, 2, none⟩ = some (.int .u32 a) := blk_cell hbl3 2; have HL3 := Lib.hid hbl3; have HT2 := Lib.hid (ref_text_any nm v4 a h0 h1 w3 (HT.out.below HB3.out)); rw [← HTV.out] at HT2; clear hb hbl3 HT1)
            | (go_at_call 15; refine HT2.out.mono ?_; rintro e w4 ⟨rfl, hb⟩; have HB4 := Lib.hid (below_then HB3.out HB3.out.size hb); have hbl4 := blk_after HL3.out hb rfl; have d04 : w4.cell? ⟨bh, 0, none⟩ = some (.string nm) := blk_cell hbl4 0; have d14 : w4.cell? ⟨bh, 1, none⟩ = some (.bool v4) := blk_cell hbl4 1; have d24 : w4.cell? ⟨bh, 2, none⟩ = some (.int .u32 a) := blk_cell hbl4 2; have HL4 := Lib.hid hbl4; have HS1 := Lib.hid (site_anyV nm v4 a h0 h1 (by omega) A c sfx w4 (HT.out.below HB4.out) (Kd.C_below HC.out HB4.out) HSZ.out); rw [← HSV.out] at HS1; clear hb hbl4 HT2)
            | (go_at_call 16; refine HS1.out.mono ?_; rintro e w5 ⟨rfl, hb⟩; have HB5 := Lib.hid (below_then HB4.out HB4.out.size hb); have hbl5 := blk_after HL4.out hb rfl; have d05 : w5.cell? ⟨bh, 0, none⟩ = some (.string nm) := blk_cell hbl5 0; have d15 : w5.cell? ⟨bh, 1, none⟩ = some (.bool v4) := blk_cell hbl5 1; have d25 : w5.cell? ⟨bh, 2, none⟩ = some (.int .u32 a) := blk_cell hbl5 2; have HL5 := Lib.hid hbl5; have HS2 := Lib.hid (ref_site_any nm v4 a h0 h1 (by omega) A c sfx w5 (HT.out.below HB5.out) (Kd.C_below HC.out HB5.out) HSZ.out); rw [← HSV.out] at HS2; clear hb hbl5 HS1)
            | (go_at_call 17; refine HS2.out.mono ?_; rintro e w6 ⟨rfl, hb⟩; have HB6 := Lib.hid (below_then HB5.out HB5.out.size hb); have hbl6 := blk_after HL5.out hb rfl; have d06 : w6.cell? ⟨bh, 0, none⟩ = some (.string nm) := blk_cell hbl6 0; have d16 : w6.cell? ⟨bh, 1, none⟩ = some (.bool v4) := blk_cell hbl6 1; have d26 : w6.cell? ⟨bh, 2, none⟩ = some (.int .u32 a) := blk_cell hbl6 2; clear hb hbl6 HS2)))
          all_goals (go_wp2_with fail)
          go_ret
          exact ⟨rfl, HB6.out⟩
end Go.Proofs.YtbhlmdaogdhjdaaDoor.H
