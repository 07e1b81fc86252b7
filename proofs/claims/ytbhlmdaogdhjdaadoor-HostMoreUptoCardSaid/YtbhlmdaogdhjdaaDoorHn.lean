import Derived.Test.YtbhlmdaogdhjdaaDoorHx
/-! HostEnds. -/
namespace Go.Proofs.YtbhlmdaogdhjdaaDoor.H
open Go.RowKit Go.Shelf Go.Joins Go.Proofs.YtbhlmdaogdhjdaaDoorW.PrintWords Go.Proofs.YtbhlmdaogdhjdaaDoorW.PrintLast Go.Proofs.YtbhlmdaogdhjdaaDoorW.PrintMore
set_option linter.unusedVariables false

/-- What the law asks of a site: of a text t with site S. -/
structure EndOf (t S : ByteArray) : Prop where
  s0 : 0 < S.size
  le : S.size ≤ t.size
  ex : t.extract (t.size - S.size) t.size = S
  pt : S.size < t.size → bt t ((t.size : Int) - (S.size : Int) - 1) = 46
theorem EndOf.self (t : ByteArray) (h : 0 < t.size) : EndOf t t := by
  refine ⟨h, Nat.le_refl _, ?_, fun h => absurd h (Nat.lt_irrefl _)⟩
  rw [Nat.sub_self]
  apply ba_ext
  rw [extract_list]
  simp only [List.drop_zero, Nat.sub_zero]
  exact List.take_of_length_le (by rw [data_length]; exact Nat.le_refl _)
theorem EndOf.tail (t S : ByteArray) (p : List UInt8) (hS : 0 < S.size) (h : t.data.toList = p ++ 46 :: S.data.toList) : EndOf t S := by
  have hl := congrArg List.length h
  rw [data_length, List.length_append, List.length_cons, data_length] at hl
  have hk : t.size - S.size = p.length + 1 := by omega
  refine ⟨hS, by omega, ?_, fun _ => ?_⟩
  · apply ba_ext
    rw [extract_list, hk, h]
    rw [show p ++ 46 :: S.data.toList = (p ++ [46]) ++ S.data.toList by simp, List.drop_left' (by simp)]
    exact List.take_of_length_le (by rw [data_length]; omega)
  · have hb := bt_get t p.length (by omega)
    rw [show ((t.size : Int) - (S.size : Int) - 1) = ((p.length : Nat) : Int) by omega, hb]
    have : t.data.toList[p.length]'(by rw [data_length]; omega) = 46 := by simp [h]
    rw [this]
    rfl
set_option maxRecDepth 100000 in
set_option maxHeartbeats 4000000 in
theorem ends_core (s t nm S : ByteArray) (v4 : Bool) (a : Int) (h0 : 0 ≤ a) (h1 : a ≤ 4294967295) (A : Option Addr) (c : Nat) (sfx : List ByteArray) (htv : textV nm v4 a = t) (hsv : siteV nm v4 a sfx = S) (hnm : nm.size ≤ 1048576) (htz : t.size ≤ 1048576)
    (hE : EndOf t S) (hv : v4 = true → S = t) (hss : v4 = false → siteB S sfx = S) (w : World) (ht : Tab w) (hC : Kd.C Kd.string w A sfx.length sfx) (hsz : ∀ z ∈ sfx, z.size ≤ 9223372036854775807)
    (hP : Gives 12 #[.string s] (.tuple #[.agg #[.string nm, .bool v4, .int .u32 a], .int .i64 0])) :
    Calls Tryd.prog 7 #[.string s, .slice A sfx.length c] w fun e w' => e = .returned (.bool true) ∧ Below w.heap.size w w' := by
  have HA := Lib.hid (awake_calls w ht)
  have HT := Lib.hid ht
  have HP := Lib.hid hP
  have HC := Lib.hid hC
  have HSZ9 := Lib.hid hsz
  have HTV := Lib.hid htv
  have HSV := Lib.hid hsv
  have HV := Lib.hid hv
  have HSS := Lib.hid hss
  have HE := Lib.hid hE
  have hln : sfx.length ≤ 9223372036854775807 := HC.out.2.1
  clear ht hP hC hsz htv hsv hv hss hE
  go_enter Tryd.func7, Tryd.ntmps7
  go_wp2_with fail
  refine HA.out.mono ?_
  rintro e w1 ⟨rfl, hb⟩
  have HB1 := Lib.hid hb
  clear hb HA
  go_wp2_with fail
  refine (HP.out _).mono ?_
  rintro e w2 ⟨rfl, hb⟩
  have HB2 := Lib.hid (below_alloc (below_then HB1.out HB1.out.size hb) (.cells #[.string nm, .bool v4, .int .u32 a] 25))
  have HH := Lib.hid (blk_new w2 (.cells #[.string nm, .bool v4, .int .u32 a] 25))
  clear hb HB1 HP
  by_cases hl : (200 : Int) < (sfx.length : Int)
  · have hd2 : decide ((200 : Int) < (sfx.length : Int)) = true := decide_eq_true hl
    have hd3 : decide (200 < sfx.length) = true := decide_eq_true (by omega)
    go_wp2
    go_ret
    exact ⟨rfl, HB2.out⟩
  · have hd2 : decide ((200 : Int) < (sfx.length : Int)) = false := decide_eq_false hl
    have hd3 : decide (200 < sfx.length) = false := decide_eq_false (by omega)
    have hsm : sfx.length ≤ 200 := by omega
    go_wp2_with fail
    obtain ⟨bh, hbh⟩ : ∃ k, k = w2.heap.size := ⟨_, rfl⟩
    rw [← hbh] at HH ⊢
    obtain ⟨w3, hw3⟩ : ∃ x, x = w2.alloc (.cells #[.string nm, .bool v4, .int .u32 a] 25) := ⟨_, rfl⟩
    rw [← hw3] at HB2 HH ⊢
    clear hbh hw3
    go_loopw [8] (fun i wr => ∃ k : Nat, k ≤ sfx.length ∧ i = .int .i64 k ∧ Hid (Below w3.heap.size w3 wr) ∧ Hid (∀ x ∈ sfx.take k, x.size ≤ 1000)) (fun i _ => sfx.length - (intOf i).toNat)
    case atStart => exact ⟨0, Nat.zero_le _, rfl, Below.refl _ _, fun x h => by simp at h⟩
    case round =>
      obtain ⟨k, hk, rfl, HB3, HS⟩ := hrel
      by_cases hlt : k < sfx.length
      · obtain ⟨ad, e, hcell⟩ := str_at HC.out k hlt
        subst e
        have ce : wr.cell? (ad.add k) = some (.string sfx[k]) := cell_below (below_then HB2.out HB2.out.size HB3.out) hcell
        have hz9 : sfx[k].size ≤ 9223372036854775807 := HSZ9.out _ (List.getElem_mem _)
        obtain ⟨z, hz⟩ : ∃ z, z = sfx[k] := ⟨_, rfl⟩
        rw [← hz] at ce hz9
        have HZ := Lib.hid hz
        clear hcell hz
        by_cases hbig : (1000 : Int) < (z.size : Int)
        · have hdb : decide ((1000 : Int) < (z.size : Int)) = true := decide_eq_true hbig
          go_wp2
          go_ret
          exact ⟨rfl, below_then HB2.out HB2.out.size HB3.out⟩
        · have hdb : decide ((1000 : Int) < (z.size : Int)) = false := decide_eq_false hbig
          have HS2 : Hid (∀ x ∈ sfx.take (k + 1), x.size ≤ 1000) := Lib.hid (fun x hx => by
            rw [List.take_succ_eq_append_getElem hlt, ← HZ.out, List.mem_append, List.mem_singleton] at hx
            rcases hx with hx | rfl
            · exact HS.out x hx
            · omega)
          go_wp2
          go_roundw
          case rel => exact ⟨k + 1, by omega, by simp, HB3.out, HS2.out⟩
          case measure => simp [intOf]; omega
      · obtain rfl : k = sfx.length := by omega
        rw [List.take_length] at HS
        have HBW := Lib.hid (below_then HB2.out HB2.out.size HB3.out)
        have HHW := Lib.hid (blk_after HH.out HB3.out rfl)
        have HSZ : Hid (∀ z ∈ sfx, z.size < 8796093022207) := Lib.hid (fun z hz => by have := HS.out z hz; omega)
        have c0 : wr.cell? ⟨bh, 0, none⟩ = some (.string nm) := blk_cell HHW.out 0
        have c1 : wr.cell? ⟨bh, 1, none⟩ = some (.bool v4) := blk_cell HHW.out 1
        have c2 : wr.cell? ⟨bh, 2, none⟩ = some (.int .u32 a) := blk_cell HHW.out 2
        clear HS HSZ9 HB3 HB2 HH
        go_wp2_with fail
        refine (text_any nm v4 a h0 h1 _ (HT.out.below HBW.out)).mono ?_
        rintro e w4 ⟨rfl, hb⟩
        rw [HTV.out]
        have HB4 := Lib.hid (below_then HBW.out HBW.out.size hb)
        have HH4 := Lib.hid (blk_after HHW.out hb rfl)
        have c0 : w4.cell? ⟨bh, 0, none⟩ = some (.string nm) := blk_cell HH4.out 0
        have c1 : w4.cell? ⟨bh, 1, none⟩ = some (.bool v4) := blk_cell HH4.out 1
        have c2 : w4.cell? ⟨bh, 2, none⟩ = some (.int .u32 a) := blk_cell HH4.out 2
        clear hb HBW HHW
        clear c2 c1 c0
        have c0 : w4.cell? ⟨bh, 0, none⟩ = some (.string nm) := blk_cell HH4.out 0
        have c1 : w4.cell? ⟨bh, 1, none⟩ = some (.bool v4) := blk_cell HH4.out 1
        have c2 : w4.cell? ⟨bh, 2, none⟩ = some (.int .u32 a) := blk_cell HH4.out 2
        go_wp2_with fail
        refine (site_anyV nm v4 a h0 h1 hnm A c sfx _ (HT.out.below HB4.out) (Kd.C_below HC.out HB4.out) HSZ.out).mono ?_
        rintro e w5 ⟨rfl, hb⟩
        rw [HSV.out]
        have HB5 := Lib.hid (below_then HB4.out HB4.out.size hb)
        have HH5 := Lib.hid (blk_after HH4.out hb rfl)
        have d1 : w5.cell? ⟨bh, 1, none⟩ = some (.bool v4) := blk_cell HH5.out 1
        clear hb HB4 HH4 c0 c1 c2
        have s0 : 0 < S.size := HE.out.s0
        have n1 : ¬ S.toList = [] := fun e => by have := (toL_nil S).1 e; omega
        have n2 : S.toList.isEmpty = false := by cases h : S.toList with | nil => exact absurd h n1 | cons _ _ => rfl
        have HSITE := Lib.hid (fun (h : v4 = false) (W : World) (hB : Below w.heap.size w W) => site_name S 0 (by have := HE.out.le; omega) A c sfx W (Kd.C_below HC.out hB) HSZ.out)
        by_cases hSt : S.size < t.size
        · obtain rfl : v4 = false := by
            cases h : v4 with
            | false => rfl
            | true => exact absurd (HV.out h) (fun e => by rw [e] at hSt; omega)
          have HS3 := Lib.hid (HSITE.out rfl)
          rw [HSS.out rfl] at HS3
          have q1 : decide ((t.size : Int) < (S.size : Int)) = false := decide_eq_false (by omega)
          have q2 : decide (t.size < S.size) = false := decide_eq_false (by omega)
          have q3 : decide ((S.size : Int) < (t.size : Int)) = true := decide_eq_true (by omega)
          have q4 : decide (S.size < t.size) = true := decide_eq_true hSt
          have q5 : ((t.extract (t.size - S.size) t.size).toList == S.toList) = true := by rw [HE.out.ex]; exact beq_self_eq_true _
          have q6 : (!(t.extract (t.size - S.size) t.size).toList == S.toList) = false := by rw [q5]; rfl
          have hlt2 : t.size - S.size - 1 < t.size := by omega
          have q7 : (((t[t.size - S.size - 1]'hlt2).toNat : Nat) : Int) = 46 := by
            have h := HE.out.pt hSt
            rw [bt_at t _ hlt2, show ((t.size - S.size - 1 : Nat) : Int) = (t.size : Int) - (S.size : Int) - 1 by omega]
            exact h
          have q8 : (1 : Int) ≤ (t.size : Int) - (S.size : Int) := by omega
          clear HSITE
          go_wp2_with fail
          refine (HS3.out _ HB5.out).mono ?_
          rintro e w6 ⟨rfl, hb⟩
          have HB6 := Lib.hid (below_then HB5.out HB5.out.size hb)
          clear hb HB5
          go_wp2
          go_ret
          exact ⟨rfl, HB6.out⟩
        · have hSe : t.size = S.size := by have := HE.out.le; omega
          have hex := HE.out.ex
          rw [hSe, Nat.sub_self] at hex
          have hTS : t = S := by
            rw [← hex, ← hSe]
            apply ba_ext
            rw [extract_list, List.drop_zero, Nat.sub_zero, List.take_of_length_le (by rw [data_length]; exact Nat.le_refl _)]
          clear hex hSe hSt
          subst hTS
          have q5 : t.extract 0 t.size = t := by
            apply ba_ext
            rw [extract_list, List.drop_zero, Nat.sub_zero, List.take_of_length_le (by rw [data_length]; exact Nat.le_refl _)]
          cases v4
          · have HS3 := Lib.hid (HSITE.out rfl)
            rw [HSS.out rfl] at HS3
            clear HSITE
            go_wp2_with fail
            refine (HS3.out _ HB5.out).mono ?_
            rintro e w6 ⟨rfl, hb⟩
            have HB6 := Lib.hid (below_then HB5.out HB5.out.size hb)
            clear hb HB5
            go_wp2
            go_ret
            exact ⟨rfl, HB6.out⟩
          · clear HSITE
            go_wp2
            go_ret
            exact ⟨rfl, HB5.out⟩
set_option maxRecDepth 100000 in
set_option maxHeartbeats 2000000 in
theorem ends_bad (s : ByteArray) (A : Option Addr) (c : Nat) (sfx : List ByteArray) (w : World) (ht : Tab w) 
    (hP : Gives 12 #[.string s] (.tuple #[.agg #[.string ⟨#[]⟩, .bool false, .int .u32 0], .int .i64 20])) :
    Calls Tryd.prog 7 #[.string s, .slice A sfx.length c] w fun e w' => e = .returned (.bool true) ∧ Below w.heap.size w w' := by
  have HA := Lib.hid (awake_calls w ht)
  have HP := Lib.hid hP
  clear ht hP
  go_enter Tryd.func7, Tryd.ntmps7
  go_wp2_with fail
  refine HA.out.mono ?_
  rintro e w1 ⟨rfl, hb⟩
  have HB1 := Lib.hid hb
  clear hb HA
  go_wp2_with fail
  refine (HP.out _).mono ?_
  rintro e w2 ⟨rfl, hb⟩
  have HB2 := Lib.hid (below_alloc (below_then HB1.out HB1.out.size hb) (.cells #[.string ⟨#[]⟩, .bool false, .int .u32 0] 25))
  clear hb HB1 HP
  go_wp2
  go_ret
  exact ⟨rfl, HB2.out⟩
theorem site_pos (t : ByteArray) (sfx : List ByteArray) (h : (splitB t 46).all labelB = true) : 0 < (siteB t sfx).size ∧ 0 < t.size := by
  have hlt := from_lt (splitB t 46) sfx (splitB_length t 46).2
  have key : ∀ u : ByteArray, (∃ z ∈ splitB u 46, labelB z = true) → 0 < u.size := by
    rintro u ⟨z, hz, hl⟩
    have := split_sizes u z hz
    unfold labelB at hl
    simp only [Bool.and_eq_true, decide_eq_true_eq] at hl
    omega
  refine ⟨key _ ?_, key _ ?_⟩
  · rw [site_split]
    refine ⟨((splitB t 46).drop (fromB (splitB t 46) sfx))[0]'(by rw [List.length_drop]; omega), List.getElem_mem _, ?_⟩
    exact List.all_eq_true.1 h _ (List.mem_of_mem_drop (List.getElem_mem _))
  · refine ⟨(splitB t 46)[0]'(splitB_length t 46).2, List.getElem_mem _, List.all_eq_true.1 h _ (List.getElem_mem _)⟩
theorem ends_calls (s : ByteArray) (hs : s.size < 8796093022207) (A : Option Addr) (c : Nat) (sfx : List ByteArray) (w : World) (ht : Tab w) (hC : Kd.C Kd.string w A sfx.length sfx) (hsz : ∀ z ∈ sfx, z.size ≤ 9223372036854775807) :
    Calls Tryd.prog 7 #[.string s, .slice A sfx.length c] w fun e w' => e = .returned (.bool true) ∧ Below w.heap.size w w' := by
  obtain ⟨t, hte⟩ : ∃ t, t = lowerB s := ⟨_, rfl⟩
  rcases parse_cases t with hp | ⟨hp, hl, hz⟩ | ⟨a, a0, a1, hp, hx⟩
  · exact ends_bad s A c sfx w ht (parse_gives s t _ hs hte hp)
  · have hpos := site_pos t sfx hl
    have hE : EndOf t (siteB t sfx) := by
      rcases site_end t sfx with h | ⟨p, h⟩
      · rw [h]; exact EndOf.self t hpos.2
      · exact EndOf.tail t _ p hpos.1 h
    exact ends_core s t t (siteB t sfx) false 0 (by omega) (by omega) A c sfx rfl rfl (by omega) (by omega) hE (fun h => by cases h) (fun _ => site_site t sfx) w ht hC hsz (parse_gives s t _ hs hte hp)
  · have h15 := text_size a
    rw [hx] at h15
    exact ends_core s t ⟨#[]⟩ t true a a0 a1 A c sfx hx (by rw [← hx]; rfl) (Nat.zero_le _) (by omega) (EndOf.self t h15.2) (fun _ => rfl) (fun h => by cases h) w ht hC hsz (parse_gives s t _ hs hte hp)
end Go.Proofs.YtbhlmdaogdhjdaaDoor.H
