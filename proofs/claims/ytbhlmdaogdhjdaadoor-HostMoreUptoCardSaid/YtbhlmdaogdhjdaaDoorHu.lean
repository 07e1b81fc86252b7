import Derived.Test.YtbhlmdaogdhjdaaDoorHt
/-! The reference's Parse. -/
namespace Go.Proofs.YtbhlmdaogdhjdaaDoor.H
open Go.RowKit Go.Shelf Go.Joins Go.Proofs.YtbhlmdaogdhjdaaDoorW.PrintWords
set_option linter.unusedVariables false

theorem pb_label (t : ByteArray) (xs : List ByteArray) (z : ByteArray) (h : splitB t 46 = xs ++ [z]) (hl : (xs ++ [z]).all labelB = false) : parseB t = bad := by
  rw [parseB_labels t xs z h, if_pos hl]
theorem pb_long (t : ByteArray) (h1 : t.size > 253) : parseB t = bad := by
  obtain ⟨xs, z, h⟩ := splitB_last t
  rw [parseB_labels t xs z h]
  split
  · rfl
  · rfl
theorem pb_none (t : ByteArray) (h1 : t.size < 1) : parseB t = bad := by
  obtain ⟨xs, z, h⟩ := splitB_last t
  refine pb_label t xs z h ?_
  have hz := split_sizes t z (by rw [h]; simp)
  have : labelB z = false := by
    unfold labelB
    rw [decide_eq_false (show ¬ 1 ≤ z.size by omega)]
    rfl
  simp [this]
theorem pb_name (t : ByteArray) (xs : List ByteArray) (z : ByteArray) (h : splitB t 46 = xs ++ [z]) (hl : (xs ++ [z]).all labelB = true) (h1 : ¬ t.size > 253) (h2 : fitsB digitB z = false) : parseB t = ⟨t, false, 0, 0⟩ := by
  rw [parseB_labels t xs z h, if_neg (by simp [hl]), if_neg h1, if_pos h2]
theorem pb_count (t : ByteArray) (xs : List ByteArray) (z : ByteArray) (h : splitB t 46 = xs ++ [z]) (hl : (xs ++ [z]).all labelB = true) (h1 : ¬ t.size > 253) (h2 : fitsB digitB z = true) (h3 : (xs ++ [z]).length ≠ 4) : parseB t = bad := by
  rw [parseB_labels t xs z h, if_neg (by simp [hl]), if_neg h1, if_neg (by simp [h2]), if_pos (by simpa using h3)]
theorem pb_addr (t : ByteArray) (xs : List ByteArray) (z : ByteArray) (h : splitB t 46 = xs ++ [z]) (hl : (xs ++ [z]).all labelB = true) (h1 : ¬ t.size > 253) (h2 : fitsB digitB z = true) (h3 : (xs ++ [z]).length = 4) :
    parseB t = match (xs ++ [z]).foldl numStep (some 0) with | none => bad | some a => ⟨⟨#[]⟩, true, a, 0⟩ := by
  rw [parseB_labels t xs z h, if_neg (by simp [hl]), if_neg h1, if_neg (by simp [h2]), if_neg (by simpa using h3)]
  rfl
theorem fold_none : ∀ zs : List ByteArray, zs.foldl numStep none = none
  | [] => rfl
  | _ :: zs => fold_none zs
theorem fold_stop (zs : List ByteArray) (k : Nat) (a : Int) (hk : k < zs.length) (h : (zs.take k).foldl numStep (some 0) = some a) (hn : (numB zs[k]).2 = false) : zs.foldl numStep (some 0) = none := by
  have e : zs = zs.take k ++ zs[k] :: zs.drop (k + 1) := by rw [← List.drop_eq_getElem_cons hk, List.take_append_drop]
  rw [e, List.foldl_append, h, List.foldl_cons]
  have : numStep (some a) zs[k] = none := by simp [numStep, hn]
  rw [this, fold_none]
theorem fold_next (zs : List ByteArray) (k : Nat) (a : Int) (hk : k < zs.length) (h : (zs.take k).foldl numStep (some 0) = some a) (hn : (numB zs[k]).2 = true) : (zs.take (k + 1)).foldl numStep (some 0) = some (addrStep a (numB zs[k]).1) := by
  rw [List.take_succ_eq_append_getElem hk, List.foldl_append, h]
  simp [numStep, hn]
theorem all_stop (zs : List ByteArray) (k : Nat) (hk : k < zs.length) (h : labelB zs[k] = false) : zs.all labelB = false := by
  rw [List.all_eq_false]
  exact ⟨_, List.getElem_mem hk, by simp [h]⟩
theorem ref_number_calls (s : ByteArray) (w : World) (hs : s.size ≤ 9223372036854775806) : Calls Tryd.prog 29 #[.string s, .int .i64 255] w fun e w' => e = .returned (.tuple #[.int .i64 (numB s).1, .bool (numB s).2]) ∧ Drawn0 w w' :=
  YtbhlmdaogdhjdaaDoor.Y.glacisref01_Number.calls (s.size + 2) s 255 _ _ w (ref_number s hs)
/-- The result's block, the list of labels, the world before. -/
structure VSt (w : World) (bh : Nat) (A : Option Addr) (zs : List ByteArray) (wr : World) : Prop where
  h : wr.heap[bh]? = some (.cells #[.string ⟨#[]⟩, .bool false, .int .u32 0] 25 (0, 0))
  c : Kd.C Kd.string wr A zs.length zs
  b : Below w.heap.size w wr
theorem VSt.then {w wr w2 : World} {bh : Nat} {A : Option Addr} {zs : List ByteArray} (h : VSt w bh A zs wr) (hb : Below wr.heap.size wr w2) : VSt w bh A zs w2 := ⟨blk_after h.h hb rfl, Kd.C_below h.c hb, below_then h.b h.b.size hb⟩
theorem out_set {W : World} {bh : Nat} {a0 a1 a2 : Value} (hh : W.heap[bh]? = some (.cells #[a0, a1, a2] 25 (0, 0))) (x y z : Value) :
    (((W.setCell ⟨bh, 0, none⟩ x).setCell ⟨bh, 1, none⟩ y).setCell ⟨bh, 2, none⟩ z).heap[bh]? = some (.cells #[x, y, z] 25 (0, 0)) := blk_set (blk_set (blk_set hh 0 x) 1 y) 2 z
theorem out_below {n bh : Nat} {w W : World} (h : Below n w W) (hb : n ≤ bh) (x y z : Value) : Below n w (((W.setCell ⟨bh, 0, none⟩ x).setCell ⟨bh, 1, none⟩ y).setCell ⟨bh, 2, none⟩ z) := ((h.setCell (p := ⟨bh, 0, none⟩) hb _).setCell (p := ⟨bh, 1, none⟩) hb _).setCell (p := ⟨bh, 2, none⟩) hb _
set_option maxRecDepth 100000 in
set_option maxHeartbeats 4000000 in
theorem ref_parse_calls (s : ByteArray) (w : World) (hs : s.size < 8796093022207) :
    Calls Tryd.prog 13 #[.string s] w fun e w' => e = .returned (.tuple #[hostV (parseB (lowerB s)), .int .i64 (parseB (lowerB s)).err]) ∧ Below w.heap.size w w' := by
  have HL := Lib.hid (ref_lower_calls s (w.alloc (.cells #[.string ⟨#[]⟩, .bool false, .int .u32 0] 25)) (by omega))
  obtain ⟨t, ht⟩ : ∃ t, t = lowerB s := ⟨_, rfl⟩
  have hts : t.size < 8796093022207 := by rw [ht, lowerB_size]; exact hs
  rw [← ht] at HL ⊢
  clear ht hs
  have hh0 := blk_new w (.cells #[.string ⟨#[]⟩, .bool false, .int .u32 0] 25)
  have HH0 := Lib.hid hh0
  clear hh0
  go_enter Tryd.func13, Tryd.ntmps13
  go_wp2_with fail
  refine HL.out.mono ?_
  rintro e w1 ⟨rfl, hb⟩
  have hB1 := below_then (below_alloc (Below.refl w.heap.size w) _) (by simp) hb
  have hh1 := blk_after HH0.out hb rfl
  obtain ⟨bh, hbh⟩ : ∃ k, k = w.heap.size := ⟨_, rfl⟩
  rw [← hbh] at hh1 ⊢
  have hb1 : w.heap.size ≤ bh := by omega
  have HH1 := Lib.hid hh1
  have HB1 := Lib.hid hB1
  clear hb hB1 hh1 hbh HH0 HL
  by_cases c1 : (t.size : Int) < 1
  · have d1 : decide ((t.size : Int) < 1) = true := decide_eq_true c1
    have g0 : w1.cell? ⟨bh, 0, none⟩ = some (.string ⟨#[]⟩) := blk_cell HH1.out 0
    have g1 : w1.cell? ⟨bh, 1, none⟩ = some (.bool false) := blk_cell HH1.out 1
    have g2 : w1.cell? ⟨bh, 2, none⟩ = some (.int .u32 0) := blk_cell HH1.out 2
    have f0 : w1.frozen? ⟨bh, 0, none⟩ = false := blk_frozen HH1.out 0
    have f1 : w1.frozen? ⟨bh, 1, none⟩ = false := blk_frozen HH1.out 1
    have f2 : w1.frozen? ⟨bh, 2, none⟩ = false := blk_frozen HH1.out 2
    go_wp2_with fail
    have hfin := out_set HH1.out (.string ⟨#[]⟩) (.bool false) (.int .u32 0)
    have k0 := blk_cell hfin 0
    have k1 := blk_cell hfin 1
    have k2 := blk_cell hfin 2
    exact bodyPost_ret (v := .tuple #[.agg #[(.string ⟨#[]⟩), (.bool false), (.int .u32 0)], .int .i64 20]) (by simp [results, Tryd.results13, go_sem, k0, k1, k2]) rfl ⟨by rw [pb_none t (by omega)]; rfl, out_below HB1.out hb1 _ _ _⟩
  · have d1 : decide ((t.size : Int) < 1) = false := decide_eq_false c1
    by_cases c2 : (253 : Int) < (t.size : Int)
    · have d2 : decide ((253 : Int) < (t.size : Int)) = true := decide_eq_true c2
      have g0 : w1.cell? ⟨bh, 0, none⟩ = some (.string ⟨#[]⟩) := blk_cell HH1.out 0
      have g1 : w1.cell? ⟨bh, 1, none⟩ = some (.bool false) := blk_cell HH1.out 1
      have g2 : w1.cell? ⟨bh, 2, none⟩ = some (.int .u32 0) := blk_cell HH1.out 2
      have f0 : w1.frozen? ⟨bh, 0, none⟩ = false := blk_frozen HH1.out 0
      have f1 : w1.frozen? ⟨bh, 1, none⟩ = false := blk_frozen HH1.out 1
      have f2 : w1.frozen? ⟨bh, 2, none⟩ = false := blk_frozen HH1.out 2
      go_wp2_with fail
      have hfin := out_set HH1.out (.string ⟨#[]⟩) (.bool false) (.int .u32 0)
      have k0 := blk_cell hfin 0
      have k1 := blk_cell hfin 1
      have k2 := blk_cell hfin 2
      exact bodyPost_ret (v := .tuple #[.agg #[(.string ⟨#[]⟩), (.bool false), (.int .u32 0)], .int .i64 20]) (by simp [results, Tryd.results13, go_sem, k0, k1, k2]) rfl ⟨by rw [pb_long t (by omega)]; rfl, out_below HB1.out hb1 _ _ _⟩
    · have d2 : decide ((253 : Int) < (t.size : Int)) = false := decide_eq_false c2
      obtain ⟨xs, z, hsp⟩ := splitB_last t
      have HSP := Lib.hid hsp
      have hln := (splitB_length t 46).1
      obtain ⟨zs, hzs⟩ : ∃ zs, zs = xs ++ [z] := ⟨_, rfl⟩
      have hz1 : zs.length ≤ 254 := by rw [hzs, ← hsp]; omega
      have hz0 : 0 < zs.length := by rw [hzs]; simp
      have hzl : zs[zs.length - 1] = z := by simp [hzs]
      have HZL := Lib.hid hzl
      have HZSZ : Hid (∀ y ∈ zs, y.size ≤ 253) := Lib.hid (fun y hy => by
        have := split_sizes t y (by rw [hsp, ← hzs]; exact hy)
        omega)
      have HZS := Lib.hid hzs
      clear hsp hzs hzl hln
      go_wp2_with fail
      refine (ref_split_calls t w1 hts).mono ?_
      rintro e w2 ⟨v, rfl, hR, hB⟩
      rw [HSP.out, ← HZS.out] at hR
      obtain ⟨B, cl, rfl⟩ := Kd.R_slice hR
      have hzc : zs.length ≤ cl := formed_le hR
      have HV := Lib.hid (show VSt w bh B zs w2 from ⟨blk_after HH1.out hB rfl, (Kd.R_reads' hR).2.2, below_then HB1.out HB1.out.size hB⟩)
      clear hR hB HH1 HB1
      go_wp2_with fail
      go_loopw [5] (fun i wr => ∃ k : Nat, k ≤ zs.length ∧ i = .int .i64 k ∧ Hid (∀ y ∈ zs.take k, labelB y = true) ∧ Hid (VSt w bh B zs wr)) (fun i _ => zs.length - (intOf i).toNat)
      case atStart => exact ⟨0, Nat.zero_le _, rfl, fun y hy => by simp at hy, HV.out⟩
      case round =>
        clear HV w2
        obtain ⟨k, hk, rfl, HA, HV⟩ := hrel
        by_cases hlt : k < zs.length
        · obtain ⟨ad, e, hcell⟩ := str_at HV.out.c k hlt
          subst e
          have hzk : zs[k].size ≤ 253 := HZSZ.out _ (List.getElem_mem _)
          obtain ⟨x, hx⟩ : ∃ x, x = zs[k] := ⟨_, rfl⟩
          rw [← hx] at hcell hzk
          have HX := Lib.hid hx
          clear hx
          go_wp2_with fail
          refine (ref_label_calls x wr (by omega)).mono ?_
          rintro e w3 ⟨rfl, hd⟩
          have HV3 := Lib.hid (HV.out.then hd.below)
          clear hd HV hcell
          cases hlab : labelB x
          · have HALL : Hid (zs.all labelB = false) := Lib.hid (all_stop zs k hlt (by rw [← HX.out]; exact hlab))
            clear hlab
            have g0 : w3.cell? ⟨bh, 0, none⟩ = some (.string ⟨#[]⟩) := blk_cell HV3.out.h 0
            have g1 : w3.cell? ⟨bh, 1, none⟩ = some (.bool false) := blk_cell HV3.out.h 1
            have g2 : w3.cell? ⟨bh, 2, none⟩ = some (.int .u32 0) := blk_cell HV3.out.h 2
            have f0 : w3.frozen? ⟨bh, 0, none⟩ = false := blk_frozen HV3.out.h 0
            have f1 : w3.frozen? ⟨bh, 1, none⟩ = false := blk_frozen HV3.out.h 1
            have f2 : w3.frozen? ⟨bh, 2, none⟩ = false := blk_frozen HV3.out.h 2
            go_wp2_with fail
            have hfin := out_set HV3.out.h (.string ⟨#[]⟩) (.bool false) (.int .u32 0)
            have k0 := blk_cell hfin 0
            have k1 := blk_cell hfin 1
            have k2 := blk_cell hfin 2
            exact bodyPost_ret (v := .tuple #[.agg #[(.string ⟨#[]⟩), (.bool false), (.int .u32 0)], .int .i64 20]) (by simp [results, Tryd.results13, go_sem, k0, k1, k2]) rfl ⟨by rw [pb_label t xs z HSP.out (by rw [← HZS.out]; exact HALL.out)]; rfl, out_below HV3.out.b hb1 _ _ _⟩
          · have HA2 : Hid (∀ y ∈ zs.take (k + 1), labelB y = true) := Lib.hid (fun y hy => by
              rw [List.take_succ_eq_append_getElem hlt, ← HX.out, List.mem_append, List.mem_singleton] at hy
              rcases hy with hy | rfl
              · exact HA.out y hy
              · exact hlab)
            clear hlab
            go_wp2
            go_roundw
            case rel => exact ⟨k + 1, by omega, by simp, HA2.out, HV3.out⟩
            case measure => simp [intOf]; omega
        · obtain rfl : k = zs.length := by omega
          rw [List.take_length] at HA
          have HALL : Hid ((xs ++ [z]).all labelB = true) := Lib.hid (by rw [← HZS.out]; exact List.all_eq_true.2 HA.out)
          obtain ⟨ad, e, hcell⟩ := str_at HV.out.c (zs.length - 1) (by omega)
          subst e
          rw [HZL.out] at hcell
          have hzz : z.size ≤ 253 := HZSZ.out z (by rw [HZS.out]; simp)
          have hcell2 : wr.cell? (ad.add ((zs.length : Int) - 1).toNat) = some (.string z) := by rw [show ((zs.length : Int) - 1).toNat = zs.length - 1 by omega]; exact hcell
          go_wp2_with fail
          refine (ref_digits_calls z wr (by omega)).mono ?_
          rintro e w3 ⟨rfl, hd⟩
          have HV3 := Lib.hid (HV.out.then hd.below)
          clear hd HV hcell hcell2 HA
          cases hdig : fitsB digitB z
          · have HPB := Lib.hid (pb_name t xs z HSP.out HALL.out (by omega) hdig)
            clear hdig
            have g0 : w3.cell? ⟨bh, 0, none⟩ = some (.string ⟨#[]⟩) := blk_cell HV3.out.h 0
            have g1 : w3.cell? ⟨bh, 1, none⟩ = some (.bool false) := blk_cell HV3.out.h 1
            have g2 : w3.cell? ⟨bh, 2, none⟩ = some (.int .u32 0) := blk_cell HV3.out.h 2
            have f0 : w3.frozen? ⟨bh, 0, none⟩ = false := blk_frozen HV3.out.h 0
            have f1 : w3.frozen? ⟨bh, 1, none⟩ = false := blk_frozen HV3.out.h 1
            have f2 : w3.frozen? ⟨bh, 2, none⟩ = false := blk_frozen HV3.out.h 2
            go_wp2_with fail
            have hfin := out_set HV3.out.h (.string t) (.bool false) (.int .u32 0)
            have k0 := blk_cell hfin 0
            have k1 := blk_cell hfin 1
            have k2 := blk_cell hfin 2
            exact bodyPost_ret (v := .tuple #[.agg #[(.string t), (.bool false), (.int .u32 0)], .int .i64 0]) (by simp [results, Tryd.results13, go_sem, k0, k1, k2]) rfl ⟨by rw [HPB.out]; rfl, out_below HV3.out.b hb1 _ _ _⟩
          · by_cases h4 : zs.length = 4
            · have HPB := Lib.hid (pb_addr t xs z HSP.out HALL.out (by omega) hdig (by rw [← HZS.out]; exact h4))
              rw [← HZS.out] at HPB
              have e1 : ((zs.length : Int) == 4) = true := by simp [h4]
              have e2 : ((zs.length : Int) != 4) = false := by simp [h4]
              have h4a : zs.length ≤ 4 := by omega
              have h4b : 4 ≤ zs.length := by omega
              clear hdig h4
              go_wp2_with fail
              go_loopw [8, 9] (fun a i wr => ∃ (k : Nat) (x : Int), k ≤ 4 ∧ i = .int .i64 k ∧ a = .int .u32 x ∧ 0 ≤ x ∧ x ≤ 4294967295 ∧ Hid ((zs.take k).foldl numStep (some 0) = some x) ∧ Hid (VSt w bh (some ad) zs wr)) (fun _ i _ => (4 - intOf i).toNat)
              case atStart => exact ⟨0, 0, by omega, rfl, rfl, by omega, by omega, rfl, HV3.out⟩
              case round =>
                clear HV3 w3
                obtain ⟨k, x, hk, rfl, rfl, hx0, hx1, HF, HV⟩ := hrel
                by_cases hlt : k < 4
                · obtain ⟨ad', e, hcell⟩ := str_at HV.out.c k (by omega)
                  obtain rfl : ad = ad' := by simpa using e
                  have hkz : k < zs.length := by omega
                  have hzk : zs[k].size ≤ 253 := HZSZ.out _ (List.getElem_mem _)
                  have HST := Lib.hid (fold_stop zs k x hkz HF.out)
                  have HNX := Lib.hid (fold_next zs k x hkz HF.out)
                  obtain ⟨y, hy⟩ : ∃ y, y = zs[k] := ⟨_, rfl⟩
                  rw [← hy] at hcell hzk HST HNX
                  clear hy e
                  have hd1 : decide ((k : Int) < 4) = true := decide_eq_true (by omega)
                  have hd2 : decide (k < 4) = true := decide_eq_true hlt
                  go_wp2_with fail
                  refine (ref_number_calls y _ (by omega)).mono ?_
                  obtain ⟨hn0, hn1⟩ := numB_bound y
                  obtain ⟨n, hn⟩ : ∃ n, n = (numB y).1 := ⟨_, rfl⟩
                  rw [← hn] at hn0 hn1 HNX ⊢
                  clear hn
                  cases hok : (numB y).2
                  · have HFN := Lib.hid (HST.out hok)
                    rintro e w3 ⟨rfl, hd⟩
                    have HV3 := Lib.hid (HV.out.then hd.below)
                    have HPB2 : Hid (parseB t = bad) := Lib.hid (by rw [HPB.out, HFN.out])
                    clear hd HV hcell hok HNX HST HPB HFN
                    have g0 : w3.cell? ⟨bh, 0, none⟩ = some (.string ⟨#[]⟩) := blk_cell HV3.out.h 0
                    have g1 : w3.cell? ⟨bh, 1, none⟩ = some (.bool false) := blk_cell HV3.out.h 1
                    have g2 : w3.cell? ⟨bh, 2, none⟩ = some (.int .u32 0) := blk_cell HV3.out.h 2
                    have f0 : w3.frozen? ⟨bh, 0, none⟩ = false := blk_frozen HV3.out.h 0
                    have f1 : w3.frozen? ⟨bh, 1, none⟩ = false := blk_frozen HV3.out.h 1
                    have f2 : w3.frozen? ⟨bh, 2, none⟩ = false := blk_frozen HV3.out.h 2
                    go_wp2_with fail
                    have hfin := out_set HV3.out.h (.string ⟨#[]⟩) (.bool false) (.int .u32 0)
                    have k0 := blk_cell hfin 0
                    have k1 := blk_cell hfin 1
                    have k2 := blk_cell hfin 2
                    exact bodyPost_ret (v := .tuple #[.agg #[(.string ⟨#[]⟩), (.bool false), (.int .u32 0)], .int .i64 20]) (by simp [results, Tryd.results13, go_sem, k0, k1, k2]) rfl ⟨by rw [HPB2.out]; rfl, out_below HV3.out.b hb1 _ _ _⟩
                  · have HFN := Lib.hid (HNX.out hok)
                    rintro e w3 ⟨rfl, hd⟩
                    have HV3 := Lib.hid (HV.out.then hd.below)
                    clear hd HV hcell hok HNX HST
                    have hq0 : 0 ≤ x * 256 % 4294967296 := Int.emod_nonneg _ (by decide)
                    have hq1 : x * 256 % 4294967296 ≤ 4294967040 := by omega
                    go_wp2
                    go_roundw
                    case rel => exact ⟨k + 1, addrStep x n, by omega, by simp, rfl, by unfold addrStep; omega, by unfold addrStep; omega, HFN.out, HV3.out⟩
                    case measure => simp [intOf]; omega
                · obtain rfl : k = 4 := by omega
                  have HPB2 : Hid (parseB t = ⟨⟨#[]⟩, true, x, 0⟩) := Lib.hid (by
                    have h := HF.out
                    rw [List.take_of_length_le h4a] at h
                    rw [HPB.out, h])
                  clear HF HPB
                  have g0 : wr.cell? ⟨bh, 0, none⟩ = some (.string ⟨#[]⟩) := blk_cell HV.out.h 0
                  have g1 : wr.cell? ⟨bh, 1, none⟩ = some (.bool false) := blk_cell HV.out.h 1
                  have g2 : wr.cell? ⟨bh, 2, none⟩ = some (.int .u32 0) := blk_cell HV.out.h 2
                  have f0 : wr.frozen? ⟨bh, 0, none⟩ = false := blk_frozen HV.out.h 0
                  have f1 : wr.frozen? ⟨bh, 1, none⟩ = false := blk_frozen HV.out.h 1
                  have f2 : wr.frozen? ⟨bh, 2, none⟩ = false := blk_frozen HV.out.h 2
                  go_wp2_with fail
                  have hfin := out_set HV.out.h (.string ⟨#[]⟩) (.bool true) (.int .u32 x)
                  have k0 := blk_cell hfin 0
                  have k1 := blk_cell hfin 1
                  have k2 := blk_cell hfin 2
                  exact bodyPost_ret (v := .tuple #[.agg #[(.string ⟨#[]⟩), (.bool true), (.int .u32 x)], .int .i64 0]) (by simp [results, Tryd.results13, go_sem, k0, k1, k2]) rfl ⟨by rw [HPB2.out]; rfl, out_below HV.out.b hb1 _ _ _⟩
            · have HPB := Lib.hid (pb_count t xs z HSP.out HALL.out (by omega) hdig (by rw [← HZS.out]; exact h4))
              have e1 : ((zs.length : Int) == 4) = false := beq_eq_false_iff_ne.2 (by omega)
              have e2 : ((zs.length : Int) != 4) = true := by simp only [bne, e1]; rfl
              clear hdig
              have g0 : w3.cell? ⟨bh, 0, none⟩ = some (.string ⟨#[]⟩) := blk_cell HV3.out.h 0
              have g1 : w3.cell? ⟨bh, 1, none⟩ = some (.bool false) := blk_cell HV3.out.h 1
              have g2 : w3.cell? ⟨bh, 2, none⟩ = some (.int .u32 0) := blk_cell HV3.out.h 2
              have f0 : w3.frozen? ⟨bh, 0, none⟩ = false := blk_frozen HV3.out.h 0
              have f1 : w3.frozen? ⟨bh, 1, none⟩ = false := blk_frozen HV3.out.h 1
              have f2 : w3.frozen? ⟨bh, 2, none⟩ = false := blk_frozen HV3.out.h 2
              go_wp2_with fail
              have hfin := out_set HV3.out.h (.string ⟨#[]⟩) (.bool false) (.int .u32 0)
              have k0 := blk_cell hfin 0
              have k1 := blk_cell hfin 1
              have k2 := blk_cell hfin 2
              exact bodyPost_ret (v := .tuple #[.agg #[(.string ⟨#[]⟩), (.bool false), (.int .u32 0)], .int .i64 20]) (by simp [results, Tryd.results13, go_sem, k0, k1, k2]) rfl ⟨by rw [HPB.out]; rfl, out_below HV3.out.b hb1 _ _ _⟩
end Go.Proofs.YtbhlmdaogdhjdaaDoor.H
