import Derived.Test.YtbhlmdaogdhjdaaDoorHs
import Derived.Test.YtbhlmdaogdhjdaaDoorHm
/-! The reference's Site. -/
namespace Go.Proofs.YtbhlmdaogdhjdaaDoor.H
open Go.RowKit Go.Shelf Go.Joins Go.Proofs.YtbhlmdaogdhjdaaDoorW.PrintWords
set_option linter.unusedVariables false

theorem acc_text (a : Int) : accB a 4 = textB a := by
  apply ba_ext
  rw [text_list]
  simp [accB]
/-- The reference's list, and the world before. -/
structure GSt (w : World) (A : Option Addr) (zs : List ByteArray) (wr : World) : Prop where
  c : Kd.C Kd.string wr A zs.length zs
  b : Below w.heap.size w wr
theorem GSt.then {w wr w2 : World} {A : Option Addr} {zs : List ByteArray} (h : GSt w A zs wr) (hb : Below wr.heap.size wr w2) : GSt w A zs w2 := ⟨Kd.C_below h.c hb, below_then h.b h.b.size hb⟩
theorem best_step (zs sfx : List ByteArray) (k : Nat) (hk : k < sfx.length) : bestB zs (sfx.take (k + 1)) = tryB zs (bestB zs (sfx.take k)) sfx[k] := by
  unfold bestB
  rw [List.take_succ_eq_append_getElem hk, List.foldl_append]
  rfl
/-- What is joined out of k labels. -/
def outB (ys : List ByteArray) (k : Nat) : ByteArray := ⟨(Lib.join ((ys.take k).map (·.data.toList)) [46]).toArray⟩
theorem outB_one (ys : List ByteArray) (h : 0 < ys.length) : outB ys 1 = ys[0] := by
  apply ba_ext
  show Lib.join ((ys.take 1).map (·.data.toList)) [46] = _
  cases ys with
  | nil => simp at h
  | cons y ys => simp [Lib.join_one]
theorem outB_next (ys : List ByteArray) (k : Nat) (h0 : 0 < k) (hk : k < ys.length) : outB ys (k + 1) = outB ys k ++ ⟨#[46]⟩ ++ ys[k] := by
  apply ba_ext
  simp only [ByteArray.data_append, Array.toList_append]
  show Lib.join ((ys.take (k + 1)).map (·.data.toList)) [46] = Lib.join ((ys.take k).map (·.data.toList)) [46] ++ [46] ++ ys[k].data.toList
  rw [List.take_succ_eq_append_getElem hk, List.map_append, join_append _ _ (by intro e; have := congrArg List.length e; simp only [List.length_map, List.length_take, List.length_nil] at this; omega) (by simp)]
  simp [Lib.join_one]
theorem outB_size (ys : List ByteArray) (k m : Nat) (hm : ∀ y ∈ ys, y.size ≤ m) : (outB ys k).size ≤ k * (m + 1) := by
  have h := join_len [46] m ((ys.take k).map (·.data.toList)) (fun l hl => by
    obtain ⟨y, hy, rfl⟩ := List.mem_map.1 hl
    rw [data_length]
    exact hm y (List.mem_of_mem_take hy))
  have h2 : (outB ys k).size = (Lib.join ((ys.take k).map (·.data.toList)) [46]).length := by
    rw [← data_length]; rfl
  rw [h2]
  refine Nat.le_trans h ?_
  have : ((ys.take k).map (·.data.toList)).length ≤ k := by simp; omega
  exact Nat.mul_le_mul_right _ this
theorem site_out (nm : ByteArray) (sfx : List ByteArray) (zs ys : List ByteArray) (hz : zs = splitB nm 46) (hy : ys = zs.drop (fromB zs sfx)) : outB ys ys.length = siteB nm sfx := by
  unfold outB siteB
  rw [List.take_length, hy, hz]
theorem split_sizes (s : ByteArray) : ∀ z ∈ splitB s 46, z.size ≤ s.size := by
  intro z hz
  obtain ⟨i, hi, rfl⟩ := List.mem_iff_getElem.1 hz
  have := splitB_size s 46 i
  rwa [List.getElem?_eq_getElem hi] at this
theorem out_first (zs ys : List ByteArray) (f : Nat) (hy : ys = zs.drop f) (hf : f < zs.length) : outB ys (f + 1 - f) = ⟨#[]⟩ ++ zs[f] := by
  have hl : 0 < ys.length := by rw [hy, List.length_drop]; omega
  rw [Nat.add_sub_cancel_left, outB_one ys hl]
  apply ba_ext
  simp [hy]
theorem out_next (zs ys : List ByteArray) (f i : Nat) (hy : ys = zs.drop f) (h : f < i) (hi : i < zs.length) : outB ys (i + 1 - f) = outB ys (i - f) ++ ⟨#[46]⟩ ++ zs[i] := by
  have hl : i - f < ys.length := by rw [hy, List.length_drop]; omega
  rw [show i + 1 - f = (i - f) + 1 by omega, outB_next ys (i - f) (by omega) hl]
  congr 1
  simp [hy, Nat.add_sub_cancel' (Nat.le_of_lt h)]
theorem out_small (zs ys : List ByteArray) (k : Nat) (hm : ∀ y ∈ ys, y.size ≤ 1048576) (hk : k ≤ 1048577) : (outB ys k).size ≤ 1099513724929 := by
  have := outB_size ys k 1048576 hm
  have h2 : k * (1048576 + 1) ≤ 1048577 * 1048577 := Nat.mul_le_mul hk (Nat.le_refl _)
  omega
set_option maxRecDepth 100000 in
set_option maxHeartbeats 4000000 in
theorem ref_site_name (nm : ByteArray) (a : Int) (hnm : nm.size ≤ 1048576) (A : Option Addr) (c : Nat) (sfx : List ByteArray) (w : World) (hC : Kd.C Kd.string w A sfx.length sfx) (hsz : ∀ z ∈ sfx, z.size < 8796093022207) :
    Calls Tryd.prog 17 #[.agg #[.string nm, .bool false, .int .u32 a], .slice A sfx.length c] w fun e w' => e = .returned (.string (siteB nm sfx)) ∧ Below w.heap.size w w' := by
  have HS := Lib.hid (ref_split_calls nm (w.alloc (.cells #[.string nm, .bool false, .int .u32 a] 25)) (by omega))
  obtain ⟨zs, hzs⟩ : ∃ z, z = splitB nm 46 := ⟨_, rfl⟩
  have hz0 : 0 < zs.length := by rw [hzs]; exact (splitB_length nm 46).2
  have hz1 : zs.length ≤ 1048577 := by have := (splitB_length nm 46).1; rw [← hzs] at this; omega
  rw [← hzs] at HS
  have HZ := Lib.hid hzs
  have HC := Lib.hid hC
  have HSZ := Lib.hid hsz
  have hsl : sfx.length ≤ 9223372036854775807 := HC.out.2.1
  clear hzs hC hsz
  go_enter Tryd.func17, Tryd.ntmps17
  go_wp2_with fail
  refine HS.out.mono ?_
  rintro e w1 ⟨v, rfl, hR, hB⟩
  obtain ⟨B, cl, rfl⟩ := Kd.R_slice hR
  have hzc : zs.length ≤ cl := formed_le hR
  have HST := Lib.hid (show GSt w B zs w1 from ⟨(Kd.R_reads' hR).2.2, below_then (below_alloc (Below.refl w.heap.size w) _) (by simp) hB⟩)
  clear hR hB HS
  go_wp2_with fail
  go_loopw [6, 7] (fun b i wr => ∃ k : Nat, k ≤ sfx.length ∧ i = .int .i64 k ∧ b = .int .i64 (bestB zs (sfx.take k)) ∧ Hid (GSt w B zs wr)) (fun _ i _ => sfx.length - (intOf i).toNat)
  case atStart => exact ⟨0, Nat.zero_le _, rfl, rfl, HST.out⟩
  case round =>
    clear HST w1
    obtain ⟨k, hk, rfl, rfl, HS⟩ := hrel
    obtain ⟨hb0, hb1⟩ := best_bound zs (sfx.take k)
    obtain ⟨b, hb⟩ : ∃ b, b = bestB zs (sfx.take k) := ⟨_, rfl⟩
    rw [← hb] at hb0 hb1 ⊢
    have HBE := Lib.hid hb
    clear hb
    by_cases hlt : k < sfx.length
    · obtain ⟨ad, e, hcell⟩ := str_at HC.out k hlt
      subst e
      have ce : wr.cell? (ad.add k) = some (.string sfx[k]) := cell_below HS.out.b hcell
      clear hcell
      have hsk : sfx[k].size < 8796093022207 := HSZ.out _ (List.getElem_mem _)
      have HNX := Lib.hid (best_step zs sfx k hlt)
      obtain ⟨x, hx⟩ : ∃ x, x = sfx[k] := ⟨_, rfl⟩
      rw [← hx] at ce hsk HNX
      clear hx
      rw [← HBE.out] at HNX
      go_wp2_with fail
      refine (ref_split_calls x wr hsk).mono ?_
      rintro e w2 ⟨v, rfl, hR, hB⟩
      obtain ⟨E, ec, rfl⟩ := Kd.R_slice hR
      have hsc := formed_le hR
      obtain ⟨ss, hss⟩ : ∃ ss, ss = splitB x 46 := ⟨_, rfl⟩
      have hss1 : ss.length ≤ 8796093022208 := by have := (splitB_length x 46).1; rw [← hss] at this; omega
      rw [← hss] at hR hsc ⊢
      have HE := Lib.hid (Kd.R_reads' hR).2.2
      have HS2 := Lib.hid (HS.out.then hB)
      have HT : Hid (bestB zs (sfx.take (k + 1)) = if endsB zs ss = true then max b (ss.length : Int) else b) := by
        rw [HNX.out, hss]; exact Lib.hid rfl
      clear hR hB HS ce hss HNX
      go_wp2_with fail
      refine (ref_ends_calls B cl zs E ec ss w2 HS2.out.c hzc HE.out hsc (by omega)).mono ?_
      rintro e w3 ⟨rfl, hd⟩
      have HS3 := Lib.hid (HS2.out.then hd.below)
      clear hd HS2 HE
      cases hend : endsB zs ss
      · have HT2 : Hid (bestB zs (sfx.take (k + 1)) = b) := Lib.hid (by rw [HT.out, hend]; rfl)
        clear hend HT
        go_wp2
        go_roundw
        case rel => exact ⟨k + 1, by omega, by simp, by rw [HT2.out], HS3.out⟩
        case measure => simp [intOf]; omega
      · by_cases hgt : b < (ss.length : Int)
        · have HT2 : Hid (bestB zs (sfx.take (k + 1)) = (ss.length : Int)) := Lib.hid (by rw [HT.out, hend, if_pos rfl]; omega)
          clear hend HT
          go_wp2
          go_roundw
          case rel => exact ⟨k + 1, by omega, by simp, by rw [HT2.out], HS3.out⟩
          case measure => simp [intOf]; omega
        · have HT2 : Hid (bestB zs (sfx.take (k + 1)) = b) := Lib.hid (by rw [HT.out, hend, if_pos rfl]; omega)
          clear hend HT
          go_wp2
          go_roundw
          case rel => exact ⟨k + 1, by omega, by simp, by rw [HT2.out], HS3.out⟩
          case measure => simp [intOf]; omega
    · obtain rfl : k = sfx.length := by omega
      rw [List.take_length] at HBE
      obtain ⟨f, hf⟩ : ∃ f, f = fromB zs sfx := ⟨_, rfl⟩
      have hfl : f < zs.length := by rw [hf]; exact from_lt zs sfx hz0
      have hfv : f = (zs.length : Int).toNat - (max b 1 + 1).toNat := by rw [hf, fromB, ← HBE.out]
      have HFE := Lib.hid hf
      clear hf
      obtain ⟨ys, hys⟩ : ∃ ys, ys = zs.drop f := ⟨_, rfl⟩
      have hyl : ys.length = zs.length - f := by rw [hys, List.length_drop]
      have HY := Lib.hid hys
      have HOUT : Hid (outB ys ys.length = siteB nm sfx) := Lib.hid (site_out nm sfx zs ys HZ.out (by rw [hys, HFE.out]))
      have HYS : Hid (∀ y ∈ ys, y.size ≤ 1048576) := Lib.hid (fun y hy => by
        have := split_sizes nm y (by rw [← HZ.out]; rw [hys] at hy; exact List.mem_of_mem_drop hy)
        omega)
      have HZS : Hid (∀ y ∈ zs, y.size ≤ 1048576) := Lib.hid (fun y hy => by
        have := split_sizes nm y (by rw [← HZ.out]; exact hy)
        omega)
      have HYL : Hid (ys.length = zs.length - f) := Lib.hid hyl
      clear hys hyl
      by_cases hb : b = 0
      · subst hb
        by_cases hneg : (zs.length : Int) - 1 - 1 < 0
        · have hf0 : f ≤ 0 := by omega
          clear hfv
          go_wp2_with fail
          go_loopw [11, 12] (fun o i wr => ∃ n : Nat, f ≤ n ∧ n ≤ zs.length ∧ i = .int .i64 n ∧ o = .string (outB ys (n - f)) ∧ Hid (GSt w B zs wr)) (fun _ i _ => zs.length - (intOf i).toNat)
          case atStart => exact ⟨f, Nat.le_refl _, by omega, by rw [show (f : Int) = 0 by omega], by rw [Nat.sub_self]; rfl, HS.out⟩
          case round =>
            clear HS
            obtain ⟨n, hfn, hn, rfl, rfl, HS⟩ := hrel
            by_cases hlt : n < zs.length
            · obtain ⟨ad, e, hcell⟩ := str_at HS.out.c n hlt
              subst e
              have hzn : zs[n].size ≤ 1048576 := HZS.out _ (List.getElem_mem _)
              have hos := out_small zs ys (n - f) HYS.out (by omega)
              obtain ⟨o, ho⟩ : ∃ o, o = outB ys (n - f) := ⟨_, rfl⟩
              rw [← ho] at hos ⊢
              by_cases hgt : f < n
              · exfalso; omega
              · obtain rfl : n = f := by omega
                have hd : decide ((0 : Int) < (n : Int)) = false := decide_eq_false (by omega)
                have hd2 : decide (0 < n) = false := decide_eq_false (by omega)
                have hnx := out_first zs ys n HY.out hlt
                obtain ⟨x, hx⟩ : ∃ x, x = zs[n] := ⟨_, rfl⟩
                rw [← hx] at hzn hcell hnx
                have HNX := Lib.hid hnx
                have HO : Hid (o = ⟨#[]⟩) := Lib.hid (by rw [ho, Nat.sub_self]; rfl)
                clear hx ho hnx
                go_wp2
                go_roundw
                case rel => exact ⟨n + 1, by omega, by omega, by simp, by rw [HNX.out, HO.out], HS.out.then (by first | exact Below.refl _ _ | exact (Below.refl _ _).drew)⟩
                case measure => simp [intOf]; omega
            · obtain rfl : n = zs.length := by omega
              go_wp2
              go_ret
              exact ⟨by rw [← HYL.out, HOUT.out]; rfl, HS.out.b⟩
        · have hval : (zs.length : Int) - 1 - 1 = (f : Int) := by omega
          clear hfv
          go_wp2_with fail
          clear hval
          go_loopw [11, 12] (fun o i wr => ∃ n : Nat, f ≤ n ∧ n ≤ zs.length ∧ i = .int .i64 n ∧ o = .string (outB ys (n - f)) ∧ Hid (GSt w B zs wr)) (fun _ i _ => zs.length - (intOf i).toNat)
          case atStart => exact ⟨f, Nat.le_refl _, by omega, rfl, by rw [Nat.sub_self]; rfl, HS.out⟩
          case round =>
            clear HS
            obtain ⟨n, hfn, hn, rfl, rfl, HS⟩ := hrel
            by_cases hlt : n < zs.length
            · obtain ⟨ad, e, hcell⟩ := str_at HS.out.c n hlt
              subst e
              have hzn : zs[n].size ≤ 1048576 := HZS.out _ (List.getElem_mem _)
              have hos := out_small zs ys (n - f) HYS.out (by omega)
              obtain ⟨o, ho⟩ : ∃ o, o = outB ys (n - f) := ⟨_, rfl⟩
              rw [← ho] at hos ⊢
              by_cases hgt : f < n
              · have hnx := out_next zs ys f n HY.out hgt hlt
                rw [← ho] at hnx
                obtain ⟨x, hx⟩ : ∃ x, x = zs[n] := ⟨_, rfl⟩
                rw [← hx] at hzn hcell hnx
                have HNX := Lib.hid hnx
                have hd : decide ((f : Int) < (n : Int)) = true := decide_eq_true (by omega)
                have hd2 : decide (f < n) = true := decide_eq_true hgt
                have hps : (⟨#[46]⟩ : ByteArray).size = 1 := rfl
                clear hx ho hnx
                go_wp2
                go_roundw
                case rel => exact ⟨n + 1, by omega, by omega, by simp, by rw [HNX.out], HS.out.then (by first | exact Below.refl _ _ | exact (Below.refl _ _).drew)⟩
                case measure => simp [intOf]; omega
              · obtain rfl : n = f := by omega
                have hnx := out_first zs ys n HY.out hlt
                obtain ⟨x, hx⟩ : ∃ x, x = zs[n] := ⟨_, rfl⟩
                rw [← hx] at hzn hcell hnx
                have HNX := Lib.hid hnx
                have HO : Hid (o = ⟨#[]⟩) := Lib.hid (by rw [ho, Nat.sub_self]; rfl)
                clear hx ho hnx
                go_wp2
                go_roundw
                case rel => exact ⟨n + 1, by omega, by omega, by simp, by rw [HNX.out, HO.out], HS.out.then (by first | exact Below.refl _ _ | exact (Below.refl _ _).drew)⟩
                case measure => simp [intOf]; omega
            · obtain rfl : n = zs.length := by omega
              go_wp2
              go_ret
              exact ⟨by rw [← HYL.out, HOUT.out]; rfl, HS.out.b⟩
      · have hb2 : (b == 0) = false := by simpa using hb
        by_cases hneg : (zs.length : Int) - b - 1 < 0
        · have hf0 : f ≤ 0 := by omega
          clear hfv
          go_wp2_with fail
          go_loopw [11, 12] (fun o i wr => ∃ n : Nat, f ≤ n ∧ n ≤ zs.length ∧ i = .int .i64 n ∧ o = .string (outB ys (n - f)) ∧ Hid (GSt w B zs wr)) (fun _ i _ => zs.length - (intOf i).toNat)
          case atStart => exact ⟨f, Nat.le_refl _, by omega, by rw [show (f : Int) = 0 by omega], by rw [Nat.sub_self]; rfl, HS.out⟩
          case round =>
            clear HS
            obtain ⟨n, hfn, hn, rfl, rfl, HS⟩ := hrel
            by_cases hlt : n < zs.length
            · obtain ⟨ad, e, hcell⟩ := str_at HS.out.c n hlt
              subst e
              have hzn : zs[n].size ≤ 1048576 := HZS.out _ (List.getElem_mem _)
              have hos := out_small zs ys (n - f) HYS.out (by omega)
              obtain ⟨o, ho⟩ : ∃ o, o = outB ys (n - f) := ⟨_, rfl⟩
              rw [← ho] at hos ⊢
              by_cases hgt : f < n
              · have hnx := out_next zs ys f n HY.out hgt hlt
                rw [← ho] at hnx
                obtain ⟨x, hx⟩ : ∃ x, x = zs[n] := ⟨_, rfl⟩
                rw [← hx] at hzn hcell hnx
                have HNX := Lib.hid hnx
                have hd : decide ((0 : Int) < (n : Int)) = true := decide_eq_true (by omega)
                have hd2 : decide (0 < n) = true := decide_eq_true (by omega)
                have hps : (⟨#[46]⟩ : ByteArray).size = 1 := rfl
                clear hx ho hnx
                go_wp2
                go_roundw
                case rel => exact ⟨n + 1, by omega, by omega, by simp, by rw [HNX.out], HS.out.then (by first | exact Below.refl _ _ | exact (Below.refl _ _).drew)⟩
                case measure => simp [intOf]; omega
              · obtain rfl : n = f := by omega
                have hd : decide ((0 : Int) < (n : Int)) = false := decide_eq_false (by omega)
                have hd2 : decide (0 < n) = false := decide_eq_false (by omega)
                have hnx := out_first zs ys n HY.out hlt
                obtain ⟨x, hx⟩ : ∃ x, x = zs[n] := ⟨_, rfl⟩
                rw [← hx] at hzn hcell hnx
                have HNX := Lib.hid hnx
                have HO : Hid (o = ⟨#[]⟩) := Lib.hid (by rw [ho, Nat.sub_self]; rfl)
                clear hx ho hnx
                go_wp2
                go_roundw
                case rel => exact ⟨n + 1, by omega, by omega, by simp, by rw [HNX.out, HO.out], HS.out.then (by first | exact Below.refl _ _ | exact (Below.refl _ _).drew)⟩
                case measure => simp [intOf]; omega
            · obtain rfl : n = zs.length := by omega
              go_wp2
              go_ret
              exact ⟨by rw [← HYL.out, HOUT.out]; rfl, HS.out.b⟩
        · have hval : (zs.length : Int) - b - 1 = (f : Int) := by omega
          clear hfv
          go_wp2_with fail
          clear hval
          go_loopw [11, 12] (fun o i wr => ∃ n : Nat, f ≤ n ∧ n ≤ zs.length ∧ i = .int .i64 n ∧ o = .string (outB ys (n - f)) ∧ Hid (GSt w B zs wr)) (fun _ i _ => zs.length - (intOf i).toNat)
          case atStart => exact ⟨f, Nat.le_refl _, by omega, rfl, by rw [Nat.sub_self]; rfl, HS.out⟩
          case round =>
            clear HS
            obtain ⟨n, hfn, hn, rfl, rfl, HS⟩ := hrel
            by_cases hlt : n < zs.length
            · obtain ⟨ad, e, hcell⟩ := str_at HS.out.c n hlt
              subst e
              have hzn : zs[n].size ≤ 1048576 := HZS.out _ (List.getElem_mem _)
              have hos := out_small zs ys (n - f) HYS.out (by omega)
              obtain ⟨o, ho⟩ : ∃ o, o = outB ys (n - f) := ⟨_, rfl⟩
              rw [← ho] at hos ⊢
              by_cases hgt : f < n
              · have hnx := out_next zs ys f n HY.out hgt hlt
                rw [← ho] at hnx
                obtain ⟨x, hx⟩ : ∃ x, x = zs[n] := ⟨_, rfl⟩
                rw [← hx] at hzn hcell hnx
                have HNX := Lib.hid hnx
                have hd : decide ((f : Int) < (n : Int)) = true := decide_eq_true (by omega)
                have hd2 : decide (f < n) = true := decide_eq_true hgt
                have hps : (⟨#[46]⟩ : ByteArray).size = 1 := rfl
                clear hx ho hnx
                go_wp2
                go_roundw
                case rel => exact ⟨n + 1, by omega, by omega, by simp, by rw [HNX.out], HS.out.then (by first | exact Below.refl _ _ | exact (Below.refl _ _).drew)⟩
                case measure => simp [intOf]; omega
              · obtain rfl : n = f := by omega
                have hnx := out_first zs ys n HY.out hlt
                obtain ⟨x, hx⟩ : ∃ x, x = zs[n] := ⟨_, rfl⟩
                rw [← hx] at hzn hcell hnx
                have HNX := Lib.hid hnx
                have HO : Hid (o = ⟨#[]⟩) := Lib.hid (by rw [ho, Nat.sub_self]; rfl)
                clear hx ho hnx
                go_wp2
                go_roundw
                case rel => exact ⟨n + 1, by omega, by omega, by simp, by rw [HNX.out, HO.out], HS.out.then (by first | exact Below.refl _ _ | exact (Below.refl _ _).drew)⟩
                case measure => simp [intOf]; omega
            · obtain rfl : n = zs.length := by omega
              go_wp2
              go_ret
              exact ⟨by rw [← HYL.out, HOUT.out]; rfl, HS.out.b⟩
end Go.Proofs.YtbhlmdaogdhjdaaDoor.H
