import Derived.Test.YtbhlmdaogdhjdaaDoorHn
import Derived.Deep.QuietTactic
import Derived.BigQuiet
import Derived.Deep.RegionWith
import Derived.Deep.DeepCutAuto
/-! HostMore. -/
namespace Go.Proofs.YtbhlmdaogdhjdaaDoor.H
open Go.RowKit Go.Shelf Go.Joins Go.Proofs.YtbhlmdaogdhjdaaDoorW.PrintWords Go.Proofs.YtbhlmdaogdhjdaaDoorW.PrintLast Go.Proofs.YtbhlmdaogdhjdaaDoorW.PrintMore
set_option linter.unusedVariables false

/-- Is a suffix as long as the name? -/
def wholeB (n : Nat) (l : List ByteArray) : Bool := l.any fun x => decide (n ≤ (splitB x 46).length)
theorem wholeB_snoc (n : Nat) (l : List ByteArray) (x : ByteArray) : wholeB n (l ++ [x]) = (wholeB n l || decide (n ≤ (splitB x 46).length)) := by simp [wholeB]
theorem wholeB_no {n : Nat} {l : List ByteArray} (h : wholeB n l = false) : ∀ x ∈ l, (splitB x 46).length < n := by
  intro x hx
  unfold wholeB at h
  have := List.any_eq_false.1 h x hx
  simp only [decide_eq_true_eq] at this
  omega
set_option maxRecDepth 100000 in
set_option maxHeartbeats 4000000 in
theorem more_early (s lb nm : ByteArray) (v4 : Bool) (a er : Int) (hve : v4 = true ∨ er = 20) (A : Option Addr) (c : Nat) (sfx : List ByteArray) (w : World) (ht : Tab w)
    (hP : Gives 12 #[.string s] (.tuple #[.agg #[.string nm, .bool v4, .int .u32 a], .int .i64 er])) :
    Calls Tryd.prog 8 #[.string s, .string lb, .slice A sfx.length c] w fun e w' => e = .returned (.bool true) ∧ Below w.heap.size w w' := by
  have HA := Lib.hid (awake_calls w ht)
  have HP := Lib.hid hP
  have HVE := Lib.hid hve
  clear ht hP hve
  go_enter Tryd.func8, Tryd.ntmps8
  go_wp2_with fail
  refine HA.out.mono ?_
  rintro e w1 ⟨rfl, hb⟩
  have HB1 := Lib.hid hb
  clear hb HA
  go_wp2_with fail
  refine (HP.out _).mono ?_
  rintro e w2 ⟨rfl, hb⟩
  have HB2 := Lib.hid (below_alloc (below_then HB1.out HB1.out.size hb) (.cells #[.string nm, .bool v4, .int .u32 a] 25))
  have hh := blk_new w2 (.cells #[.string nm, .bool v4, .int .u32 a] 25)
  have c1 := blk_cell hh 1
  clear hb HB1 HP hh
  by_cases he : er = 20
  · subst he
    go_wp2
    go_ret
    exact ⟨rfl, HB2.out⟩
  · obtain rfl : v4 = true := by rcases HVE.out with h | h; exact h; exact absurd h he
    by_cases h0 : er = 0
    · subst h0
      go_wp2
      go_ret
      exact ⟨rfl, HB2.out⟩
    · have e1 : (er == 0) = false := by simpa using h0
      have e2 : (er != 0) = true := by simp [h0]
      go_wp2
      go_ret
      exact ⟨rfl, HB2.out⟩
set_option maxRecDepth 100000 in
set_option maxHeartbeats 4000000 in
theorem more_core (s t lb gn : ByteArray) (g4 : Bool) (ga ge : Int) (A : Option Addr) (c : Nat) (sfx : List ByteArray) (hslb : s.size ≤ 1048576 ∧ lb.size ≤ 1048576) (htz : t.size ≤ 1048576) (hgz : gn.size ≤ 3145728) (hgs : g4 = false → ge = 0 → gn.size ≤ 1048576)
    (hmore : g4 = false → ge = 0 → (splitB gn 46).length = (splitB t 46).length + 1 → wholeB (splitB t 46).length sfx = false → 2 ≤ (splitB t 46).length → siteB gn sfx = siteB t sfx)
    (hone : (splitB t 46).length < 2 → siteB t sfx = t) (hge : ge = 0 ∨ ge = 20)
    (w : World) (ht : Tab w) (hC : Kd.C Kd.string w A sfx.length sfx) (hsz : ∀ z ∈ sfx, z.size ≤ 9223372036854775807)
    (hP : Gives 12 #[.string s] (.tuple #[.agg #[.string t, .bool false, .int .u32 0], .int .i64 0]))
    (hQ : Gives 12 #[.string (lb ++ ⟨#[46]⟩ ++ s)] (.tuple #[.agg #[.string gn, .bool g4, .int .u32 ga], .int .i64 ge])) :
    Calls Tryd.prog 8 #[.string s, .string lb, .slice A sfx.length c] w fun e w' => e = .returned (.bool true) ∧ Below w.heap.size w w' := by
  have HA := Lib.hid (awake_calls w ht)
  have HT := Lib.hid ht
  have HP := Lib.hid hP
  have HQ := Lib.hid hQ
  have HC := Lib.hid hC
  have HSZ9 := Lib.hid hsz
  have HM := Lib.hid hmore
  have HO := Lib.hid hone
  have HGS := Lib.hid hgs
  have HGE := Lib.hid hge
  have hln : sfx.length ≤ 9223372036854775807 := HC.out.2.1
  obtain ⟨hs1, hl1⟩ := hslb
  clear ht hP hQ hC hsz hmore hone hgs hge
  go_enter Tryd.func8, Tryd.ntmps8
  go_wp2_with fail
  refine HA.out.mono ?_
  rintro e w1 ⟨rfl, hb⟩
  have HB1 := Lib.hid hb
  clear hb HA
  go_wp2_with fail
  refine (HP.out _).mono ?_
  rintro e w2 ⟨rfl, hb⟩
  have HB2 := Lib.hid (below_alloc (below_then HB1.out HB1.out.size hb) (.cells #[.string t, .bool false, .int .u32 0] 25))
  have HH := Lib.hid (blk_new w2 (.cells #[.string t, .bool false, .int .u32 0] 25))
  have c1 := blk_cell HH.out 1
  clear hb HB1 HP
  by_cases hl : (200 : Int) < (sfx.length : Int)
  · have hd2 : decide ((200 : Int) < (sfx.length : Int)) = true := decide_eq_true hl
    have hd3 : decide (200 < sfx.length) = true := decide_eq_true (by omega)
    go_wp2
    go_ret
    exact ⟨rfl, HB2.out⟩
  · have hd2 : decide ((200 : Int) < (sfx.length : Int)) = false := decide_eq_false hl
    have hd3 : decide (200 < sfx.length) = false := decide_eq_false (by omega)
    have hsm : sfx.length ≤ 200 := by omega
    go_wp2_with fail
    clear c1
    obtain ⟨bh, hbh⟩ : ∃ k, k = w2.heap.size := ⟨_, rfl⟩
    rw [← hbh] at HH ⊢
    obtain ⟨w3, hw3⟩ : ∃ x, x = w2.alloc (.cells #[.string t, .bool false, .int .u32 0] 25) := ⟨_, rfl⟩
    rw [← hw3] at HB2 HH ⊢
    clear hbh hw3
    go_loopw [10] (fun i wr => ∃ k : Nat, k ≤ sfx.length ∧ i = .int .i64 k ∧ Hid (Below w3.heap.size w3 wr) ∧ Hid (∀ x ∈ sfx.take k, x.size ≤ 1000)) (fun i _ => sfx.length - (intOf i).toNat)
    case atStart => exact ⟨0, Nat.zero_le _, rfl, Below.refl _ _, fun x h => by simp at h⟩
    case round =>
      obtain ⟨k, hk, rfl, HB3, HS⟩ := hrel
      by_cases hlt : k < sfx.length
      · obtain ⟨ad, e, hcell⟩ := str_at HC.out k hlt
        subst e
        have ce : wr.cell? (ad.add k) = some (.string sfx[k]) := cell_below (below_then HB2.out HB2.out.size HB3.out) hcell
        have hz9 : sfx[k].size ≤ 9223372036854775807 := HSZ9.out _ (List.getElem_mem _)
        obtain ⟨z, hz⟩ : ∃ z, z = sfx[k] := ⟨_, rfl⟩
        rw [← hz] at ce hz9
        have HZ := Lib.hid hz
        clear hcell hz
        by_cases hbig : (1000 : Int) < (z.size : Int)
        · have hdb : decide ((1000 : Int) < (z.size : Int)) = true := decide_eq_true hbig
          go_wp2
          go_ret
          exact ⟨rfl, below_then HB2.out HB2.out.size HB3.out⟩
        · have hdb : decide ((1000 : Int) < (z.size : Int)) = false := decide_eq_false hbig
          have HS2 : Hid (∀ x ∈ sfx.take (k + 1), x.size ≤ 1000) := Lib.hid (fun x hx => by
            rw [List.take_succ_eq_append_getElem hlt, ← HZ.out, List.mem_append, List.mem_singleton] at hx
            rcases hx with hx | rfl
            · exact HS.out x hx
            · omega)
          go_wp2
          go_roundw
          case rel => exact ⟨k + 1, by omega, by simp, HB3.out, HS2.out⟩
          case measure => simp [intOf]; omega
      · obtain rfl : k = sfx.length := by omega
        rw [List.take_length] at HS
        have HBW := Lib.hid (below_then HB2.out HB2.out.size HB3.out)
        have HHW := Lib.hid (blk_after HH.out HB3.out rfl)
        have HSZ : Hid (∀ z ∈ sfx, z.size < 8796093022207) := Lib.hid (fun z hz => by have := HS.out z hz; omega)
        have c0 : wr.cell? ⟨bh, 0, none⟩ = some (.string t) := blk_cell HHW.out 0
        have c1 : wr.cell? ⟨bh, 1, none⟩ = some (.bool false) := blk_cell HHW.out 1
        have c2 : wr.cell? ⟨bh, 2, none⟩ = some (.int .u32 0) := blk_cell HHW.out 2
        clear HS HSZ9 HB3 HB2 HH
        go_wp2_with fail
        refine (site_name t 0 htz A c sfx _ (Kd.C_below HC.out HBW.out) HSZ.out).mono ?_
        rintro e w4 ⟨rfl, hb⟩
        have HB4 := Lib.hid (below_then HBW.out HBW.out.size hb)
        have HH4 := Lib.hid (blk_after HHW.out hb rfl)
        obtain ⟨S, hS⟩ : ∃ S, S = siteB t sfx := ⟨_, rfl⟩
        rw [← hS] at HM HO ⊢
        have HSE := Lib.hid hS
        clear hb HBW HHW c0 c1 c2 hS
        have hp46 : (⟨#[46]⟩ : ByteArray).size = 1 := rfl
        go_wp2_with fail
        refine (HQ.out _).mono ?_
        rintro e w5 ⟨rfl, hb⟩
        have HB5 := Lib.hid (below_alloc (below_then HB4.out HB4.out.size hb) (.cells #[.string gn, .bool g4, .int .u32 ga] 25))
        have HH5 := Lib.hid (blk_alloc (blk_after HH4.out hb rfl) (.cells #[.string gn, .bool g4, .int .u32 ga] 25))
        have HG5 := Lib.hid (blk_new w5 (.cells #[.string gn, .bool g4, .int .u32 ga] 25))
        clear hb HB4 HH4 hp46
        rcases HGE.out with h0 | h20
        · subst h0
          cases g4
          · have gs := HGS.out rfl rfl
            have HM2 := Lib.hid (HM.out rfl rfl)
            clear HM HGS HGE
            have HSG := Lib.hid (fun W => split_calls gn 46 W (by omega))
            have HST := Lib.hid (fun W => split_calls t 46 W (by omega))
            obtain ⟨gl, hgl⟩ : ∃ l, l = splitB gn 46 := ⟨_, rfl⟩
            obtain ⟨tl, htl⟩ : ∃ l, l = splitB t 46 := ⟨_, rfl⟩
            have hgn : gl.length ≤ 1048577 := by have := (splitB_length gn 46).1; rw [← hgl] at this; omega
            have htn : tl.length ≤ 1048577 := by have := (splitB_length t 46).1; rw [← htl] at this; omega
            have ht0 : 0 < tl.length := by have := (splitB_length t 46).2; rw [← htl] at this; omega
            rw [← hgl] at HSG HM2
            rw [← htl] at HST HM2 HO
            clear hgl htl
            have c0 := blk_cell HH5.out 0
            have g0 := blk_cell HG5.out 0
            have g1 := blk_cell HG5.out 1
            have HBD : Hid (Below w.heap.size w (w5.alloc (.cells #[.string gn, .bool false, .int .u32 ga] 25)).drew) := HB5.out.drew
            have HHD : Hid ((w5.alloc (.cells #[.string gn, .bool false, .int .u32 ga] 25)).drew.heap[bh]? = some (.cells #[.string t, .bool false, .int .u32 0] 25 (0, 0))) := HH5.out
            have HGD : Hid ((w5.alloc (.cells #[.string gn, .bool false, .int .u32 ga] 25)).drew.heap[w5.heap.size]? = some (.cells #[.string gn, .bool false, .int .u32 ga] 25 (0, 0))) := HG5.out
            have hw1 : IntKind.i64.wrap ((tl.length : Int) + 1) = (tl.length : Int) + 1 := by rw [IntKind.wrap_i64]; omega
            clear HB5 HH5 HG5
            go_upto_region 12 with (fail)
            go_cut [77] (fun v77 wc => ∃ x77 : Bool, v77 = .bool x77 ∧ Hid (x77 = true ↔ gl.length ≠ tl.length + 1) ∧ Hid (Below w.heap.size w wc) ∧ Hid (wc.heap[bh]? = some (.cells #[.string t, .bool false, .int .u32 0] 25 (0, 0))) ∧ Hid (wc.heap[w5.heap.size]? = some (.cells #[.string gn, .bool false, .int .u32 ga] 25 (0, 0))))
            case first =>
              go_region_with ((first
                | (go_at_call 19; refine (HSG.out _).mono ?_; rintro e w7 ⟨v, rfl, hR, hb⟩; obtain ⟨G, gc, rfl⟩ := Kd.R_slice hR; have HB7 := Lib.hid (below_then HBD.out HBD.out.size hb); have hh7 := blk_after HHD.out hb rfl; have hg7 := blk_after HGD.out hb rfl; have c07 : w7.cell? ⟨bh, 0, none⟩ = some (.string t) := blk_cell hh7 0; have g07 : w7.cell? ⟨w5.heap.size, 0, none⟩ = some (.string gn) := blk_cell hg7 0; have g17 : w7.cell? ⟨w5.heap.size, 1, none⟩ = some (.bool false) := blk_cell hg7 1; have HH7 := Lib.hid hh7; have HG7 := Lib.hid hg7; clear hR hb hh7 hg7)
                | (go_at_call 19; refine (HST.out _).mono ?_; rintro e w8 ⟨v, rfl, hR, hb⟩; obtain ⟨F, fc, rfl⟩ := Kd.R_slice hR; have HB8 := Lib.hid (below_then HB7.out HB7.out.size hb); have hh8 := blk_after HH7.out hb rfl; have hg8 := blk_after HG7.out hb rfl; have c08 : w8.cell? ⟨bh, 0, none⟩ = some (.string t) := blk_cell hh8 0; have g08 : w8.cell? ⟨w5.heap.size, 0, none⟩ = some (.string gn) := blk_cell hg8 0; have g18 : w8.cell? ⟨w5.heap.size, 1, none⟩ = some (.bool false) := blk_cell hg8 1; have HH8 := Lib.hid hh8; have HG8 := Lib.hid hg8; clear hR hb hh8 hg8)))
              all_goals (go_wp2_with fail; go_meet; case rel => exact ⟨_, rfl, Lib.hid (by simp only [bne_iff_ne, ne_eq]; omega), HB8.out, HH8.out, HG8.out⟩)
            case rest =>
              obtain ⟨x77, rfl, HX, HB8, HH8, HG8⟩ := hcut
              clear HBD HHD HGD c0 g0 g1 hw1
              cases x77
              · have hlen : gl.length = tl.length + 1 := by
                  by_cases h : gl.length = tl.length + 1
                  · exact h
                  · exact absurd (HX.out.2 h) (by simp)
                have HM3 := Lib.hid (HM2.out hlen)
                have hl1' : gl.length ≤ tl.length + 1 := by omega
                have hl2' : tl.length + 1 ≤ gl.length := by omega
                clear hlen HM2 HX
                have g0 := blk_cell HG8.out 0
                go_wp2_with fail
                refine (HSG.out _).mono ?_
                rintro e w9 ⟨v, rfl, hR, hb⟩
                obtain ⟨L, lc, rfl⟩ := Kd.R_slice hR
                have HB9 := Lib.hid (below_then HB8.out HB8.out.size hb)
                have HH9 := Lib.hid (blk_after HH8.out hb rfl)
                have HG9 := Lib.hid (blk_after HG8.out hb rfl)
                clear hR hb HB8 HH8 HG8 g0 HSG
                go_wp2_with fail
                obtain ⟨bg, hbg⟩ : ∃ k, k = w5.heap.size := ⟨_, rfl⟩
                rw [← hbg] at HG9 ⊢
                clear hbg
                go_loopw [14, 16] (fun wh i wr => ∃ k : Nat, k ≤ sfx.length ∧ i = .int .i64 k ∧ wh = .bool (wholeB tl.length (sfx.take k)) ∧ Hid (Below w.heap.size w wr) ∧ Hid (wr.heap[bh]? = some (.cells #[.string t, .bool false, .int .u32 0] 25 (0, 0))) ∧ Hid (wr.heap[bg]? = some (.cells #[.string gn, .bool false, .int .u32 ga] 25 (0, 0)))) (fun _ i _ => sfx.length - (intOf i).toNat)
                case atStart => exact ⟨0, Nat.zero_le _, rfl, rfl, HB9.out, HH9.out, HG9.out⟩
                case round =>
                  clear HB9 HH9 HG9
                  obtain ⟨k, hk, rfl, rfl, HB, HHr, HGr⟩ := hrel
                  by_cases hlt : k < sfx.length
                  · obtain ⟨ad, e, hcell⟩ := str_at HC.out k hlt
                    subst e
                    have ce : wr.cell? (ad.add k) = some (.string sfx[k]) := cell_below HB.out hcell
                    have hsk : sfx[k].size < 8796093022207 := HSZ.out _ (List.getElem_mem _)
                    have HNX : Hid (wholeB tl.length (sfx.take (k + 1)) = (wholeB tl.length (sfx.take k) || decide (tl.length ≤ (splitB sfx[k] 46).length))) := Lib.hid (by rw [List.take_succ_eq_append_getElem hlt, wholeB_snoc])
                    obtain ⟨x, hx⟩ : ∃ x, x = sfx[k] := ⟨_, rfl⟩
                    rw [← hx] at ce hsk HNX
                    obtain ⟨b, hb⟩ : ∃ b, b = wholeB tl.length (sfx.take k) := ⟨_, rfl⟩
                    rw [← hb] at HNX ⊢
                    clear hx hcell hb
                    go_wp2_with fail
                    refine (split_calls x 46 _ hsk).mono ?_
                    rintro e w10 ⟨v, rfl, hR, hb⟩
                    obtain ⟨E, ec, rfl⟩ := Kd.R_slice hR
                    obtain ⟨ks, hks⟩ : ∃ ks, ks = splitB x 46 := ⟨_, rfl⟩
                    have hks1 : ks.length ≤ 8796093022208 := by have := (splitB_length x 46).1; rw [← hks] at this; omega
                    rw [← hks] at HNX ⊢
                    have HB10 := Lib.hid (below_then HB.out HB.out.size hb)
                    have HH10 := Lib.hid (blk_after HHr.out hb rfl)
                    have HG10 := Lib.hid (blk_after HGr.out hb rfl)
                    clear hR hb hks HB HHr HGr ce
                    cases b
                    · by_cases hge : tl.length ≤ ks.length
                      · have hd : decide ((gl.length : Int) - 1 ≤ (ks.length : Int)) = true := decide_eq_true (by omega)
                        have HN2 : Hid (wholeB tl.length (sfx.take (k + 1)) = true) := Lib.hid (by rw [HNX.out, decide_eq_true hge]; rfl)
                        go_wp2
                        go_roundw
                        case rel => exact ⟨k + 1, by omega, by simp, by rw [HN2.out], HB10.out, HH10.out, HG10.out⟩
                        case measure => simp [intOf]; omega
                      · have hd : decide ((gl.length : Int) - 1 ≤ (ks.length : Int)) = false := decide_eq_false (by omega)
                        have HN2 : Hid (wholeB tl.length (sfx.take (k + 1)) = false) := Lib.hid (by rw [HNX.out, decide_eq_false hge]; rfl)
                        go_wp2
                        go_roundw
                        case rel => exact ⟨k + 1, by omega, by simp, by rw [HN2.out], HB10.out, HH10.out, HG10.out⟩
                        case measure => simp [intOf]; omega
                    · have HN2 : Hid (wholeB tl.length (sfx.take (k + 1)) = true) := Lib.hid (by rw [HNX.out, Bool.true_or])
                      go_wp2
                      go_roundw
                      case rel => exact ⟨k + 1, by omega, by simp, by rw [HN2.out], HB10.out, HH10.out, HG10.out⟩
                      case measure => simp [intOf]; omega
                  · obtain rfl : k = sfx.length := by omega
                    rw [List.take_length]
                    cases hwh : wholeB tl.length sfx
                    · have c0 : wr.cell? ⟨bh, 0, none⟩ = some (.string t) := blk_cell HHr.out 0
                      have g0 : wr.cell? ⟨bg, 0, none⟩ = some (.string gn) := blk_cell HGr.out 0
                      have g1 : wr.cell? ⟨bg, 1, none⟩ = some (.bool false) := blk_cell HGr.out 1
                      have g2 : wr.cell? ⟨bg, 2, none⟩ = some (.int .u32 ga) := blk_cell HGr.out 2
                      by_cases h2 : tl.length < 2
                      · have hSt := HO.out h2
                        subst hSt
                        have hd : decide ((gl.length : Int) < 3) = true := decide_eq_true (by omega)
                        have hd' : decide (gl.length < 3) = true := decide_eq_true (by omega)
                        go_wp2
                        go_ret
                        exact ⟨rfl, HB.out⟩
                      · have HM4 := Lib.hid (HM3.out hwh (by omega))
                        have hd : decide ((gl.length : Int) < 3) = false := decide_eq_false (by omega)
                        have hd' : decide (gl.length < 3) = false := decide_eq_false (by omega)
                        clear hwh HM3
                        by_cases hSt : S = t
                        · subst hSt
                          go_wp2_with fail
                          refine (site_name gn ga gs A c sfx _ (Kd.C_below HC.out HB.out) HSZ.out).mono ?_
                          rintro e w11 ⟨rfl, hb⟩
                          rw [HM4.out]
                          have HB11 := Lib.hid (below_then HB.out HB.out.size hb)
                          clear hb HB
                          go_wp2
                          go_ret
                          exact ⟨rfl, HB11.out⟩
                        · have n1 : ¬ S.toList = t.toList := fun e => hSt ((toList_inj _ _).1 e)
                          have n2 : (S.toList == t.toList) = false := beq_eq_false_iff_ne.2 n1
                          go_wp2_with fail
                          refine (site_name gn ga gs A c sfx _ (Kd.C_below HC.out HB.out) HSZ.out).mono ?_
                          rintro e w11 ⟨rfl, hb⟩
                          rw [HM4.out]
                          have HB11 := Lib.hid (below_then HB.out HB.out.size hb)
                          clear hb HB
                          go_wp2
                          go_ret
                          exact ⟨rfl, HB11.out⟩
                    · go_wp2
                      go_ret
                      exact ⟨rfl, HB.out⟩
              · go_wp2
                go_ret
                exact ⟨rfl, HB8.out⟩
          · have g1 := blk_cell HG5.out 1
            have HBD : Hid (Below w.heap.size w (w5.alloc (.cells #[.string gn, .bool true, .int .u32 ga] 25)).drew) := HB5.out.drew
            go_wp2_with fail
            go_quiet (fail)
            all_goals (go_wp2_with fail)
            go_ret
            exact ⟨rfl, pw_below_drewN HB5.out _⟩
        · subst h20
          go_wp2_with fail
          go_quiet (fail)
          all_goals (go_wp2_with fail)
          go_ret
          exact ⟨rfl, pw_below_drewN HB5.out _⟩
theorem more_calls (s : ByteArray) (hs : s.size ≤ 1048576) (lb : ByteArray) (hl : lb.size ≤ 1048576) (A : Option Addr) (c : Nat) (sfx : List ByteArray) (w : World) (ht : Tab w) (hC : Kd.C Kd.string w A sfx.length sfx) (hsz : ∀ z ∈ sfx, z.size ≤ 9223372036854775807) :
    Calls Tryd.prog 8 #[.string s, .string lb, .slice A sfx.length c] w fun e w' => e = .returned (.bool true) ∧ Below w.heap.size w w' := by
  obtain ⟨t, hte⟩ : ∃ t, t = lowerB s := ⟨_, rfl⟩
  have hP := fun p hp => parse_gives s t p (by omega) hte hp
  rcases parse_cases t with hp | ⟨hp, hlb, hz⟩ | ⟨a, a0, a1, hp, hx⟩
  · exact more_early s lb ⟨#[]⟩ false 0 20 (.inr rfl) A c sfx w ht (hP _ hp)
  · obtain ⟨g, hg⟩ : ∃ g, g = lowerB (lb ++ ⟨#[46]⟩ ++ s) := ⟨_, rfl⟩
    have hps : (⟨#[46]⟩ : ByteArray).size = 1 := rfl
    have hlz : (lb ++ ⟨#[46]⟩ ++ s).size ≤ 2097153 := by simp only [ByteArray.size_append]; omega
    have hQ := fun p hp => parse_gives (lb ++ ⟨#[46]⟩ ++ s) g p (by omega) hg hp
    have hone : (splitB t 46).length < 2 → siteB t sfx = t := fun h => by
      have hn := (splitB_length t 46).2
      have hf : fromB (splitB t 46) sfx = 0 := by have := from_lt (splitB t 46) sfx hn; omega
      apply ba_ext
      show Lib.join (((splitB t 46).drop (fromB (splitB t 46) sfx)).map (·.data.toList)) [46] = _
      rw [hf, List.drop_zero, splitB_lists, join_split]
    have hgt : g = lowerB lb ++ ⟨#[46]⟩ ++ t := by rw [hg, hte, lower_point]
    rcases parse_cases g with hq | ⟨hq, _, hgz⟩ | ⟨b, b0, b1, hq, _⟩
    · exact more_core s t lb ⟨#[]⟩ false 0 20 A c sfx ⟨hs, hl⟩ (by omega) (Nat.zero_le _) (fun _ h => by simp at h) (fun _ h => by simp at h) hone (.inr rfl) w ht hC hsz (hP _ hp) (hQ _ hq)
    · refine more_core s t lb g false 0 0 A c sfx ⟨hs, hl⟩ (by omega) (by omega) (fun _ _ => by omega) (fun _ _ hlen hwh h2 => ?_) hone (.inl rfl) w ht hC hsz (hP _ hp) (hQ _ hq)
      have hsp : splitB g 46 = splitB (lowerB lb) 46 ++ splitB t 46 := by rw [hgt, split_point]
      rw [hsp, List.length_append] at hlen
      have h1 : (splitB (lowerB lb) 46).length = 1 := by omega
      obtain ⟨l0, hl0⟩ := List.length_eq_one_iff.1 h1
      exact site_more t g l0 sfx (by rw [hsp, hl0]; rfl) (wholeB_no hwh) h2
    · exact more_core s t lb ⟨#[]⟩ true b 0 A c sfx ⟨hs, hl⟩ (by omega) (Nat.zero_le _) (fun h => by cases h) (fun h => by cases h) hone (.inl rfl) w ht hC hsz (hP _ hp) (hQ _ hq)
  · exact more_early s lb ⟨#[]⟩ true a 0 (.inl rfl) A c sfx w ht (hP _ hp)
end Go.Proofs.YtbhlmdaogdhjdaaDoor.H
