import Derived.Test.YtbkahblcabmdkaaFx
/-! FramesPlays. -/
namespace Go.Proofs.Ytbkahblcabmdkaa.F
open Go.RowKit Go.Proofs.YtbkahblcabmdkaaW.PrintWords Go.Proofs.Ytbkahblcabmdkaa.X
set_option linter.unusedVariables false

theorem RefIn.look {w : World} {b g : Nat} {S : Nat → Prop} {s : Tr} (h : RefIn w b S g s) : ∃ A c, s.F.length ≤ c ∧ ∀ w1, Below w.heap.size w w1 → w1.cell? ⟨g, 0, none⟩ = some (.slice A s.F.length c) ∧ Kd.C kFr w1 A s.F.length s.F := by
  obtain ⟨hfine, hS, hg, v, hb, hr⟩ := h
  obtain ⟨A, c, rfl⟩ := Kd.R_slice hr
  exact ⟨A, c, formed_le hr, fun w1 h1 => ⟨blk_cell ((h1.block g (blk_lt hb)).trans hb) 0, Kd.C_below (Kd.R_reads' hr).2.2 h1⟩⟩
set_option maxRecDepth 100000 in
theorem plays_bad (m : Int) (hm : m < 1 ∨ 200 < m) (A : Option Addr) (c : Nat) (sc : List Cl) (id : Int) (w : World) :
    Calls Try.prog 6 #[.int .i64 m, .slice A sc.length c, .int .i64 id] w fun e w' => e = .returned (.bool true) ∧ Below w.heap.size w w' := by
  have HA := Lib.hid (awake_calls w)
  go_enter Try.func6, Try.ntmps6
  go_wp2_with fail
  refine HA.out.mono ?_
  rintro e w1 ⟨rfl, hb⟩
  have HB1 := Lib.hid hb
  clear hb HA
  go_wp2_with fail
  refine (new_bad m hm w1).mono ?_
  rintro e w2 ⟨rfl, rfl⟩
  go_wp2_with fail
  refine (ref_new_bad m hm w1).mono ?_
  rintro e w2 ⟨rfl, rfl⟩
  go_wp2
  go_ret
  exact ⟨rfl, HB1.out⟩
set_option maxRecDepth 100000 in
set_option maxHeartbeats 2000000 in
theorem plays_good (m : Int) (h0 : 1 ≤ m) (h1 : m ≤ 200) (A : Option Addr) (c : Nat) (sc : List Cl) (id : Int) (i0 : -9223372036854775808 ≤ id) (i1 : id ≤ 9223372036854775807) (w : World) (hC : Kd.C kCl w A sc.length sc) (hq : ∀ x ∈ sc, -9223372036854775808 ≤ x.nn ∧ x.nn ≤ 9223372036854775807) :
    Calls Try.prog 6 #[.int .i64 m, .slice A sc.length c, .int .i64 id] w fun e w' => e = .returned (.bool true) ∧ Below w.heap.size w w' := by
  have HA := Lib.hid (awake_calls w)
  have HC := Lib.hid hC
  have HQ := Lib.hid hq
  have hsl : sc.length ≤ 9223372036854775807 := HC.out.2.1
  clear hC hq
  go_enter Try.func6, Try.ntmps6
  go_wp2_with fail
  refine HA.out.mono ?_
  rintro e w1 ⟨rfl, hb⟩
  have HB1 := Lib.hid hb
  clear hb HA
  go_wp2_with fail
  refine (new_good m h0 h1 w1).mono ?_
  rintro e w2 ⟨rfl, hT, hb⟩
  obtain ⟨g, hg⟩ : ∃ k, k = w1.heap.size + 1 := ⟨_, rfl⟩
  obtain ⟨bm, hbm⟩ : ∃ k, k = w1.heap.size := ⟨_, rfl⟩
  rw [← hg] at hT ⊢
  rw [show TreeIn w2 g w1.heap.size (fresh m) = TreeIn w2 g bm (fresh m) by rw [hbm]] at hT
  have HB2 := Lib.hid (below_then HB1.out HB1.out.size hb)
  have HT2 := Lib.hid hT
  have HGB : Hid (w.heap.size ≤ g ∧ w.heap.size ≤ bm) := Lib.hid (by have := HB1.out.size; omega)
  clear hT hb hg hbm
  go_wp2_with fail
  refine (ref_new_good m h0 h1 w2 w.heap.size HB2.out.size (fresh_fine m h0 h1)).mono ?_
  rintro e w3 ⟨rfl, hR, hb⟩
  have hlt2 := HT2.out.lt
  have HTW := Lib.hid (show ∃ S, Two w.heap.size w3 g bm w2.heap.size S (fresh m) from ⟨_, HT2.out.below hb, hR, ⟨fun h => by omega, fun h => by omega⟩, HGB.out⟩)
  have HB3 := Lib.hid (below_then HB2.out HB2.out.size hb)
  obtain ⟨gr, hgr⟩ : ∃ k, k = w2.heap.size := ⟨_, rfl⟩
  rw [← hgr] at HTW ⊢
  clear hR hb hlt2 hgr HT2 HB2 HB1
  go_wp2_with fail
  go_loopw [12] (fun i wr => ∃ k : Nat, k ≤ sc.length ∧ k ≤ 120 ∧ i = .int .i64 k ∧ Hid (∃ S, Two w.heap.size wr g bm gr S (playF m (sc.take k))) ∧ Hid (Below w.heap.size w wr)) (fun i _ => sc.length - (RowKit.intOf i).toNat)
  case atStart => exact ⟨0, Nat.zero_le _, by omega, rfl, HTW, HB3⟩
  case round =>
    clear HTW HB3
    obtain ⟨k, hk, hk2, rfl, HP, HB⟩ := hrel
    by_cases hlt : k < sc.length
    · by_cases hlt2 : k < 120
      · have hd2 : decide ((k : Int) < 120) = true := decide_eq_true (by omega)
        have hd3 : decide (k < 120) = true := decide_eq_true hlt2
        obtain ⟨ad, e1, g0, g1, g2⟩ := at_Cl (Kd.C_below HC.out HB.out) k hlt
        subst e1
        have hqx := HQ.out _ (List.getElem_mem hlt)
        have HNX := Lib.hid (play_take m sc k hlt)
        have hpl := play_last m sc k
        obtain ⟨S, hS⟩ := HP.out
        obtain ⟨x, hx⟩ : ∃ x, x = sc[k] := ⟨_, rfl⟩
        rw [← hx] at g0 g1 g2 hqx HNX
        obtain ⟨s, hs⟩ : ∃ s, s = playF m (sc.take k) := ⟨_, rfl⟩
        rw [← hs] at hS HNX hpl
        obtain ⟨s', hs'⟩ : ∃ s, s = playF m (sc.take (k + 1)) := ⟨_, rfl⟩
        rw [← hs'] at HNX
        have HSP := Lib.hid hs'
        obtain ⟨kd, nn, mm⟩ := x
        dsimp only at g0 g1 g2 hqx
        have hba := below_alloc (Below.refl wr.heap.size wr) (.cells #[.int .i64 kd, .int .i64 nn, .int .i64 mm] 50)
        have hn4 := blk_new wr (.cells #[.int .i64 kd, .int .i64 nn, .int .i64 mm] 50)
        have HT4 := Lib.hid (hS.below hba)
        have HB4 := Lib.hid (below_then HB.out HB.out.size hba)
        have HLT : Hid (g < wr.heap.size ∧ bm < wr.heap.size ∧ ∀ i, S i → i < wr.heap.size) := Lib.hid ⟨hS.t.lt.1, hS.t.lt.2, fun i hi => (hS.r.2.1 i hi).2⟩
        have HLO : Hid (∀ i, S i → w.heap.size ≤ i) := Lib.hid (fun i hi => (hS.r.2.1 i hi).1)
        clear hx hs hs' hS HP
        go_wp2_with fail
        obtain ⟨w4, hw4⟩ : ∃ x, x = wr.alloc (.cells #[.int .i64 kd, .int .i64 nn, .int .i64 mm] 50) := ⟨_, rfl⟩
        obtain ⟨b4, hb4⟩ : ∃ x, x = wr.heap.size := ⟨_, rfl⟩
        rw [← hw4, ← hb4] at hn4
        rw [← hb4] at HLT
        rw [← hw4] at HT4 HB4 ⊢
        try rw [← hb4]
        have HN4 := Lib.hid hn4
        clear hn4 hw4 hb4 hba g0 g1 g2 HB
        refine (did_calls w.heap.size g bm gr S s ⟨kd, nn, mm⟩ hqx.1 hqx.2 w4 HB4.out.size HT4.out (by omega)).mono ?_
        rintro e w5 ⟨rfl, ⟨T, hT5⟩, hU⟩
        rw [← HNX.out] at hT5
        have h5 : w5.heap[b4]? = some (.cells #[.int .i64 kd, .int .i64 nn, .int .i64 mm] 50 (0, 0)) := hU.keep HN4.out (fun hi => by
          have h := HLT.out
          rcases hi with hi | hi | hi
          · omega
          · omega
          · have := h.2.2 _ hi; omega)
        have n1 : w5.cell? ⟨b4, 1, none⟩ = some (.int .i64 nn) := blk_cell h5 1
        have HT5 := Lib.hid hT5
        have HB5 := Lib.hid (below_turn HB4.out HB4.out.size hU (fun i hi => by
          rcases hi with hi | hi | hi
          · rw [hi]; exact HGB.out.1
          · rw [hi]; exact HGB.out.2
          · exact HLO.out i hi))
        clear hT5 hU h5 HN4 HT4 HB4
        go_wp2_with fail
        refine (asked_calls w.heap.size g bm gr T s' nn hqx.1 hqx.2 w5 HT5.out).mono ?_
        rintro e w6 ⟨rfl, hb⟩
        have HT6 := Lib.hid (HT5.out.below hb)
        have HB6 := Lib.hid (below_then HB5.out HB5.out.size hb)
        clear hb HT5 HB5 n1
        go_wp2_with fail
        refine (asked_calls w.heap.size g bm gr T s' id i0 i1 w6 HT6.out).mono ?_
        rintro e w7 ⟨rfl, hb⟩
        have HT7 := Lib.hid (HT6.out.below hb)
        have HB7 := Lib.hid (below_then HB6.out HB6.out.size hb)
        clear hb HT6 HB6
        go_wp2_with fail
        obtain ⟨AR, cR, hcR, hlook⟩ := HT7.out.r.look
        have hdw : Below w7.heap.size w7 w7.drew := ⟨rfl, rfl, rfl, Nat.le_refl _, fun _ _ => rfl⟩
        have HT8 := Lib.hid (HT7.out.below hdw)
        have HB8 := Lib.hid (below_then HB7.out HB7.out.size hdw)
        have HLK := Lib.hid hlook
        have HDW := Lib.hid hdw
        have HCR := Lib.hid hcR
        have y0 : w7.cell? ⟨gr, 0, none⟩ = some (.slice AR s'.F.length cR) := (hlook _ (Below.refl _ _)).1
        have hsF : s'.F.length ≤ 1000000 := by have := HT7.out.t.fine.room; have := HT7.out.t.fine.m1; omega
        have HSF := Lib.hid hsF
        clear hlook hdw hcR hsF HT7 HB7
        go_region_held3 (fun w' => w'.cell? ⟨gr, 0, none⟩ = some (.slice AR s'.F.length cR)) (first | exact y0 | exact y1 | exact y2) ((first
          | (go_at_call 11; refine (all_to g bm s' w7.drew HT8.out.t).mono ?_; rintro e w8 ⟨A8, c8, rfl, hW, hb⟩; have HT9 := Lib.hid (HT8.out.below hb); have HB9 := Lib.hid (below_then HB8.out HB8.out.size hb); have hl9 := HLK.out w8 (below_then HDW.out HDW.out.size hb); have y1 : w8.cell? ⟨gr, 0, none⟩ = some (.slice AR s'.F.length cR) := hl9.1; have HSC := Lib.hid (same_calls A8 AR c8 cR s'.F HSF.out w8 (Kd.R_reads' hW).2.2 (formed_le hW) hl9.2 HCR.out); clear hW hb hl9)
          | (go_at_call 16; refine HSC.out.mono ?_; rintro e w9 ⟨rfl, hb⟩; have HTA := Lib.hid (HT9.out.below hb); have HBA := Lib.hid (below_then HB9.out HB9.out.size hb); have y2 : w9.cell? ⟨gr, 0, none⟩ = some (.slice AR s'.F.length cR) := cell_below' hb y1; clear hb)))
        go_wp2
        go_roundw
        case rel => exact ⟨k + 1, by omega, by omega, by simp, by rw [← HSP.out]; exact Lib.hid ⟨T, HTA.out⟩, HBA⟩
        case measure => simp [RowKit.intOf]; omega
      · obtain rfl : k = 120 := by omega
        go_wp2
        go_ret
        exact ⟨rfl, HB.out⟩
    · obtain rfl : k = sc.length := by omega
      go_wp2
      go_ret
      exact ⟨rfl, HB.out⟩
theorem plays_law (m : Int) (A : Option Addr) (c : Nat) (sc : List Cl) (id : Int) (i0 : -9223372036854775808 ≤ id) (i1 : id ≤ 9223372036854775807) (w : World) (hC : Kd.C kCl w A sc.length sc) (hq : ∀ x ∈ sc, -9223372036854775808 ≤ x.nn ∧ x.nn ≤ 9223372036854775807) :
    Calls Try.prog 6 #[.int .i64 m, .slice A sc.length c, .int .i64 id] w fun e w' => e = .returned (.bool true) ∧ Below w.heap.size w w' := by
  by_cases h : 1 ≤ m ∧ m ≤ 200
  · exact plays_good m h.1 h.2 A c sc id i0 i1 w hC hq
  · exact plays_bad m (by omega) A c sc id w
end Go.Proofs.Ytbkahblcabmdkaa.F
