import Derived.Test.YtpkaihjiecihlaaLg
import Derived.Test.YtpkaihjiecihlaaLh
import Derived.Deep.RegionHeld3
/-! LedgerPlays. -/
namespace Go.Proofs.Ytpkaihjiecihlaa.L
open Go.RowKit Go.Proofs.YtpkaihjiecihlaaW.PrintWords Go.Proofs.YtpkaihjiecihlaaW.PrintLast Go.Proofs.YtpkaihjiecihlaaW.PrintMore Go.Proofs.Ytpkaihjiecihlaa.X

/-- A ledger and its reference, apart. -/
def Two (w : World) (b ga gb : Nat) (s t : LSt) : Prop := b ≤ w.heap.size ∧ ∃ S1 S2 : Nat → Prop, (∀ k, S1 k → ¬ S2 k) ∧ LedIn w b S1 ga s ∧ RefIn w b S2 gb t
theorem Two.below {w w1 : World} {b ga gb : Nat} {s t : LSt} (h : Two w b ga gb s t) (hb : Below w.heap.size w w1) : Two w1 b ga gb s t := by
  obtain ⟨h0, S1, S2, hd, h1, h2⟩ := h
  exact ⟨Nat.le_trans h0 hb.size, S1, S2, hd, h1.below hb, h2.below hb⟩
theorem Two.drew {w : World} {b ga gb : Nat} {s t : LSt} (h : Two w b ga gb s t) : Two w.drew b ga gb s t := by
  obtain ⟨h0, S1, S2, hd, h1, h2⟩ := h
  exact ⟨h0, S1, S2, hd, h1.move (Nat.le_refl _) (fun _ _ => rfl), h2.move (Nat.le_refl _) (fun _ _ => rfl)⟩
theorem addL (g g2 b : Nat) (s t : LSt) (A : Option Addr) (c : Nat) (l : List S44) (w : World) (h : Two w b g g2 s t) (hl : k44.C w A l.length l) :
    Calls Try.prog 14 #[.pointer (some ⟨g, 0, none⟩), .slice A l.length c] w fun e w' => e = .returned (.int .i64 (addTo s l).1) ∧ Two w' b g g2 (addTo s l).2 t ∧ Below b w w' := by
  obtain ⟨h0, S1, S2, hd, h1, h2⟩ := h
  refine (add_calls g b S1 s A c l w h0 h1 hl).mono ?_
  rintro e w' ⟨rfl, h3, ht⟩
  exact ⟨rfl, ⟨Nat.le_trans h0 ht.size, _, S2, fun k hk hk2 => hk.elim (fun h => hd k h hk2) (fun h => by have := (h2.2.1 k hk2).2; omega), h3, h2.turn ht (fun k hk h => hd k h hk)⟩, (Below.refl b w).trans (ht.below h0 (fun k hk => (h1.2.1 k hk).1))⟩
theorem addR (g g2 b : Nat) (s t : LSt) (A : Option Addr) (c : Nat) (l : List S44) (w : World) (h : Two w b g g2 s t) (hl : k44.C w A l.length l) :
    Calls Try.prog 15 #[.pointer (some ⟨g2, 0, none⟩), .slice A l.length c] w fun e w' => e = .returned (.int .i64 (addTo t l).1) ∧ Two w' b g g2 s (addTo t l).2 ∧ Below b w w' := by
  obtain ⟨h0, S1, S2, hd, h1, h2⟩ := h
  refine (ref_add_calls g2 b S2 t A c l w h0 h2 hl).mono ?_
  rintro e w' ⟨rfl, h3, ht⟩
  exact ⟨rfl, ⟨Nat.le_trans h0 ht.size, S1, _, fun k hk hk2 => hk2.elim (fun h => hd k hk h) (fun h => by have := (h1.2.1 k hk).2; omega), h1.turn ht (fun k hk h => hd k hk h), h3⟩, (Below.refl b w).trans (ht.below h0 (fun k hk => (h2.2.1 k hk).1))⟩
theorem shutL (g g2 b : Nat) (s t : LSt) (w : World) (h : Two w b g g2 s t) :
    Calls Try.prog 12 #[.pointer (some ⟨g, 0, none⟩)] w fun e w' => e = .returned (.bool (!s.shut)) ∧ Two w' b g g2 { s with shut := true } t ∧ Below b w w' := by
  obtain ⟨h0, S1, S2, hd, h1, h2⟩ := h
  obtain ⟨hf, hSb, hg, v, hb, hr⟩ := h1
  refine (shut_calls g v s.most s.shut w hb).mono ?_
  rintro e w' ⟨rfl, h3, ht⟩
  exact ⟨rfl, ⟨Nat.le_trans h0 ht.size, S1, S2, hd, ⟨hf, fun k hk => ⟨(hSb k hk).1, Nat.lt_of_lt_of_le (hSb k hk).2 ht.size⟩, hg, v, h3, Kd.R_move hr (fun k hk => ht.block k (hSb k hk.1).2 hk.2)⟩, h2.turn ht (fun k hk h => hd k (by rw [h]; exact hg) hk)⟩, (Below.refl b w).trans (ht.below h0 (fun k hk => by rw [hk]; exact (hSb g hg).1))⟩
theorem shutR (g g2 b : Nat) (s t : LSt) (w : World) (h : Two w b g g2 s t) :
    Calls Try.prog 13 #[.pointer (some ⟨g2, 0, none⟩)] w fun e w' => e = .returned (.bool (!t.shut)) ∧ Two w' b g g2 s { t with shut := true } ∧ Below b w w' := by
  obtain ⟨h0, S1, S2, hd, h1, h2⟩ := h
  refine (ref_shut_calls g2 b S2 t w h2).mono ?_
  rintro e w' ⟨rfl, h3, ht⟩
  exact ⟨rfl, ⟨Nat.le_trans h0 ht.size, S1, S2, hd, h1.turn ht (fun k hk h => hd k hk h), h3⟩, (Below.refl b w).trans (ht.below h0 (fun k hk => (h2.2.1 k hk).1))⟩
theorem fromLL (g g2 b : Nat) (s t : LSt) (at_ : Int) (hi0 : -9223372036854775808 ≤ at_) (hi1 : at_ ≤ 9223372036854775807) (w : World) (h : Two w b g g2 s t) :
    Calls Try.prog 17 #[.pointer (some ⟨g, 0, none⟩), .int .i64 at_] w fun e w' => ∃ A' c', e = .returned (.slice A' (fromL s.notes at_).length c') ∧ (k44.C w' A' (fromL s.notes at_).length (fromL s.notes at_) ∧ (fromL s.notes at_).length ≤ c') ∧ Below w.heap.size w w' := by
  obtain ⟨h0, S1, S2, hd, h1, h2⟩ := h
  exact from_callsC g b S1 s at_ _ hi0 hi1 w h1 rfl
theorem fromRR (g g2 b : Nat) (s t : LSt) (at_ : Int) (w : World) (h : Two w b g g2 s t) :
    Calls Try.prog 18 #[.pointer (some ⟨g2, 0, none⟩), .int .i64 at_] w fun e w' => ∃ A' c', e = .returned (.slice A' (fromL t.notes at_).length c') ∧ (k44.C w' A' (fromL t.notes at_).length (fromL t.notes at_) ∧ (fromL t.notes at_).length ≤ c') ∧ w = w' := by
  obtain ⟨h0, S1, S2, hd, h1, h2⟩ := h
  refine (ref_from_calls g2 b S2 t at_ w h2).mono ?_
  rintro e w' ⟨A', c', rfl, h1, h2, h3⟩
  exact ⟨A', c', rfl, ⟨h1, h2⟩, h3⟩
theorem roomL (g g2 b : Nat) (s t : LSt) (w : World) (h : Two w b g g2 s t) :
    Calls Try.prog 19 #[.pointer (some ⟨g, 0, none⟩)] w fun e w' => e = .returned (.int .i64 (s.most - s.notes.length)) ∧ Drawn0 w w' := by
  obtain ⟨h0, S1, S2, hd, h1, h2⟩ := h
  exact room_calls g b S1 s w h1
theorem roomR (g g2 b : Nat) (s t : LSt) (w : World) (h : Two w b g g2 s t) :
    Calls Try.prog 20 #[.pointer (some ⟨g2, 0, none⟩)] w fun e w' => e = .returned (.int .i64 (t.most - t.notes.length)) ∧ Drawn0 w w' := by
  obtain ⟨h0, S1, S2, hd, h1, h2⟩ := h
  exact ref_room_calls g2 b S2 t w h2
/-- What the reference holds. -/
theorem Two.cell {w : World} {b ga gb : Nat} {s t : LSt} (h : Two w b ga gb s t) : ∃ A c, w.cell? ⟨gb, 0, none⟩ = some (.slice A t.notes.length c) ∧ k44.C w A t.notes.length t.notes ∧ t.notes.length ≤ c := by
  obtain ⟨h0, S1, S2, hd, h1, hf, hS, hg, v, hb, hr⟩ := h
  obtain ⟨A, c, rfl⟩ := Kd.R_slice hr
  obtain ⟨_, hc, hC⟩ := Kd.R_reads' hr
  exact ⟨A, c, blk_cell hb 0, hC, hc⟩
theorem Two.fine {w : World} {b ga gb : Nat} {s t : LSt} (h : Two w b ga gb s t) : s.notes.length ≤ 5000 := by
  obtain ⟨h0, S1, S2, hd, ⟨⟨_, h1, h2⟩, _⟩, _⟩ := h
  omega
set_option maxRecDepth 100000 in
set_option maxHeartbeats 4000000 in
theorem plays_calls (m : Int) (A : Option Addr) (c : Nat) (ls : List (List S44)) (sh fr : Int) (w : World) (hf0 : -9223372036854775808 ≤ fr) (hf1 : fr ≤ 9223372036854775807) (hl : kL.C w A ls.length ls) :
    Calls Try.prog 4 #[.int .i64 m, .slice A ls.length c, .int .i64 sh, .int .i64 fr] w fun e w' => e = .returned (.bool true) ∧ Below w.heap.size w w' := by
  have HC := Lib.hid hl
  have hlen : ls.length ≤ 9223372036854775807 := hl.2.1
  clear hl
  by_cases hm : m < 0 ∨ 5000 < m
  · have HM := Lib.hid hm
    clear hm
    go_enter Try.func4, Try.ntmps4
    go_wp2_with fail
    refine (awake_calls _).mono ?_
    rintro e w1 ⟨rfl, hb⟩
    have HB := Lib.hid hb
    clear hb
    go_wp2_with fail
    refine (new_bad m HM.out _).mono ?_
    rintro e w2 ⟨rfl, rfl⟩
    go_wp2_with fail
    refine (ref_new_bad m HM.out _).mono ?_
    rintro e w2 ⟨rfl, rfl⟩
    go_wp2
    go_ret
    exact ⟨rfl, HB.out⟩
  · have hm0 : 0 ≤ m := by omega
    have hm1 : m ≤ 5000 := by omega
    clear hm
    go_enter Try.func4, Try.ntmps4
    go_wp2_with fail
    refine (awake_calls _).mono ?_
    rintro e w1 ⟨rfl, hb⟩
    have HB := Lib.hid hb
    clear hb
    go_wp2_with fail
    refine (new_good m hm0 hm1 _ w.heap.size HB.out.size).mono ?_
    rintro e w2 ⟨rfl, hl, hb⟩
    have HL2 := Lib.hid hl
    have HB2 := Lib.hid (below_then HB.out HB.out.size hb)
    have h12 : w1.heap.size < w2.heap.size := (hl.2.1 _ rfl).2
    clear hl hb
    go_wp2_with fail
    refine (ref_new_good m hm0 hm1 _ w.heap.size HB2.out.size).mono ?_
    rintro e w3 ⟨rfl, hl, hb⟩
    have HT3 := Lib.hid (show Two w3 w.heap.size w1.heap.size w2.heap.size ⟨[], m, false⟩ ⟨[], m, false⟩ from ⟨Nat.le_trans HB2.out.size hb.size, _, _, fun k hk hk2 => by omega, HL2.out.below hb, hl⟩)
    have HB3 := Lib.hid (below_then HB2.out HB2.out.size hb)
    clear hl hb HL2 HB2 HB
    obtain ⟨ga, hga⟩ : ∃ g, g = w1.heap.size := ⟨_, rfl⟩
    obtain ⟨gb, hgb⟩ : ∃ g, g = w2.heap.size := ⟨_, rfl⟩
    rw [← hga, ← hgb] at HT3
    rw [← hga, ← hgb]
    clear hga hgb h12 w1 w2
    go_wp2_with fail
    go_loopw [14] (fun i wr => ∃ (x : Int) (s : LSt), 0 ≤ x ∧ x ≤ 60 ∧ i = .int .i64 x ∧ Hid (Two wr w.heap.size ga gb s s) ∧ Hid (Below w.heap.size w wr)) (fun i _ => (60 - intOf i).toNat)
    case atStart => exact ⟨0, _, by omega, by omega, rfl, HT3.out, HB3.out⟩
    case round =>
      clear HT3 HB3 w3
      obtain ⟨x, s, hx0, hx1, rfl, HT, HB⟩ := hrel
      by_cases hlt : x < (ls.length : Int)
      · have hd1 : decide (x < (ls.length : Int)) = true := decide_eq_true hlt
        by_cases h60 : x < 60
        · obtain ⟨ad, a, ca, rfl, e0, hca, hC⟩ := at_TL HC.out x hx0 hlt
          obtain ⟨l, hl⟩ : ∃ l, l = rdL ls x := ⟨_, rfl⟩
          rw [← hl] at e0 hca hC
          clear hl
          have HCL := Lib.hid hC
          have HE0 := Lib.hid e0
          have e0 := cell_below HB.out e0
          clear hC
          by_cases h100 : (100 : Int) < l.length
          · have hd2 : decide ((100 : Int) < (l.length : Int)) = true := decide_eq_true h100
            have hd3 : decide (100 < l.length) = true := decide_eq_true (by omega)
            go_wp2
            go_roundw
            case rel => exact ⟨x + 1, s, by omega, by omega, rfl, HT.out, HB.out⟩
            case measure => simp [intOf]; omega
          · have hd2 : decide ((100 : Int) < (l.length : Int)) = false := decide_eq_false h100
            have hd3 : decide (100 < l.length) = false := decide_eq_false (by omega)
            have HCA := Lib.hid hca
            clear hca
            by_cases hsh : x = sh
            · have hb : (x == sh) = true := beq_iff_eq.2 hsh
              clear hsh
              go_wp2_with fail
              refine (shutL ga gb w.heap.size s s wr HT.out).mono ?_
              rintro e w1 ⟨rfl, ht, hb1⟩
              have HT1 := Lib.hid ht
              have HB1 := Lib.hid (HB.out.trans hb1)
              have e1 := cell_below HB1.out HE0.out
              clear ht hb1 HT HB e0
              go_wp2_with fail
              refine (shutR ga gb w.heap.size _ s w1 HT1.out).mono ?_
              rintro e wS ⟨rfl, ht, hb1⟩
              obtain ⟨sS, hsS⟩ : ∃ s' : LSt, s' = { s with shut := true } := ⟨_, rfl⟩
              rw [← hsS] at ht
              have HTS := Lib.hid ht
              have HBS := Lib.hid (HB1.out.trans hb1)
              have eS := cell_below HBS.out HE0.out
              clear ht hb1 HT1 HB1 e1 hsS
              go_wp2_with fail
              have hfS := HTS.out.fine
              obtain ⟨f, s4, ha⟩ : ∃ f s4, addTo sS l = (f, s4) := ⟨_, _, rfl⟩
              have HAD := Lib.hid ha
              have HFS := Lib.hid hfS
              have htd : Two wS.drew w.heap.size ga gb sS sS := HTS.out.drew
              have hbd : Below w.heap.size w wS.drew := HBS.out.drew
              have HTD := Lib.hid htd
              have HBD := Lib.hid hbd
              clear ha hfS htd hbd HTS HBS
              go_region_held3 (fun w' => w'.cell? (ad.add x.toNat) = some (.slice a l.length ca)) (first | exact eS | exact e2 | exact e3) ((first
                | (go_at_call 14; refine (addL ga gb w.heap.size sS sS a ca l wS.drew HTD.out (Kd.C_below HCL.out HBD.out)).mono ?_; rintro e w2 ⟨rfl, ht, hb1⟩; rw [HAD.out] at ht ⊢; have HT2 := Lib.hid ht; have HB2 := Lib.hid (HBD.out.trans hb1); have e2 := cell_below HB2.out HE0.out; clear ht hb1 HTD HBD)
                | (go_at_call 15; refine (addR ga gb w.heap.size s4 sS a ca l w2 HT2.out (Kd.C_below HCL.out HB2.out)).mono ?_; rintro e w3 ⟨rfl, ht, hb1⟩; rw [HAD.out] at ht ⊢; have HT3 := Lib.hid ht; have HB3 := Lib.hid (HB2.out.trans hb1); have e3 := cell_below HB3.out HE0.out; clear ht hb1 HT2 HB2)))
              go_wp2_with fail
              have htd : Two w3.drew w.heap.size ga gb s4 s4 := HT3.out.drew
              have hbd : Below w.heap.size w w3.drew := HB3.out.drew
              obtain ⟨AN, cN, hcN, hCN, hlN⟩ := htd.cell
              have hcN' : w3.cell? ⟨gb, 0, none⟩ = some (.slice AN s4.notes.length cN) := hcN
              have hf4 := htd.fine
              have hfz : fromL s4.notes (-1) = s4.notes := fromL_neg (by omega)
              have HF4 := Lib.hid hf4
              have HTE := Lib.hid htd
              have HBE := Lib.hid hbd
              have HCN := Lib.hid hCN
              have HLN := Lib.hid hlN
              have HFL := Lib.hid hfz
              clear htd hbd hCN hlN hf4 hfz HT3 HB3 e3 e2 eS hcN
              go_region_held3 (fun w' => w'.cell? ⟨gb, 0, none⟩ = some (.slice AN s4.notes.length cN)) (first | exact hcN' | exact k4 | exact k5) ((first
                | (go_at_call 17; refine (fromLL ga gb w.heap.size s4 s4 (-1) (by decide) (by decide) w3.drew HTE.out).mono ?_; rintro e w4 ⟨A4, c4, rfl, hr, hb1⟩; rw [HFL.out] at hr ⊢; have HR4 := Lib.hid hr; have HT4 := Lib.hid (HTE.out.below hb1); have HC4 := Lib.hid (Kd.C_below HCN.out hb1); have HB4 := Lib.hid (below_then HBE.out HBE.out.size hb1); have k4 : w4.cell? ⟨gb, 0, none⟩ = some (.slice AN s4.notes.length cN) := cell_below (w := w3.drew) hb1 hcN'; clear hr hb1 HTE HBE HCN)
                | (go_at_call 16; refine (same_calls A4 AN c4 cN s4.notes w4 (Nat.le_trans HF4.out (by decide)) HR4.out.1 HR4.out.2 HC4.out HLN.out).mono ?_; rintro e w5 ⟨rfl, hd⟩; have HT5 := Lib.hid (HT4.out.below hd.below); have HB5 := Lib.hid (below_then HB4.out HB4.out.size hd.below); have k5 : w5.cell? ⟨gb, 0, none⟩ = some (.slice AN s4.notes.length cN) := cell_below hd.below k4; clear hd HT4 HB4 HC4 HR4)))
              clear hcN' k4 k5
              go_wp2_with fail
              refine (fromLL ga gb w.heap.size s4 s4 fr hf0 hf1 w5 HT5.out).mono ?_
              rintro e w6 ⟨A6, c6, rfl, hr, hb1⟩
              have HR6 := Lib.hid hr
              have HT6 := Lib.hid (HT5.out.below hb1)
              have HB6 := Lib.hid (below_then HB5.out HB5.out.size hb1)
              clear hr hb1 HT5 HB5
              go_wp2_with fail
              refine (fromRR ga gb w.heap.size s4 s4 fr w6 HT6.out).mono ?_
              rintro e w7 ⟨A7, c7, rfl, hr, rfl⟩
              have HR7 := Lib.hid hr
              clear hr
              go_wp2_with fail
              refine (same_calls A6 A7 c6 c7 (fromL s4.notes fr) w6 (Nat.le_trans (fromL_len _ _) (Nat.le_trans HF4.out (by decide))) HR6.out.1 HR6.out.2 HR7.out.1 HR7.out.2).mono ?_
              rintro e w8 ⟨rfl, hd⟩
              have HT8 := Lib.hid (HT6.out.below hd.below)
              have HB8 := Lib.hid (below_then HB6.out HB6.out.size hd.below)
              clear hd HT6 HB6 HR6 HR7
              go_wp2_with fail
              refine (roomL ga gb w.heap.size s4 s4 w8 HT8.out).mono ?_
              rintro e w9 ⟨rfl, hd⟩
              have HT9 := Lib.hid (HT8.out.below hd.below)
              have HB9 := Lib.hid (below_then HB8.out HB8.out.size hd.below)
              clear hd HT8 HB8
              go_wp2_with fail
              refine (roomR ga gb w.heap.size s4 s4 w9 HT9.out).mono ?_
              rintro e wa ⟨rfl, hd⟩
              have HTa := Lib.hid (HT9.out.below hd.below)
              have HBa := Lib.hid (below_then HB9.out HB9.out.size hd.below)
              clear hd HT9 HB9
              go_wp2
              go_roundw
              case rel => exact ⟨x + 1, s4, by omega, by omega, rfl, HTa.out, HBa.out⟩
              case measure => simp [intOf]; omega
            · have hb : (x == sh) = false := beq_eq_false_iff_ne.2 hsh
              clear hsh
              obtain ⟨wS, hwS⟩ : ∃ w', w' = wr := ⟨_, rfl⟩
              obtain ⟨sS, hsS⟩ : ∃ s' : LSt, s' = s := ⟨_, rfl⟩
              rw [← hwS, ← hsS] at HT
              rw [← hwS] at HB e0 ⊢
              have HTS := HT
              have HBS := HB
              have eS := e0
              clear HT HB e0 hwS hsS
              go_wp2_with fail
              have hfS := HTS.out.fine
              obtain ⟨f, s4, ha⟩ : ∃ f s4, addTo sS l = (f, s4) := ⟨_, _, rfl⟩
              have HAD := Lib.hid ha
              have HFS := Lib.hid hfS
              have htd : Two wS.drew w.heap.size ga gb sS sS := HTS.out.drew
              have hbd : Below w.heap.size w wS.drew := HBS.out.drew
              have HTD := Lib.hid htd
              have HBD := Lib.hid hbd
              clear ha hfS htd hbd HTS HBS
              go_region_held3 (fun w' => w'.cell? (ad.add x.toNat) = some (.slice a l.length ca)) (first | exact eS | exact e2 | exact e3) ((first
                | (go_at_call 14; refine (addL ga gb w.heap.size sS sS a ca l wS.drew HTD.out (Kd.C_below HCL.out HBD.out)).mono ?_; rintro e w2 ⟨rfl, ht, hb1⟩; rw [HAD.out] at ht ⊢; have HT2 := Lib.hid ht; have HB2 := Lib.hid (HBD.out.trans hb1); have e2 := cell_below HB2.out HE0.out; clear ht hb1 HTD HBD)
                | (go_at_call 15; refine (addR ga gb w.heap.size s4 sS a ca l w2 HT2.out (Kd.C_below HCL.out HB2.out)).mono ?_; rintro e w3 ⟨rfl, ht, hb1⟩; rw [HAD.out] at ht ⊢; have HT3 := Lib.hid ht; have HB3 := Lib.hid (HB2.out.trans hb1); have e3 := cell_below HB3.out HE0.out; clear ht hb1 HT2 HB2)))
              go_wp2_with fail
              have htd : Two w3.drew w.heap.size ga gb s4 s4 := HT3.out.drew
              have hbd : Below w.heap.size w w3.drew := HB3.out.drew
              obtain ⟨AN, cN, hcN, hCN, hlN⟩ := htd.cell
              have hcN' : w3.cell? ⟨gb, 0, none⟩ = some (.slice AN s4.notes.length cN) := hcN
              have hf4 := htd.fine
              have hfz : fromL s4.notes (-1) = s4.notes := fromL_neg (by omega)
              have HF4 := Lib.hid hf4
              have HTE := Lib.hid htd
              have HBE := Lib.hid hbd
              have HCN := Lib.hid hCN
              have HLN := Lib.hid hlN
              have HFL := Lib.hid hfz
              clear htd hbd hCN hlN hf4 hfz HT3 HB3 e3 e2 eS hcN
              go_region_held3 (fun w' => w'.cell? ⟨gb, 0, none⟩ = some (.slice AN s4.notes.length cN)) (first | exact hcN' | exact k4 | exact k5) ((first
                | (go_at_call 17; refine (fromLL ga gb w.heap.size s4 s4 (-1) (by decide) (by decide) w3.drew HTE.out).mono ?_; rintro e w4 ⟨A4, c4, rfl, hr, hb1⟩; rw [HFL.out] at hr ⊢; have HR4 := Lib.hid hr; have HT4 := Lib.hid (HTE.out.below hb1); have HC4 := Lib.hid (Kd.C_below HCN.out hb1); have HB4 := Lib.hid (below_then HBE.out HBE.out.size hb1); have k4 : w4.cell? ⟨gb, 0, none⟩ = some (.slice AN s4.notes.length cN) := cell_below (w := w3.drew) hb1 hcN'; clear hr hb1 HTE HBE HCN)
                | (go_at_call 16; refine (same_calls A4 AN c4 cN s4.notes w4 (Nat.le_trans HF4.out (by decide)) HR4.out.1 HR4.out.2 HC4.out HLN.out).mono ?_; rintro e w5 ⟨rfl, hd⟩; have HT5 := Lib.hid (HT4.out.below hd.below); have HB5 := Lib.hid (below_then HB4.out HB4.out.size hd.below); have k5 : w5.cell? ⟨gb, 0, none⟩ = some (.slice AN s4.notes.length cN) := cell_below hd.below k4; clear hd HT4 HB4 HC4 HR4)))
              clear hcN' k4 k5
              go_wp2_with fail
              refine (fromLL ga gb w.heap.size s4 s4 fr hf0 hf1 w5 HT5.out).mono ?_
              rintro e w6 ⟨A6, c6, rfl, hr, hb1⟩
              have HR6 := Lib.hid hr
              have HT6 := Lib.hid (HT5.out.below hb1)
              have HB6 := Lib.hid (below_then HB5.out HB5.out.size hb1)
              clear hr hb1 HT5 HB5
              go_wp2_with fail
              refine (fromRR ga gb w.heap.size s4 s4 fr w6 HT6.out).mono ?_
              rintro e w7 ⟨A7, c7, rfl, hr, rfl⟩
              have HR7 := Lib.hid hr
              clear hr
              go_wp2_with fail
              refine (same_calls A6 A7 c6 c7 (fromL s4.notes fr) w6 (Nat.le_trans (fromL_len _ _) (Nat.le_trans HF4.out (by decide))) HR6.out.1 HR6.out.2 HR7.out.1 HR7.out.2).mono ?_
              rintro e w8 ⟨rfl, hd⟩
              have HT8 := Lib.hid (HT6.out.below hd.below)
              have HB8 := Lib.hid (below_then HB6.out HB6.out.size hd.below)
              clear hd HT6 HB6 HR6 HR7
              go_wp2_with fail
              refine (roomL ga gb w.heap.size s4 s4 w8 HT8.out).mono ?_
              rintro e w9 ⟨rfl, hd⟩
              have HT9 := Lib.hid (HT8.out.below hd.below)
              have HB9 := Lib.hid (below_then HB8.out HB8.out.size hd.below)
              clear hd HT8 HB8
              go_wp2_with fail
              refine (roomR ga gb w.heap.size s4 s4 w9 HT9.out).mono ?_
              rintro e wa ⟨rfl, hd⟩
              have HTa := Lib.hid (HT9.out.below hd.below)
              have HBa := Lib.hid (below_then HB9.out HB9.out.size hd.below)
              clear hd HT9 HB9
              go_wp2
              go_roundw
              case rel => exact ⟨x + 1, s4, by omega, by omega, rfl, HTa.out, HBa.out⟩
              case measure => simp [intOf]; omega
        · go_wp2
          go_ret
          exact ⟨rfl, HB.out⟩
      · have hd1 : decide (x < (ls.length : Int)) = false := decide_eq_false hlt
        go_wp2
        go_ret
        exact ⟨rfl, HB.out⟩
end Go.Proofs.Ytpkaihjiecihlaa.L
