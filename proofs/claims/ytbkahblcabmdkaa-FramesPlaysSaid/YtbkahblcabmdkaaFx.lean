import Derived.Test.YtbkahblcabmdkaaFw
/-! FramesPlays: did. -/
namespace Go.Proofs.Ytbkahblcabmdkaa.F
open Go.RowKit Go.Proofs.YtbkahblcabmdkaaW.PrintWords Go.Proofs.Ytbkahblcabmdkaa.X
set_option linter.unusedVariables false

def clV (x : Cl) : Value := .agg #[.int .i64 x.kd, .int .i64 x.nn, .int .i64 x.mm]
/-- The reference's turn behind the tree's. -/
theorem Two.both {B : Nat} {w1 w2 w3 : World} {g bm gr : Nat} {S T : Nat → Prop} {s s' : Tr} (h : Two B w1 g bm gr S s) (hT : TreeIn w2 g bm s') (hU : Turn (fun i => i = g ∨ i = bm) w1 w2) (hR : RefIn w3 B T gr s') (hV : Turn S w2 w3) (hTS : ∀ k, T k → S k ∨ w2.heap.size ≤ k) : Two B w3 g bm gr T s' ∧ Turn (fun i => i = g ∨ i = bm ∨ S i) w1 w3 := by
  have hlt := hT.lt
  refine ⟨⟨hT.turn hV h.sep.1 h.sep.2, hR, ⟨fun hg => ?_, fun hg => ?_⟩, h.lo⟩, ?_⟩
  · rcases hTS _ hg with h1 | h1
    · exact h.sep.1 h1
    · omega
  · rcases hTS _ hg with h1 | h1
    · exact h.sep.2 h1
    · omega
  · exact (hU.mono (T := fun i => i = g ∨ i = bm ∨ S i) (fun k hk => by rcases hk with hk | hk; exact .inl hk; exact .inr (.inl hk))).trans hV (fun i hi => .inl (.inr (.inr hi)))
set_option maxRecDepth 100000 in
set_option maxHeartbeats 2000000 in
theorem did_calls (B : Nat) (g bm gr : Nat) (S : Nat → Prop) (s : Tr) (x : Cl) (i0 : -9223372036854775808 ≤ x.nn) (i1 : x.nn ≤ 9223372036854775807) (w : World) (hBw : B ≤ w.heap.size) (h : Two B w g bm gr S s) (hl : s.last < 4611686018427387904) :
    Calls Try.prog 21 #[.pointer (some ⟨g, 0, none⟩), .pointer (some ⟨gr, 0, none⟩), clV x] w fun e w' => e = .returned (.bool true) ∧ (∃ T, Two B w' g bm gr T (stepP s x)) ∧ Turn (fun i => i = g ∨ i = bm ∨ S i) w w' := by
  obtain ⟨kd, nn, mm⟩ := x
  dsimp only at i0 i1
  have hb1 := below_alloc (Below.refl w.heap.size w) (.cells #[.int .i64 kd, .int .i64 nn, .int .i64 mm] 50)
  have hn1 := blk_new w (.cells #[.int .i64 kd, .int .i64 nn, .int .i64 mm] 50)
  have HT0 := Lib.hid h
  have HB1 := Lib.hid hb1
  have HN1 := Lib.hid hn1
  have HBW := Lib.hid hBw
  have HT1 := Lib.hid (h.below hb1)
  have hlt := h.t.lt
  have HLT := Lib.hid hlt
  have HSL := Lib.hid h.r.2.1
  unfold clV
  dsimp only
  clear h hb1 hn1 hBw hlt
  by_cases k1 : kd = 1
  · subst k1
    have hst : stepP s ⟨1, nn, mm⟩ = (addF s nn).2.2 := by unfold stepP; rw [if_pos rfl]
    rw [hst]
    clear hst
    go_enter Try.func21, Try.ntmps21
    go_wp2_with fail
    refine (add_calls g bm s nn i0 i1 _ HT1.out.t hl).mono ?_
    rintro e w2 ⟨rfl, hT, hU⟩
    have h2 : w2.heap[w.heap.size]? = some (.cells #[.int .i64 1, .int .i64 nn, .int .i64 mm] 50 (0, 0)) := hU.keep HN1.out (fun hk => by have := HLT.out; omega)
    have n1 : w2.cell? ⟨w.heap.size, 1, none⟩ = some (.int .i64 nn) := blk_cell h2 1
    have hR2 := HT1.out.r.turn hU (fun k hk hk2 => by rcases hk2 with rfl | rfl; exact HT0.out.sep.1 hk; exact HT0.out.sep.2 hk)
    have hbw2 : B ≤ w2.heap.size := Nat.le_trans HBW.out (Nat.le_trans HB1.out.size hU.size)
    have HRA := Lib.hid (ref_add gr B S s nn w2 hbw2 hR2 hl)
    have HT := Lib.hid hT
    have HU := Lib.hid hU
    obtain ⟨v1, hv1⟩ : ∃ a, a = (addF s nn).1 := ⟨_, rfl⟩
    obtain ⟨v2, hv2⟩ : ∃ a, a = (addF s nn).2.1 := ⟨_, rfl⟩
    rw [← hv1, ← hv2] at HRA ⊢
    clear hT hU h2 hR2 hbw2 hv1 hv2
    go_wp2_with fail
    refine HRA.out.mono ?_
    rintro e w3 ⟨rfl, hR, hV⟩
    have HE := Lib.hid (HT1.out.both HT.out HU.out hR hV (fun k hk => hk.imp_right And.left))
    clear hR hV HRA n1
    go_wp2
    go_ret
    exact ⟨rfl, ⟨_, HE.out.1⟩, (Turn.of_below HB1.out).trans HE.out.2 (fun i hi => .inl hi)⟩
  · have d1 : (kd == 1) = false := by simpa using k1
    by_cases k2 : kd = 2
    · subst k2
      have hst : stepP s ⟨2, nn, mm⟩ = (remF s nn).2.2 := by unfold stepP; rw [if_neg k1, if_pos rfl]
      rw [hst]
      clear hst
      have hbl := bel_len2 HT0.out.t.fine nn
      have hr1 : (remF s nn).1 = (belF s nn).1 := rfl
      rw [← hr1] at hbl
      clear hr1
      go_enter Try.func21, Try.ntmps21
      go_wp2_with fail
      refine (remove_calls g bm s nn i0 i1 _ HT1.out.t).mono ?_
      rintro e w2 ⟨va, rfl, hR, hT, hU0⟩
      obtain ⟨Aa, ca, ea⟩ := Kd.R_slice hR
      subst ea
      have hU := hU0.mono (T := fun i => i = g ∨ i = bm) (fun i hi => .inr hi)
      have h2 : w2.heap[w.heap.size]? = some (.cells #[.int .i64 2, .int .i64 nn, .int .i64 mm] 50 (0, 0)) := hU.keep HN1.out (fun hk => by have := HLT.out; omega)
      have n1 : w2.cell? ⟨w.heap.size, 1, none⟩ = some (.int .i64 nn) := blk_cell h2 1
      have hR2 := HT1.out.r.turn hU (fun k hk hk2 => by rcases hk2 with rfl | rfl; exact HT0.out.sep.1 hk; exact HT0.out.sep.2 hk)
      have hbw2 : B ≤ w2.heap.size := Nat.le_trans HBW.out (Nat.le_trans HB1.out.size hU.size)
      have HRA := Lib.hid (ref_remove gr B S s nn w2 hbw2 hR2)
      have HT := Lib.hid hT
      have HU := Lib.hid hU
      have HRR := Lib.hid (Kd.R_mono (Kd.R_bound hR) (ok' := fun i => w.heap.size ≤ i) (fun k hk => by have := HB1.out.size; omega))
      obtain ⟨v1, hv1⟩ : ∃ a, a = (remF s nn).1 := ⟨_, rfl⟩
      obtain ⟨v2, hv2⟩ : ∃ a, a = (remF s nn).2.1 := ⟨_, rfl⟩
      rw [← hv1] at HRR hbl
      rw [← hv1, ← hv2] at HRA ⊢
      clear hR hT hU hU0 h2 hR2 hbw2 hv1 hv2
      go_wp2_with fail
      refine HRA.out.mono ?_
      rintro e w3 ⟨vb, rfl, hQ, hR, hV⟩
      obtain ⟨Ab, cb, eb⟩ := Kd.R_slice hQ
      subst eb
      have hR3 := R_turn HRR.out hV (fun i hi hS => by have := (HSL.out i hS).2; omega)
      have HIN := Lib.hid (ints_calls Aa Ab ca cb v1 (by omega) w3 (Kd.R_reads' hR3).2.2 (formed_le hR3) (Kd.R_reads' hQ).2.2 (formed_le hQ))
      have HE := Lib.hid (HT1.out.both HT.out HU.out hR hV (fun k hk => hk.imp_right And.left))
      clear hQ hR hV HRA n1 hR3 HRR
      go_wp2_with fail
      refine HIN.out.mono ?_
      rintro e w4 ⟨rfl, hb⟩
      have HE4 := Lib.hid (HE.out.1.below hb)
      have HU4 := Lib.hid ((HE.out.2.trans (Turn.of_below (S := fun i => i = g ∨ i = bm ∨ S i) hb) (fun i hi => .inl hi)))
      clear hb HIN HE
      go_wp2
      go_ret
      exact ⟨rfl, ⟨_, HE4.out⟩, (Turn.of_below HB1.out).trans HU4.out (fun i hi => .inl hi)⟩
    · have d2 : (kd == 2) = false := by simpa using k2
      by_cases k3 : kd = 3
      · subst k3
        have hst : stepP s ⟨3, nn, mm⟩ = ⟨s.most, s.last, setF s.F nn mm⟩ := by unfold stepP; rw [if_neg k1, if_neg k2, if_pos rfl]
        rw [hst]
        clear hst
        go_enter Try.func21, Try.ntmps21
        go_wp2_with fail
        obtain ⟨b5, hb5⟩ : ∃ x, x = w.heap.size := ⟨_, rfl⟩
        obtain ⟨w1, hw1⟩ : ∃ x, x = w.alloc (.cells #[.int .i64 3, .int .i64 nn, .int .i64 mm] 50) := ⟨_, rfl⟩
        rw [← hw1, ← hb5] at HN1
        rw [← hw1] at HT1 HB1 ⊢
        try rw [← hb5]
        have HB5 := Lib.hid hb5
        have hdw : Below w1.heap.size w1 w1.drew := ⟨rfl, rfl, rfl, Nat.le_refl _, fun _ _ => rfl⟩
        have HT2 := Lib.hid (HT1.out.below hdw)
        have hn2 := below_blk HN1.out hdw
        have HN2 := Lib.hid hn2
        have HB2 := Lib.hid (below_then HB1.out HB1.out.size hdw)
        have k1' : w1.cell? ⟨b5, 1, none⟩ = some (.int .i64 nn) := blk_cell hn2 1
        have k2' : w1.cell? ⟨b5, 2, none⟩ = some (.int .i64 mm) := blk_cell hn2 2
        clear hb5 hw1 hdw hn2 HB1 HN1 HT1
        obtain ⟨er, her⟩ : ∃ x : Int, x = (if (getF s.F nn).isSome = true then 0 else 161) := ⟨_, rfl⟩
        have HER := Lib.hid her
        clear her
        go_region_held3 (fun w' => w'.cell? ⟨b5, 1, none⟩ = some (.int .i64 nn) ∧ w'.cell? ⟨b5, 2, none⟩ = some (.int .i64 mm)) (first | exact ⟨k1', k2'⟩ | exact ⟨z1, z2⟩ | exact ⟨y1, y2⟩) ((first
          | (go_at_call 25; refine (set_calls g bm s nn mm i0 i1 w1.drew HT2.out.t).mono ?_; rintro e w2 ⟨rfl, hT, hU0⟩; rw [← HER.out]; have hU := hU0.mono (T := fun i => i = g ∨ i = bm) (fun i hi => .inr hi); have h2 : w2.heap[b5]? = some (.cells #[.int .i64 3, .int .i64 nn, .int .i64 mm] 50 (0, 0)) := hU.keep HN2.out (fun hk => by have := HLT.out; have := HB5.out; omega); have z1 : w2.cell? ⟨b5, 1, none⟩ = some (.int .i64 nn) := blk_cell h2 1; have z2 : w2.cell? ⟨b5, 2, none⟩ = some (.int .i64 mm) := blk_cell h2 2; have HH2 := Lib.hid h2; have HRA := Lib.hid (ref_set gr B S s nn mm w2 (HT2.out.r.turn hU (fun k hk hk2 => by rcases hk2 with rfl | rfl; exact HT0.out.sep.1 hk; exact HT0.out.sep.2 hk))); have HT := Lib.hid hT; have HU := Lib.hid hU; clear hT hU0 hU h2)
          | (go_at_call 31; refine HRA.out.mono ?_; rintro e w3 ⟨rfl, hR, hV⟩; rw [← HER.out]; have h3 := hV.keep HH2.out (fun hk => by have := (HSL.out _ hk).2; have := HB5.out; omega); have y1 : w3.cell? ⟨b5, 1, none⟩ = some (.int .i64 nn) := blk_cell h3 1; have y2 : w3.cell? ⟨b5, 2, none⟩ = some (.int .i64 mm) := blk_cell h3 2; have HE := Lib.hid (HT2.out.both HT.out HU.out hR hV (fun k hk => .inl hk)); clear hR hV h3)))
        go_wp2
        go_ret
        exact ⟨rfl, ⟨_, HE.out.1⟩, (Turn.of_below HB2.out).trans HE.out.2 (fun i hi => .inl hi)⟩
      · have d3 : (kd == 3) = false := by simpa using k3
        have hst : stepP s ⟨kd, nn, mm⟩ = s := by unfold stepP; rw [if_neg k1, if_neg k2, if_neg k3]
        rw [hst]
        clear hst
        go_enter Try.func21, Try.ntmps21
        go_wp2
        go_ret
        exact ⟨rfl, ⟨_, HT1.out⟩, Turn.of_below HB1.out⟩
end Go.Proofs.Ytbkahblcabmdkaa.F
