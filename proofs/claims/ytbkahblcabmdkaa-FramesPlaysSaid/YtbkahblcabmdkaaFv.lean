import Derived.Test.YtbkahblcabmdkaaFu
import Derived.Deep.AppendLies
import Derived.Deep.RegionHeld3
import Derived.Deep.RegionLaw
/-! The reference's tree: Add. -/
namespace Go.Proofs.Ytbkahblcabmdkaa.F
open Go.RowKit Go.Proofs.YtbkahblcabmdkaaW.PrintWords Go.Proofs.Ytbkahblcabmdkaa.X
set_option linter.unusedVariables false

theorem infoFr : ∃ i, Try.prog.info? 36 = some i ∧ i.zero = some (.agg #[.int .i64 0, .int .i64 0, .int .i64 0]) ∧ i.size = 3 ∧ i.bytes = 24 := by
  obtain ⟨i, hi, hz⟩ := Option.map_eq_some_iff.1 infoF
  simp only [Prod.mk.injEq] at hz
  exact ⟨i, hi, hz.1, hz.2.1, hz.2.2⟩
theorem R_news {w w1 : World} {b n g cap : Nat} {ok : Nat → Prop} {F : List Fr} {inner : List Value} {x : Fr} (hr : Reps (kFr.M w b ok) 3 F inner) (h1 : w1.ownsRow b 36 3 (.slice (some ⟨g, 0, none⟩) n cap) n (inner ++ [.int .i64 x.f0, .int .i64 x.f1, .int .i64 x.f2])) (hn : n = F.length + 1) {ok' : Nat → Prop} (hok : ok' g) :
    Kd.R kFr 36 w1 b ok' (.slice (some ⟨g, 0, none⟩) n cap) (F ++ [x]) := by
  refine ⟨fun k hk => ?_, inner ++ [.int .i64 x.f0, .int .i64 x.f1, .int .i64 x.f2], by rw [List.length_append, List.length_singleton, ← hn]; exact h1, ?_⟩
  · have : g = k := by simpa [Value.ownBlock] using hk
    rw [← this]; exact hok
  · refine (hr.imp_ (fun p c hp => ?_)).snoc (k36_mkM _ _ _ _) rfl
    rw [k36_openM hp]
    exact k36_mkM _ _ _ _
theorem RefIn.parts {w : World} {b g : Nat} {S : Nat → Prop} {s : Tr} (h : RefIn w b S g s) : ∃ A c inner, (∀ k, (Value.slice A s.F.length c).ownBlock = some k → S k ∧ k ≠ g) ∧ (∀ w1, Below w.heap.size w w1 → w1.heap[g]? = some (.cells #[.slice A s.F.length c, .int .i64 s.most, .int .i64 (s.last + 1)] 54 (0, 0)) ∧ w1.ownsRow b 36 3 (.slice A s.F.length c) s.F.length inner) ∧ (∃ ok, Reps (kFr.M w b ok) 3 s.F inner) := by
  obtain ⟨hfine, hS, hg, v, hb, hr⟩ := h
  obtain ⟨A, c, rfl⟩ := Kd.R_slice hr
  obtain ⟨h0, inner, ho, hrp⟩ := hr
  exact ⟨A, c, inner, h0, fun w1 h1 => ⟨(h1.block g (blk_lt hb)).trans hb, own_move ho (fun k hk => h1.block k (hS k (h0 k hk).1).2)⟩, _, hrp⟩
set_option maxRecDepth 100000 in
set_option maxHeartbeats 2000000 in
theorem ref_add0 (g b : Nat) (S : Nat → Prop) (s : Tr) (w : World) (hbw : b ≤ w.heap.size) (h : RefIn w b S g s) (hl : s.last < 4611686018427387904) :
    Calls Try.prog 29 #[.pointer (some ⟨g, 0, none⟩), .int .i64 0] w fun e w' => e = .returned (.tuple #[.int .i64 (addF s 0).1, .int .i64 (addF s 0).2.1]) ∧ RefIn w' b (fun k => S k ∨ (w.heap.size ≤ k ∧ k < w'.heap.size)) g (addF s 0).2.2 ∧ Turn S w w' := by
  have HT := Lib.hid h
  have HBW := Lib.hid hbw
  have hfine := h.1
  obtain ⟨A, c, hcells⟩ := h.block
  have HCL := Lib.hid hcells
  have hroom := hfine.room
  have hm1 := hfine.m1
  have hl0 := hfine.l0
  clear h hcells hbw
  have HB1 := Lib.hid (Below.refl w.heap.size w)
  have HT1 := HT
  obtain ⟨hblk, hC⟩ := HCL.out w HB1.out
  have c0 : w.cell? ⟨g, 0, none⟩ = some (.slice A s.F.length c) := blk_cell hblk 0
  have c1 : w.cell? ⟨g, 1, none⟩ = some (.int .i64 s.most) := blk_cell hblk 1
  clear hblk
  obtain ⟨n0, hn0⟩ : ∃ n, n = s.last + 1 := ⟨_, rfl⟩
  have hn0' : s.last + 1 = n0 := hn0.symm
  have hn1 : 1 ≤ n0 ∧ n0 ≤ 4611686018427387904 := by omega
  clear hn0
  have hdd : decide ((16 : Int) < 1) = false := by decide
  by_cases hfull : s.most ≤ (s.F.length : Int)
  · have hd : decide (s.most ≤ (s.F.length : Int)) = true := decide_eq_true hfull
    have HE := Lib.hid ((add_top s).trans (if_pos hfull))
    clear hC hn0'
    go_enter Try.func29, Try.ntmps29
    go_wp2_with fail
    go_quiet (fail)
    go_wp2
    go_ret2
    rw [HE.out]
    have hb := pw_below_drewN HB1.out nq
    exact ⟨by first | rfl | simp, HT.out.wide hb HBW.out, Turn.of_below hb⟩
  · have hd : decide (s.most ≤ (s.F.length : Int)) = false := decide_eq_false hfull
    have HE := Lib.hid ((add_top s).trans (if_neg hfull))
    have HFN : Hid ((⟨s.most, s.last + 1, s.F ++ [⟨s.last + 1, 0, 0⟩]⟩ : Tr).fine) := Lib.hid (add_fine hfine 0 (.inl rfl) (by omega) (by unfold depthF; rw [if_pos rfl]; omega) hl)
    go_enter Try.func29, Try.ntmps29
    go_wp2_with fail
    go_quiet (fail)
    obtain ⟨w2, hw2⟩ : ∃ x, x = w.drewN nq := ⟨_, rfl⟩
    have HB2 := Lib.hid (pw_below_drewN HB1.out nq)
    have HT2 := Lib.hid (HT1.out.below (pw_below_drewN (Below.refl _ _) nq))
    rw [← hw2] at HB2 HT2 ⊢
    clear hw2 c0 c1 hC
    go_wp2_with fail
    obtain ⟨A, c, inner, hown0, hall, ok, hrp⟩ := HT2.out.parts
    have hbw2 : Below w2.heap.size w2 w2.drew := ⟨rfl, rfl, rfl, Nat.le_refl _, fun _ _ => rfl⟩
    have hbw3 := below_alloc hbw2 (.cells #[.int .i64 n0, .int .i64 0, .int .i64 0] 36)
    obtain ⟨hb0, ho0⟩ := hall _ hbw2
    obtain ⟨hb3, ho3⟩ := hall _ hbw3
    rw [hn0'] at hb0 hb3
    have k0 : w2.drew.cell? ⟨g, 0, none⟩ = some (.slice A s.F.length c) := blk_cell hb0 0
    have k2 : w2.drew.cell? ⟨g, 2, none⟩ = some (.int .i64 n0) := blk_cell hb0 2
    have k3 : w2.drew.frozen? ⟨g, 0, none⟩ = false := blk_frozen hb0 0
    have m0 : (w2.alloc (.cells #[.int .i64 n0, .int .i64 0, .int .i64 0] 36)).cell? ⟨g, 0, none⟩ = some (.slice A s.F.length c) := blk_cell hb3 0
    have m2 : (w2.alloc (.cells #[.int .i64 n0, .int .i64 0, .int .i64 0] 36)).cell? ⟨g, 2, none⟩ = some (.int .i64 n0) := blk_cell hb3 2
    have m3 : (w2.alloc (.cells #[.int .i64 n0, .int .i64 0, .int .i64 0] 36)).frozen? ⟨g, 0, none⟩ = false := blk_frozen hb3 0
    have HNEW := Lib.hid (blk_new w2.drew (.cells #[.int .i64 n0, .int .i64 0, .int .i64 0] 36))
    have HO3 := Lib.hid ho3
    have HB3 := Lib.hid hb3
    have HW3 := Lib.hid hbw3
    have HRP := Lib.hid hrp
    have HOW := Lib.hid hown0
    have HS2 := Lib.hid HT2.out.2.1
    have hb2s : b ≤ w2.heap.size := Nat.le_trans HBW.out HB2.out.size
    have hFl : s.F.length ≤ 200 := by omega
    clear hown0 hall hrp hbw2 hbw3 hb0 hb3 ho0 ho3
    obtain ⟨ti, hti, htz, hts, htb⟩ := infoFr
    have HTI := Lib.hid hti
    have HTZ := Lib.hid htz
    have HTS := Lib.hid hts
    have HTB := Lib.hid htb
    clear hti htz hts htb
    go_region_law ((refine step_append_lies _ (by rfl) (.tmp 41) (.tmp 48) 28 (by rfl) b 36 ti (.agg #[.int .i64 0, .int .i64 0, .int .i64 0]) 3 24 Try.underlying28 HTI.out HTZ.out HTS.out HTB.out (by decide) (by decide) (.slice A s.F.length c) s.F.length inner (by rfl) HO3.out ⟨w2.heap.size, 0, none⟩ 1 1 [.int .i64 n0, .int .i64 0, .int .i64 0] (by rfl) (by rfl) (World.news_of_block HNEW.out) (by intro u hu; simp at hu; rcases hu with rfl | rfl | rfl <;> rfl) (by decide) (by unfold maxLen; omega) (by omega) (by simp; omega) (w2.heap.size + 1) (by simp) ?_; intro gn cap w4 hown4 hgrow hat hlt4; have hb4 := blk_grown HB3.out hgrow (fun e => (HOW.out g e.symm).2 rfl); have z0 : w4.cell? ⟨g, 0, none⟩ = some (.slice A s.F.length c) := blk_cell hb4 0; have z2 : w4.cell? ⟨g, 2, none⟩ = some (.int .i64 n0) := blk_cell hb4 2; have z3 : w4.frozen? ⟨g, 0, none⟩ = false := blk_frozen hb4 0; have HB4 := Lib.hid hb4; have HO4 := Lib.hid hown4; have HG4 := Lib.hid hgrow; have HAT := Lib.hid hat; have HLT := Lib.hid hlt4; clear hb4 hown4 hgrow hat hlt4))
    all_goals
      clear k0 k2 k3 m0 m2 m3 z0 z2 z3
      have hb5 := blk_set HB4.out 0 (.slice (some ⟨gn, 0, none⟩) (s.F.length + 1) cap)
      obtain ⟨w5, hw5⟩ : ∃ x, x = w4.setCell ⟨g, 0, none⟩ (.slice (some ⟨gn, 0, none⟩) (s.F.length + 1) cap) := ⟨_, rfl⟩
      rw [← hw5] at hb5 ⊢
      have d2 : w5.cell? ⟨g, 2, none⟩ = some (.int .i64 n0) := by have := blk_cell hb5 2; simpa using this
      have d3 : w5.frozen? ⟨g, 2, none⟩ = false := blk_frozen hb5 2
      have HB5 := Lib.hid hb5
      have HW5 := Lib.hid hw5
      have HN0 := Lib.hid hn0'
      clear hb5 hw5 hn0'
      go_wp2
      go_ret2
      have hsz : (w5.setCell ⟨g, 2, none⟩ (.int .i64 (n0 + 1))).heap.size = w4.heap.size := by rw [HW5.out]; simp [World.setCell]
      have hs4 := HG4.out.size
      have hs3 : w2.heap.size + 1 = ((w2.alloc (.cells #[.int .i64 n0, .int .i64 0, .int .i64 0] 36)).drew).heap.size := by simp
      have hs2 := HB2.out.size
      have hgn : (S gn ∨ (w.heap.size ≤ gn ∧ gn < w4.heap.size)) ∧ gn ≠ g := by
        rcases HAT.out with h1 | h1
        · exact ⟨.inl (HOW.out gn h1).1, (HOW.out gn h1).2⟩
        · have := (HS2.out g HT2.out.2.2.1).2
          have := HLT.out
          exact ⟨.inr ⟨by omega, by omega⟩, by omega⟩
      have hR4 := R_news (x := ⟨n0, 0, 0⟩) HRP.out HO4.out rfl (ok' := fun k => (S k ∨ (w.heap.size ≤ k ∧ k < w4.heap.size)) ∧ k ≠ g) hgn
      have hR5 := Kd.R_far (p := ⟨g, 2, none⟩) (Kd.R_far (p := ⟨g, 0, none⟩) hR4 (fun k hk => hk.2) (.slice (some ⟨gn, 0, none⟩) (s.F.length + 1) cap)) (fun k hk => hk.2) (.int .i64 (n0 + 1))
      rw [← HW5.out, ← HN0.out] at hR5
      have hb6 := blk_set HB5.out 2 (.int .i64 (n0 + 1))
      have htu := (((Turn.of_below (S := S) (below_then HB2.out HB2.out.size HW3.out)).grown HG4.out (fun k hk => .inl (HOW.out k hk).1)).set_ ⟨g, 0, none⟩ (.slice (some ⟨gn, 0, none⟩) (s.F.length + 1) cap) (.inl HT2.out.2.2.1)).set_ ⟨g, 2, none⟩ (.int .i64 (n0 + 1)) (.inl HT2.out.2.2.1)
      rw [← HW5.out] at htu
      rw [HE.out]
      refine ⟨by rw [HN0.out]; simp, ⟨HFN.out, fun i hi => ?_, .inl HT2.out.2.2.1, .slice (some ⟨gn, 0, none⟩) (s.F.length + 1) cap, ?_, ?_⟩, htu⟩
      · rw [hsz] at hi ⊢
        have h2 := HBW.out
        rcases hi with hi | hi
        · have := HS2.out i hi
          exact ⟨this.1, by omega⟩
        · exact ⟨by omega, hi.2⟩
      · rw [hb6]
        simp [HN0.out]
      · rw [hsz, ← HN0.out]
        exact hR5

set_option maxRecDepth 100000 in
set_option maxHeartbeats 2000000 in
theorem ref_add1 (g b : Nat) (S : Nat → Prop) (s : Tr) (p : Int) (hp : p ≠ 0) (w : World) (hbw : b ≤ w.heap.size) (h : RefIn w b S g s) (hl : s.last < 4611686018427387904) :
    Calls Try.prog 29 #[.pointer (some ⟨g, 0, none⟩), .int .i64 p] w fun e w' => e = .returned (.tuple #[.int .i64 (addF s p).1, .int .i64 (addF s p).2.1]) ∧ RefIn w' b (fun k => S k ∨ (w.heap.size ≤ k ∧ k < w'.heap.size)) g (addF s p).2.2 ∧ Turn S w w' := by
  have HT := Lib.hid h
  have HBW := Lib.hid hbw
  have hfine := h.1
  have HA := Lib.hid (ref_anc g b S s p w h)
  obtain ⟨A, c, hcells⟩ := h.block
  have HCL := Lib.hid hcells
  have hroom := hfine.room
  have hm1 := hfine.m1
  have hl0 := hfine.l0
  have hnz : (p != 0) = true := by simpa using hp
  clear h hcells hbw
  by_cases hs : (getF s.F p).isSome = true
  · have HN : Hid (¬ (p ≠ 0 ∧ getF s.F p = none)) := Lib.hid (fun h => by rw [h.2] at hs; cases hs)
    obtain ⟨q, hq⟩ := Option.isSome_iff_exists.1 hs
    have HPS := Lib.hid hs
    have hal := anc_len hfine hq
    have hae : ancF s p = (anc s.F q.f1, 0) := by unfold ancF; rw [hq]
    rw [hae] at HA
    obtain ⟨l, hll⟩ : ∃ l, l = anc s.F q.f1 := ⟨_, rfl⟩
    have HD : Hid (depthF s p = (l.length : Int) + 2) := Lib.hid (by unfold depthF; rw [if_neg hp, hae, hll])
    rw [← hll] at HA hal
    have HPZ := Lib.hid hp
    clear hs hq hae hll hp
    go_enter Try.func29, Try.ntmps29
    go_wp2_with fail
    refine HA.out.mono ?_
    rintro e w1 ⟨v, rfl, hR, hb⟩
    obtain ⟨AA, cc, rfl⟩ := Kd.R_slice hR
    have HB1 := Lib.hid hb
    clear hR hb
    have HT1 := Lib.hid (HT.out.below HB1.out)
    obtain ⟨hblk, hC⟩ := HCL.out w1 HB1.out
    have c0 : w1.cell? ⟨g, 0, none⟩ = some (.slice A s.F.length c) := blk_cell hblk 0
    have c1 : w1.cell? ⟨g, 1, none⟩ = some (.int .i64 s.most) := blk_cell hblk 1
    clear hblk
    obtain ⟨n0, hn0⟩ : ∃ n, n = s.last + 1 := ⟨_, rfl⟩
    have hn0' : s.last + 1 = n0 := hn0.symm
    have hn1 : 1 ≤ n0 ∧ n0 ≤ 4611686018427387904 := by omega
    clear hn0
    by_cases hfull : s.most ≤ (s.F.length : Int)
    · have hd : decide (s.most ≤ (s.F.length : Int)) = true := decide_eq_true hfull
      have HE : Hid (addF s p = (0, 160, s)) := Lib.hid (by unfold addF; rw [if_neg HN.out, if_pos (.inl hfull)])
      clear hC hn0'
      go_wp2_with fail
      go_quiet (fail)
      go_wp2
      go_ret2
      rw [HE.out]
      have hb := pw_below_drewN HB1.out nq
      exact ⟨by first | rfl | simp, HT.out.wide hb HBW.out, Turn.of_below hb⟩
    · have hd : decide (s.most ≤ (s.F.length : Int)) = false := decide_eq_false hfull
      by_cases hdp : (16 : Int) < (l.length : Int) + 2
      · have hdd : decide ((16 : Int) < (l.length : Int) + 2) = true := decide_eq_true hdp
        have HE : Hid (addF s p = (0, 160, s)) := Lib.hid (by unfold addF; rw [if_neg HN.out, if_pos (.inr (by rw [HD.out]; omega))])
        clear hC hn0'
        go_wp2_with fail
        go_quiet (fail)
        go_wp2
        go_ret2
        rw [HE.out]
        have hb := pw_below_drewN HB1.out nq
        exact ⟨by first | rfl | simp, HT.out.wide hb HBW.out, Turn.of_below hb⟩
      · have hdd : decide ((16 : Int) < ((l.length : Int) + 2)) = false := decide_eq_false (by omega)
        have HE : Hid (addF s p = (s.last + 1, 0, ⟨s.most, s.last + 1, s.F ++ [⟨s.last + 1, p, 0⟩]⟩)) := Lib.hid (by unfold addF; rw [if_neg HN.out, if_neg (by rw [HD.out]; omega)])
        have HFN : Hid ((⟨s.most, s.last + 1, s.F ++ [⟨s.last + 1, p, 0⟩]⟩ : Tr).fine) := Lib.hid (add_fine hfine p (.inr HPS.out) (by omega) (by rw [HD.out]; omega) hl)
        go_wp2_with fail
        go_quiet (fail)
        obtain ⟨w2, hw2⟩ : ∃ x, x = w1.drewN nq := ⟨_, rfl⟩
        have HB2 := Lib.hid (pw_below_drewN HB1.out nq)
        have HT2 := Lib.hid (HT1.out.below (pw_below_drewN (Below.refl _ _) nq))
        rw [← hw2] at HB2 HT2 ⊢
        clear hw2 c0 c1 hC
        go_wp2_with fail
        obtain ⟨A, c, inner, hown0, hall, ok, hrp⟩ := HT2.out.parts
        have hbw2 : Below w2.heap.size w2 w2.drew := ⟨rfl, rfl, rfl, Nat.le_refl _, fun _ _ => rfl⟩
        have hbw3 := below_alloc hbw2 (.cells #[.int .i64 n0, .int .i64 p, .int .i64 0] 36)
        obtain ⟨hb0, ho0⟩ := hall _ hbw2
        obtain ⟨hb3, ho3⟩ := hall _ hbw3
        rw [hn0'] at hb0 hb3
        have k0 : w2.drew.cell? ⟨g, 0, none⟩ = some (.slice A s.F.length c) := blk_cell hb0 0
        have k2 : w2.drew.cell? ⟨g, 2, none⟩ = some (.int .i64 n0) := blk_cell hb0 2
        have k3 : w2.drew.frozen? ⟨g, 0, none⟩ = false := blk_frozen hb0 0
        have m0 : (w2.alloc (.cells #[.int .i64 n0, .int .i64 p, .int .i64 0] 36)).cell? ⟨g, 0, none⟩ = some (.slice A s.F.length c) := blk_cell hb3 0
        have m2 : (w2.alloc (.cells #[.int .i64 n0, .int .i64 p, .int .i64 0] 36)).cell? ⟨g, 2, none⟩ = some (.int .i64 n0) := blk_cell hb3 2
        have m3 : (w2.alloc (.cells #[.int .i64 n0, .int .i64 p, .int .i64 0] 36)).frozen? ⟨g, 0, none⟩ = false := blk_frozen hb3 0
        have HNEW := Lib.hid (blk_new w2.drew (.cells #[.int .i64 n0, .int .i64 p, .int .i64 0] 36))
        have HO3 := Lib.hid ho3
        have HB3 := Lib.hid hb3
        have HW3 := Lib.hid hbw3
        have HRP := Lib.hid hrp
        have HOW := Lib.hid hown0
        have HS2 := Lib.hid HT2.out.2.1
        have hb2s : b ≤ w2.heap.size := Nat.le_trans HBW.out HB2.out.size
        have hFl : s.F.length ≤ 200 := by omega
        clear hown0 hall hrp hbw2 hbw3 hb0 hb3 ho0 ho3
        obtain ⟨ti, hti, htz, hts, htb⟩ := infoFr
        have HTI := Lib.hid hti
        have HTZ := Lib.hid htz
        have HTS := Lib.hid hts
        have HTB := Lib.hid htb
        clear hti htz hts htb
        go_region_law ((refine step_append_lies _ (by rfl) (.tmp 41) (.tmp 48) 28 (by rfl) b 36 ti (.agg #[.int .i64 0, .int .i64 0, .int .i64 0]) 3 24 Try.underlying28 HTI.out HTZ.out HTS.out HTB.out (by decide) (by decide) (.slice A s.F.length c) s.F.length inner (by rfl) HO3.out ⟨w2.heap.size, 0, none⟩ 1 1 [.int .i64 n0, .int .i64 p, .int .i64 0] (by rfl) (by rfl) (World.news_of_block HNEW.out) (by intro u hu; simp at hu; rcases hu with rfl | rfl | rfl <;> rfl) (by decide) (by unfold maxLen; omega) (by omega) (by simp; omega) (w2.heap.size + 1) (by simp) ?_; intro gn cap w4 hown4 hgrow hat hlt4; have hb4 := blk_grown HB3.out hgrow (fun e => (HOW.out g e.symm).2 rfl); have z0 : w4.cell? ⟨g, 0, none⟩ = some (.slice A s.F.length c) := blk_cell hb4 0; have z2 : w4.cell? ⟨g, 2, none⟩ = some (.int .i64 n0) := blk_cell hb4 2; have z3 : w4.frozen? ⟨g, 0, none⟩ = false := blk_frozen hb4 0; have HB4 := Lib.hid hb4; have HO4 := Lib.hid hown4; have HG4 := Lib.hid hgrow; have HAT := Lib.hid hat; have HLT := Lib.hid hlt4; clear hb4 hown4 hgrow hat hlt4))
        all_goals
          clear k0 k2 k3 m0 m2 m3 z0 z2 z3
          have hb5 := blk_set HB4.out 0 (.slice (some ⟨gn, 0, none⟩) (s.F.length + 1) cap)
          obtain ⟨w5, hw5⟩ : ∃ x, x = w4.setCell ⟨g, 0, none⟩ (.slice (some ⟨gn, 0, none⟩) (s.F.length + 1) cap) := ⟨_, rfl⟩
          rw [← hw5] at hb5 ⊢
          have d2 : w5.cell? ⟨g, 2, none⟩ = some (.int .i64 n0) := by have := blk_cell hb5 2; simpa using this
          have d3 : w5.frozen? ⟨g, 2, none⟩ = false := blk_frozen hb5 2
          have HB5 := Lib.hid hb5
          have HW5 := Lib.hid hw5
          have HN0 := Lib.hid hn0'
          clear hb5 hw5 hn0'
          go_wp2
          go_ret2
          have hsz : (w5.setCell ⟨g, 2, none⟩ (.int .i64 (n0 + 1))).heap.size = w4.heap.size := by rw [HW5.out]; simp [World.setCell]
          have hs4 := HG4.out.size
          have hs3 : w2.heap.size + 1 = ((w2.alloc (.cells #[.int .i64 n0, .int .i64 p, .int .i64 0] 36)).drew).heap.size := by simp
          have hs2 := HB2.out.size
          have hgn : (S gn ∨ (w.heap.size ≤ gn ∧ gn < w4.heap.size)) ∧ gn ≠ g := by
            rcases HAT.out with h1 | h1
            · exact ⟨.inl (HOW.out gn h1).1, (HOW.out gn h1).2⟩
            · have := (HS2.out g HT2.out.2.2.1).2
              have := HLT.out
              exact ⟨.inr ⟨by omega, by omega⟩, by omega⟩
          have hR4 := R_news (x := ⟨n0, p, 0⟩) HRP.out HO4.out rfl (ok' := fun k => (S k ∨ (w.heap.size ≤ k ∧ k < w4.heap.size)) ∧ k ≠ g) hgn
          have hR5 := Kd.R_far (p := ⟨g, 2, none⟩) (Kd.R_far (p := ⟨g, 0, none⟩) hR4 (fun k hk => hk.2) (.slice (some ⟨gn, 0, none⟩) (s.F.length + 1) cap)) (fun k hk => hk.2) (.int .i64 (n0 + 1))
          rw [← HW5.out, ← HN0.out] at hR5
          have hb6 := blk_set HB5.out 2 (.int .i64 (n0 + 1))
          have htu := (((Turn.of_below (S := S) (below_then HB2.out HB2.out.size HW3.out)).grown HG4.out (fun k hk => .inl (HOW.out k hk).1)).set_ ⟨g, 0, none⟩ (.slice (some ⟨gn, 0, none⟩) (s.F.length + 1) cap) (.inl HT2.out.2.2.1)).set_ ⟨g, 2, none⟩ (.int .i64 (n0 + 1)) (.inl HT2.out.2.2.1)
          rw [← HW5.out] at htu
          rw [HE.out]
          refine ⟨by rw [HN0.out]; simp, ⟨HFN.out, fun i hi => ?_, .inl HT2.out.2.2.1, .slice (some ⟨gn, 0, none⟩) (s.F.length + 1) cap, ?_, ?_⟩, htu⟩
          · rw [hsz] at hi ⊢
            have h2 := HBW.out
            rcases hi with hi | hi
            · have := HS2.out i hi
              exact ⟨this.1, by omega⟩
            · exact ⟨by omega, hi.2⟩
          · rw [hb6]
            simp [HN0.out]
          · rw [hsz, ← HN0.out]
            exact hR5

  · have hnone : getF s.F p = none := by cases h : getF s.F p with
      | none => rfl
      | some x => rw [h] at hs; exact absurd rfl hs
    have hae : ancF s p = ([], 161) := by unfold ancF; rw [hnone]
    have HE : Hid (addF s p = (0, 161, s)) := Lib.hid (by unfold addF; rw [if_pos ⟨hp, hnone⟩])
    rw [hae] at HA
    clear hae hnone hs hp
    go_enter Try.func29, Try.ntmps29
    go_wp2_with fail
    refine HA.out.mono ?_
    rintro e w1 ⟨v, rfl, hR, hb⟩
    have HB := Lib.hid hb
    clear hR hb
    go_wp2
    go_ret2
    rw [HE.out]
    exact ⟨rfl, HT.out.wide HB.out HBW.out, Turn.of_below HB.out⟩
theorem ref_add (g b : Nat) (S : Nat → Prop) (s : Tr) (p : Int) (w : World) (hbw : b ≤ w.heap.size) (h : RefIn w b S g s) (hl : s.last < 4611686018427387904) :
    Calls Try.prog 29 #[.pointer (some ⟨g, 0, none⟩), .int .i64 p] w fun e w' => e = .returned (.tuple #[.int .i64 (addF s p).1, .int .i64 (addF s p).2.1]) ∧ RefIn w' b (fun k => S k ∨ (w.heap.size ≤ k ∧ k < w'.heap.size)) g (addF s p).2.2 ∧ Turn S w w' := by
  by_cases hp : p = 0
  · subst hp; exact ref_add0 g b S s w hbw h hl
  · exact ref_add1 g b S s p hp w hbw h hl

end Go.Proofs.Ytbkahblcabmdkaa.F
