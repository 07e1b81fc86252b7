import Derived.Test.YtbkahblcabmdkaaFd
/-! The tree: Add. -/
namespace Go.Proofs.Ytbkahblcabmdkaa.F
open Go.RowKit Go.Proofs.YtbkahblcabmdkaaW.PrintWords Go.Proofs.Ytbkahblcabmdkaa.X
set_option linter.unusedVariables false

set_option maxRecDepth 100000 in
theorem atomic_add (a : Addr) (x : Int) (h0 : 0 ≤ x) (h1 : x < 4611686018427387904) (w : World) (hc : w.cell? a = some (.int .i64 x)) (hz : w.frozen? a = false) :
    Calls Try.prog 28 #[.pointer (some a), .int .i64 1] w fun e w' => e = .returned (.int .i64 (x + 1)) ∧ w' = w.setCell a (.int .i64 (x + 1)) := by
  have hw : IntKind.i64.wrap (x + 1) = x + 1 := by rw [IntKind.wrap_i64]; omega
  have hadd := run_call_add (P := Try.prog) Try.func39 (by kernel_rfl) (by kernel_rfl) (by kernel_rfl) .i64 (by kernel_rfl) (y := 1) (s := x + 1) hc hz (by simp [go_sem, hw])
  go_enter Try.func28, Try.ntmps28
  go_wp2
  go_ret
  exact ⟨rfl, rfl⟩
theorem add_nil (p : Int) (w : World) : Calls Try.prog 18 #[.pointer none, .int .i64 p] w fun e w' => e = .returned (.tuple #[.int .i64 0, .int .i64 1]) ∧ w' = w := by
  go_enter Try.func18, Try.ntmps18
  go_wp2
  go_ret2
  exact ⟨rfl, rfl⟩
theorem set_last {w : World} {g bm : Nat} {s : Tr} (h : TreeIn w g bm s) (x : Int) : (w.setCell ⟨g, 1, none⟩ (.int .i64 x)).heap[g]? = some (.cells #[.int .i64 s.most, .int .i64 x, .map (some bm)] 68 (0, 0)) := blk_set h.t 1 _
set_option maxRecDepth 100000 in
set_option maxHeartbeats 2000000 in
theorem add_calls (g bm : Nat) (s : Tr) (p : Int) (h0 : -9223372036854775808 ≤ p) (h1 : p ≤ 9223372036854775807) (w : World) (h : TreeIn w g bm s) (hl : s.last < 4611686018427387904) :
    Calls Try.prog 18 #[.pointer (some ⟨g, 0, none⟩), .int .i64 p] w fun e w' => e = .returned (.tuple #[.int .i64 (addF s p).1, .int .i64 (addF s p).2.1]) ∧ TreeIn w' g bm (addF s p).2.2 ∧ Turn (fun i => i = g ∨ i = bm) w w' := by
  have HT := Lib.hid h
  have HA := Lib.hid (ancestors_calls g bm s p h0 h1 w h)
  have hfine := h.fine
  clear h
  by_cases hp : p = 0
  · subst hp
    have HD : Hid (depthF s 0 = 1) := Lib.hid (by unfold depthF; rw [if_pos rfl])
    have HP : Hid ((0 : Int) = 0 ∨ (getF s.F 0).isSome = true) := Lib.hid (.inl rfl)
    have HN : Hid (¬ ((0 : Int) ≠ 0 ∧ getF s.F 0 = none)) := Lib.hid (fun h => h.1 rfl)
    have HB := Lib.hid (Below.refl w.heap.size w)
    clear HA
    have dd1 : (1 : Int) ≤ 16 := by omega
    have hroom := hfine.room
    have hm1 := hfine.m1
    have hl0 := hfine.l0
    have HTW := Lib.hid (HT.out.below HB.out)
    have c0 : w.cell? ⟨g, 0, none⟩ = some (.int .i64 s.most) := blk_cell HTW.out.t 0
    have c1 : w.cell? ⟨g, 1, none⟩ = some (.int .i64 s.last) := blk_cell HTW.out.t 1
    have c2 : w.cell? ⟨g, 2, none⟩ = some (.map (some bm)) := blk_cell HTW.out.t 2
    have f1 : w.frozen? ⟨g, 1, none⟩ = false := blk_frozen HTW.out.t 1
    have hlen : ∀ n : Nat, (Builtin.len_ #[61] 3 #[.map (some bm)]).run Try.prog (w.drewN n) = .ok (.int .i64 s.F.length) (w.drewN n) := fun n => (HTW.out.move (w1 := w.drewN n) rfl rfl).len 3
    by_cases hfull : s.most ≤ (s.F.length : Int)
    · have hd : decide (s.most ≤ (s.F.length : Int)) = true := decide_eq_true hfull
      have HE : Hid (addF s 0 = (0, 160, s)) := Lib.hid (by unfold addF; rw [if_neg HN.out, if_pos (.inl hfull)])
      go_enter Try.func18, Try.ntmps18
      go_wp2_with fail
      go_quiet (fail)
      go_wp2
      go_ret2
      rw [HE.out]
      exact ⟨rfl, HTW.out.below (pw_below_drewN (Below.refl _ _) _), Turn.of_below (pw_below_drewN HB.out _)⟩
    · have hd : decide (s.most ≤ (s.F.length : Int)) = false := decide_eq_false hfull
      have hdd : decide ((16 : Int) < 1) = false := decide_eq_false (by omega)
      have HE : Hid (addF s 0 = (s.last + 1, 0, ⟨s.most, s.last + 1, s.F ++ [⟨s.last + 1, 0, 0⟩]⟩)) := Lib.hid (by unfold addF; rw [if_neg HN.out, if_neg (by rw [HD.out]; omega)])
      have HFN : Hid ((⟨s.most, s.last + 1, s.F ++ [⟨s.last + 1, 0, 0⟩]⟩ : Tr).fine) := Lib.hid (add_fine hfine 0 HP.out (by omega) (by rw [HD.out]; omega) hl)
      go_enter Try.func18, Try.ntmps18
      go_wp2_with fail
      go_quiet (fail)
      obtain ⟨w2, hw2⟩ : ∃ x, x = w.drewN nq := ⟨_, rfl⟩
      have HT2 := Lib.hid (HTW.out.below (pw_below_drewN (Below.refl _ _) nq))
      have HB2 := Lib.hid (pw_below_drewN HB.out nq)
      rw [← hw2] at HT2 HB2 ⊢
      clear hw2 c0 c1 c2 f1 hlen
      have c1 : w2.cell? ⟨g, 1, none⟩ = some (.int .i64 s.last) := blk_cell HT2.out.t 1
      have f1 : w2.frozen? ⟨g, 1, none⟩ = false := blk_frozen HT2.out.t 1
      go_wp2_with fail
      refine (atomic_add ⟨g, 1, none⟩ s.last hl0 hl w2 c1 f1).mono ?_
      rintro e w3 ⟨rfl, hw3⟩
      have hg3 := set_last HT2.out (s.last + 1)
      have hne := HT2.out.ne
      obtain ⟨n, D, hown0, hM⟩ := HT2.out.m
      have hown := (ownsMap_fit hown0).setCell (a := ⟨g, 1, none⟩) (fun e => hne e.symm) (.int .i64 (s.last + 1))
      have hsz := hM.size
      have hpl : (prs s.F).length = s.F.length := by simp [prs]
      have hmax : Maps.size D < maxLen := by unfold maxLen; omega
      have HU := Lib.hid (((Turn.of_below (S := fun i => i = g ∨ i = bm) HB2.out)).set_ ⟨g, 1, none⟩ (.int .i64 (s.last + 1)) (.inl (.inl rfl)))
      rw [← hw3] at hg3 hown HU
      have c2 : w3.cell? ⟨g, 2, none⟩ = some (.map (some bm)) := blk_cell hg3 2
      have HG3 := Lib.hid hg3
      have HOWN := Lib.hid hown
      have HM := Lib.hid hM
      have HMAX := Lib.hid hmax
      have HNE := Lib.hid hne
      clear hg3 hown hown0 hM hsz hpl hmax hw3 hne c1 f1
      go_wp2_with ((with_reducible at_mapUpdate); refine Go.wpList_mapUpdate_own _ rfl _ _ _ 61 rfl 3 36 intLaw Try.underlying61 frElem bm (Maps.size D) D rfl HOWN.out HMAX.out (.int .i64 (s.last + 1)) (.agg #[.int .i64 (s.last + 1), .int .i64 0, .int .i64 0]) (key (s.last + 1)) rfl rfl (keyOf_mk (by omega) (by omega)) (frD ⟨s.last + 1, 0, 0⟩) [] rfl ?_; intro w4 hown4 hg4; have hm4 : MapIs frD (D.put (key (s.last + 1)) (frD ⟨s.last + 1, 0, 0⟩)) (prs (s.F ++ [⟨s.last + 1, 0, 0⟩])) := (by have h := HM.out.put_del (s.last + 1) (⟨s.last + 1, 0, 0⟩ : Fr); rw [add_prs hfine] at h; exact h); have HT4 := Lib.hid (show TreeIn w4 g bm ⟨s.most, s.last + 1, s.F ++ [⟨s.last + 1, 0, 0⟩]⟩ from ⟨HFN.out, blk_grown HG3.out hg4 (by intro e; cases e; exact HNE.out rfl), _, _, hown4, hm4⟩); have HU4 := Lib.hid (HU.out.grown hg4 (fun k e => by cases e; exact .inl (.inr rfl))); clear hown4 hg4 hm4)
      go_ret2
      rw [HE.out]
      exact ⟨rfl, HT4.out, HU4.out⟩
  · by_cases hs : (getF s.F p).isSome = true
    · have HP : Hid (p = 0 ∨ (getF s.F p).isSome = true) := Lib.hid (.inr hs)
      have HN : Hid (¬ (p ≠ 0 ∧ getF s.F p = none)) := Lib.hid (fun h => by rw [h.2] at hs; cases hs)
      obtain ⟨q, hq⟩ := Option.isSome_iff_exists.1 hs
      have hal := anc_len hfine hq
      have hae : ancF s p = (anc s.F q.f1, 0) := by unfold ancF; rw [hq]
      rw [hae] at HA
      obtain ⟨l, hll⟩ : ∃ l, l = anc s.F q.f1 := ⟨_, rfl⟩
      have HD : Hid (depthF s p = (l.length : Int) + 2) := Lib.hid (by unfold depthF; rw [if_neg hp, hae, hll])
      rw [← hll] at HA hal
      have hnz : (p != 0) = true := by simpa using hp
      clear hs hq hae hll
      go_enter Try.func18, Try.ntmps18
      go_wp2_with fail
      refine HA.out.mono ?_
      rintro e w1 ⟨v, rfl, hR, hb⟩
      obtain ⟨AA, cc, rfl⟩ := Kd.R_slice hR
      have HB := Lib.hid hb
      clear hR hb
      have hroom := hfine.room
      have hm1 := hfine.m1
      have hl0 := hfine.l0
      have HTW := Lib.hid (HT.out.below HB.out)
      have c0 : w1.cell? ⟨g, 0, none⟩ = some (.int .i64 s.most) := blk_cell HTW.out.t 0
      have c1 : w1.cell? ⟨g, 1, none⟩ = some (.int .i64 s.last) := blk_cell HTW.out.t 1
      have c2 : w1.cell? ⟨g, 2, none⟩ = some (.map (some bm)) := blk_cell HTW.out.t 2
      have f1 : w1.frozen? ⟨g, 1, none⟩ = false := blk_frozen HTW.out.t 1
      have hlen : ∀ n : Nat, (Builtin.len_ #[61] 3 #[.map (some bm)]).run Try.prog (w1.drewN n) = .ok (.int .i64 s.F.length) (w1.drewN n) := fun n => (HTW.out.move (w1 := w1.drewN n) rfl rfl).len 3
      by_cases hfull : s.most ≤ (s.F.length : Int)
      · have hd : decide (s.most ≤ (s.F.length : Int)) = true := decide_eq_true hfull
        have HE : Hid (addF s p = (0, 160, s)) := Lib.hid (by unfold addF; rw [if_neg HN.out, if_pos (.inl hfull)])
        go_wp2_with fail
        go_quiet (fail)
        go_wp2
        go_ret2
        rw [HE.out]
        exact ⟨rfl, HTW.out.below (pw_below_drewN (Below.refl _ _) _), Turn.of_below (pw_below_drewN HB.out _)⟩
      · have hd : decide (s.most ≤ (s.F.length : Int)) = false := decide_eq_false hfull
        by_cases hdp : (16 : Int) < (l.length : Int) + 2
        · have hdd : decide ((16 : Int) < (l.length : Int) + 2) = true := decide_eq_true hdp
          have HE : Hid (addF s p = (0, 160, s)) := Lib.hid (by unfold addF; rw [if_neg HN.out, if_pos (.inr (by rw [HD.out]; omega))])
          go_wp2_with fail
          go_quiet (fail)
          go_wp2
          go_ret2
          rw [HE.out]
          exact ⟨rfl, HTW.out.below (pw_below_drewN (Below.refl _ _) _), Turn.of_below (pw_below_drewN HB.out _)⟩
        have hdd : decide ((16 : Int) < ((l.length : Int) + 2)) = false := decide_eq_false (by omega)
        have HE : Hid (addF s p = (s.last + 1, 0, ⟨s.most, s.last + 1, s.F ++ [⟨s.last + 1, p, 0⟩]⟩)) := Lib.hid (by unfold addF; rw [if_neg HN.out, if_neg (by rw [HD.out]; omega)])
        have HFN : Hid ((⟨s.most, s.last + 1, s.F ++ [⟨s.last + 1, p, 0⟩]⟩ : Tr).fine) := Lib.hid (add_fine hfine p HP.out (by omega) (by rw [HD.out]; omega) hl)
        go_wp2_with fail
        go_quiet (fail)
        obtain ⟨w2, hw2⟩ : ∃ x, x = w1.drewN nq := ⟨_, rfl⟩
        have HT2 := Lib.hid (HTW.out.below (pw_below_drewN (Below.refl _ _) nq))
        have HB2 := Lib.hid (pw_below_drewN HB.out nq)
        rw [← hw2] at HT2 HB2 ⊢
        clear hw2 c0 c1 c2 f1 hlen
        have c1 : w2.cell? ⟨g, 1, none⟩ = some (.int .i64 s.last) := blk_cell HT2.out.t 1
        have f1 : w2.frozen? ⟨g, 1, none⟩ = false := blk_frozen HT2.out.t 1
        go_wp2_with fail
        refine (atomic_add ⟨g, 1, none⟩ s.last hl0 hl w2 c1 f1).mono ?_
        rintro e w3 ⟨rfl, hw3⟩
        have hg3 := set_last HT2.out (s.last + 1)
        have hne := HT2.out.ne
        obtain ⟨n, D, hown0, hM⟩ := HT2.out.m
        have hown := (ownsMap_fit hown0).setCell (a := ⟨g, 1, none⟩) (fun e => hne e.symm) (.int .i64 (s.last + 1))
        have hsz := hM.size
        have hpl : (prs s.F).length = s.F.length := by simp [prs]
        have hmax : Maps.size D < maxLen := by unfold maxLen; omega
        have HU := Lib.hid (((Turn.of_below (S := fun i => i = g ∨ i = bm) HB2.out)).set_ ⟨g, 1, none⟩ (.int .i64 (s.last + 1)) (.inl (.inl rfl)))
        rw [← hw3] at hg3 hown HU
        have c2 : w3.cell? ⟨g, 2, none⟩ = some (.map (some bm)) := blk_cell hg3 2
        have HG3 := Lib.hid hg3
        have HOWN := Lib.hid hown
        have HM := Lib.hid hM
        have HMAX := Lib.hid hmax
        have HNE := Lib.hid hne
        clear hg3 hown hown0 hM hsz hpl hmax hw3 hne c1 f1
        go_wp2_with ((with_reducible at_mapUpdate); refine Go.wpList_mapUpdate_own _ rfl _ _ _ 61 rfl 3 36 intLaw Try.underlying61 frElem bm (Maps.size D) D rfl HOWN.out HMAX.out (.int .i64 (s.last + 1)) (.agg #[.int .i64 (s.last + 1), .int .i64 p, .int .i64 0]) (key (s.last + 1)) rfl rfl (keyOf_mk (by omega) (by omega)) (frD ⟨s.last + 1, p, 0⟩) [] rfl ?_; intro w4 hown4 hg4; have hm4 : MapIs frD (D.put (key (s.last + 1)) (frD ⟨s.last + 1, p, 0⟩)) (prs (s.F ++ [⟨s.last + 1, p, 0⟩])) := (by have h := HM.out.put_del (s.last + 1) (⟨s.last + 1, p, 0⟩ : Fr); rw [add_prs hfine] at h; exact h); have HT4 := Lib.hid (show TreeIn w4 g bm ⟨s.most, s.last + 1, s.F ++ [⟨s.last + 1, p, 0⟩]⟩ from ⟨HFN.out, blk_grown HG3.out hg4 (by intro e; cases e; exact HNE.out rfl), _, _, hown4, hm4⟩); have HU4 := Lib.hid (HU.out.grown hg4 (fun k e => by cases e; exact .inl (.inr rfl))); clear hown4 hg4 hm4)
        go_ret2
        rw [HE.out]
        exact ⟨rfl, HT4.out, HU4.out⟩
    · have hnone : getF s.F p = none := by cases h : getF s.F p with
        | none => rfl
        | some x => rw [h] at hs; exact absurd rfl hs
      have hae : ancF s p = ([], 161) := by unfold ancF; rw [hnone]
      have HE : Hid (addF s p = (0, 161, s)) := Lib.hid (by unfold addF; rw [if_pos ⟨hp, hnone⟩])
      rw [hae] at HA
      have hnz : (p != 0) = true := by simpa using hp
      clear hae hnone hs
      go_enter Try.func18, Try.ntmps18
      go_wp2_with fail
      refine HA.out.mono ?_
      rintro e w1 ⟨v, rfl, hR, hb⟩
      have HB := Lib.hid hb
      clear hR hb
      go_wp2
      go_ret2
      rw [HE.out]
      exact ⟨rfl, HT.out.below HB.out, Turn.of_below HB.out⟩
end Go.Proofs.Ytbkahblcabmdkaa.F
