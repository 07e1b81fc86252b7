import Derived.Test.YtbkahblcabmdkaaFm
/-! FramesTree. -/
namespace Go.Proofs.Ytbkahblcabmdkaa.F
open Go.RowKit Go.Proofs.YtbkahblcabmdkaaW.PrintWords Go.Proofs.Ytbkahblcabmdkaa.X
set_option linter.unusedVariables false

theorem anc_props {s : Tr} (h : s.fine) : ∀ (n : Nat) (p : Int), p.toNat ≤ n → (p = 0 ∨ (getF s.F p).isSome = true) → (∀ x ∈ anc s.F p, (getF s.F x).isSome = true ∧ x ≤ p) ∧ (anc s.F p).Pairwise (fun a b => b < a) ∧ (p ≠ 0 → ∃ r, anc s.F p = p :: r) := by
  intro n
  induction n with
  | zero =>
    intro p hn hp
    have hz : p = 0 := by
      rcases hp with hp | hp
      · exact hp
      · have := some_le h hp; omega
    subst hz
    refine ⟨(fun x hx => by cases hx), List.Pairwise.nil, fun h => absurd rfl h⟩
  | succ n ih =>
    intro p hn hp
    by_cases hz : p = 0
    · subst hz
      refine ⟨(fun x hx => by cases hx), List.Pairwise.nil, fun h => absurd rfl h⟩
    · obtain ⟨q, hq⟩ := Option.isSome_iff_exists.1 (hp.resolve_left hz)
      obtain ⟨hm, he⟩ := getF_mem hq
      have hst := anc_step h hq
      have hpar := h.par q hm
      have hsm : q.f1.toNat ≤ n ∧ q.f1 < p := by
        have := some_le h (hp.resolve_left hz)
        rcases hpar with h1 | ⟨h1, h2, _⟩ <;> omega
      obtain ⟨i1, i2, i3⟩ := ih q.f1 hsm.1 (hpar.elim .inl (fun h => .inr h.2.2))
      rw [hst]
      refine ⟨fun x hx => ?_, ?_, fun _ => ⟨_, rfl⟩⟩
      · rcases List.mem_cons.1 hx with rfl | hx
        · exact ⟨hp.resolve_left hz, Int.le_refl _⟩
        · have := i1 x hx; exact ⟨this.1, by omega⟩
      · rw [List.pairwise_cons]
        exact ⟨fun x hx => by have := (i1 x hx).2; omega, i2⟩
/-- Where one stands when k ancestors are looked at. -/
def atK (x : Int) (a : List Int) (k : Nat) : Int := (a.take k).getLast?.getD x
theorem atK_succ (x : Int) (a : List Int) (k : Nat) (hk : k < a.length) : atK x a (k + 1) = a[k] := by
  unfold atK
  rw [List.take_succ_eq_append_getElem hk, List.getLast?_append]
  simp
theorem atK_gt {x : Int} {a : List Int} (hp : a.Pairwise (fun a b => b < a)) (hx : ∀ y ∈ a, y < x) (k : Nat) (hk : k < a.length) : a[k] < atK x a k := by
  cases k with
  | zero => exact hx _ (List.getElem_mem hk)
  | succ k =>
    rw [atK_succ x a k (by omega)]
    exact (List.pairwise_iff_getElem.1 hp) k (k + 1) (by omega) hk (by omega)
theorem rng_at (n : Int) (k : Nat) (hk : k < (rng n).length) : rd (rng n) (k : Int) = (k : Int) + 1 := by
  rw [rng_len] at hk
  unfold rd rng
  simp [hk]
theorem top_to {s : Tr} {k x er : Int} (he : topF s k = (x, er)) (g bm : Nat) (h0 : -9223372036854775808 ≤ k) (h1 : k ≤ 9223372036854775807) (w : World) (h : TreeIn w g bm s) :
    Calls Try.prog 24 #[.pointer (some ⟨g, 0, none⟩), .int .i64 k] w fun e w' => e = .returned (.tuple #[.int .i64 x, .int .i64 er]) ∧ Below w.heap.size w w' := by
  have := top_calls g bm s k h0 h1 w h
  rw [he] at this
  exact this
theorem frame_at {w : World} {A : Option Addr} {n : Nat} {F : List Fr} (h : Kd.C kFr w A n F) (k : Nat) (hk : k < F.length) : ∃ ad, A = some ad ∧ w.cell? (ad.add (k * 3)) = some (.int .i64 F[k].f0) ∧ w.cell? ⟨(ad.add (k * 3)).block, (ad.add (k * 3)).off + 1, none⟩ = some (.int .i64 F[k].f1) ∧ w.cell? ⟨(ad.add (k * 3)).block, (ad.add (k * 3)).off + 2, none⟩ = some (.int .i64 F[k].f2) := by
  have hn := h.1
  obtain ⟨ad, e, q0, q1, q2⟩ := at_T36 h (k : Int) (by omega) (by omega)
  have hx : rd_T36 F (k : Int) = F[k] := by unfold rd_T36; simp [hk]
  rw [show ((k : Int)).toNat = k by omega, hx] at q0 q1 q2
  exact ⟨ad, e, q0, q1, q2⟩
set_option maxRecDepth 100000 in
theorem tree_bad (m : Int) (hm : m < 1 ∨ 200 < m) (A : Option Addr) (c : Nat) (sc : List Cl) (w : World) :
    Calls Try.prog 7 #[.int .i64 m, .slice A sc.length c] w fun e w' => e = .returned (.bool true) ∧ Below w.heap.size w w' := by
  have HA := Lib.hid (awake_calls w)
  by_cases h1 : m < 1
  · have HM := Lib.hid hm
    clear hm
    have d1 : decide (m < 1) = true := decide_eq_true h1
    go_enter Try.func7, Try.ntmps7
    go_wp2_with fail
    refine HA.out.mono ?_
    rintro e w1 ⟨rfl, hb⟩
    have HB1 := Lib.hid hb
    clear hb HA
    go_wp2_with fail
    refine (played_bad m HM.out A c sc w1).mono ?_
    rintro e w2 ⟨rfl, hb⟩
    have HB2 := Lib.hid (below_then HB1.out HB1.out.size hb)
    clear hb HB1
    go_wp2
    go_ret
    exact ⟨rfl, HB2.out⟩
  · have HM := Lib.hid hm
    have h2 : 200 < m := by omega
    clear hm
    have d1 : decide (m < 1) = false := decide_eq_false h1
    have d2 : decide (200 < m) = true := decide_eq_true h2
    go_enter Try.func7, Try.ntmps7
    go_wp2_with fail
    refine HA.out.mono ?_
    rintro e w1 ⟨rfl, hb⟩
    have HB1 := Lib.hid hb
    clear hb HA
    go_wp2_with fail
    refine (played_bad m HM.out A c sc w1).mono ?_
    rintro e w2 ⟨rfl, hb⟩
    have HB2 := Lib.hid (below_then HB1.out HB1.out.size hb)
    clear hb HB1
    go_wp2
    go_ret
    exact ⟨rfl, HB2.out⟩
set_option maxRecDepth 100000 in
set_option maxHeartbeats 4000000 in
theorem tree_good (m : Int) (h0 : 1 ≤ m) (h1 : m ≤ 200) (A : Option Addr) (c : Nat) (sc : List Cl) (w : World) (hC : Kd.C kCl w A sc.length sc) (hq : ∀ x ∈ sc, -9223372036854775808 ≤ x.nn ∧ x.nn ≤ 9223372036854775807) :
    Calls Try.prog 7 #[.int .i64 m, .slice A sc.length c] w fun e w' => e = .returned (.bool true) ∧ Below w.heap.size w w' := by
  have HA := Lib.hid (awake_calls w)
  have HC := Lib.hid hC
  have HQ := Lib.hid hq
  clear hC hq
  go_enter Try.func7, Try.ntmps7
  go_wp2_with fail
  refine HA.out.mono ?_
  rintro e w1 ⟨rfl, hb⟩
  have HB1 := Lib.hid hb
  clear hb HA
  go_wp2_with fail
  refine (played_good m h0 h1 A c sc w1 (Kd.C_below HC.out HB1.out) HQ.out).mono ?_
  rintro e w2 ⟨g, bm, v, rfl, hg1, hg2, hP⟩
  have hmo := play_most m sc 120
  have hla := play_last m sc 120
  obtain ⟨s, hs⟩ : ∃ s, s = playF m (sc.take 120) := ⟨_, rfl⟩
  rw [← hs] at hP hmo hla
  have HB2 := Lib.hid (below_then HB1.out HB1.out.size hP.below)
  have HT2 := Lib.hid hP.tr
  obtain ⟨A1, c1, e2⟩ := Kd.R_slice hP.ids
  subst e2
  have hC1 := (Kd.R_reads' hP.ids).2.2
  have hfine := hP.tr.fine
  have hroom : (s.F.length : Int) ≤ m := by have := hfine.room; omega
  have hFl : s.F.length ≤ 200 := by omega
  have hll : (rng s.last).length ≤ 120 := by rw [rng_len]; omega
  have HAT := Lib.hid (rng_at s.last)
  obtain ⟨ids, hids⟩ : ∃ l, l = rng s.last := ⟨_, rfl⟩
  rw [← hids] at hC1 hll HAT ⊢
  have HC1 := Lib.hid hC1
  clear hs hP HB1 hg1 hg2 hmo hla hC1 hids HC HQ
  go_wp2_with fail
  go_loopw [8] (fun i wr => ∃ k : Nat, 1 ≤ k ∧ i = .int .i64 k ∧ k ≤ ids.length + 1 ∧ Hid (Below w2.heap.size w2 wr)) (fun i _ => (121 - RowKit.intOf i).toNat)
  case atStart => exact ⟨1, by omega, rfl, by omega, Below.refl _ _⟩
  case round =>
    obtain ⟨k, hk, rfl, hk2, HB3⟩ := hrel
    by_cases hlt : k < ids.length
    · have hdl : decide ((k : Int) < (ids.length : Int)) = true := decide_eq_true (by omega)
      have hdl2 : decide (k < ids.length) = true := decide_eq_true hlt
      obtain ⟨ad, e1, q0⟩ := Kd.at_int (Kd.C_below HC1.out HB3.out) (k : Int) (by omega) (by omega)
      obtain ⟨ad', e1', q1⟩ := Kd.at_int (Kd.C_below HC1.out HB3.out) ((k - 1 : Nat) : Int) (by omega) (by omega)
      subst e1
      obtain rfl : ad = ad' := by simpa using e1'
      rw [HAT.out k hlt, show ((k : Int)).toNat = k by omega] at q0
      rw [HAT.out (k - 1) (by omega), show (((k - 1 : Nat) : Int) + 1) = (k : Int) by omega, show (((k - 1 : Nat) : Int)).toNat = k - 1 by omega] at q1
      have hq2 : wr.cell? (ad.add ((k : Int) - 1).toNat) = some (.int .i64 k) := by rw [show ((k : Int) - 1).toNat = k - 1 by omega]; exact q1
      have hd3 : decide ((k : Int) + 1 ≤ (k : Int)) = false := decide_eq_false (by omega)
      clear e1'
      go_wp2_with fail
      go_quiet (fail)
      go_wp2
      go_roundw
      case rel => exact ⟨k + 1, by omega, by simp, by omega, pw_below_drewN HB3.out _⟩
      case measure => simp [RowKit.intOf]; omega
    · have hdl : decide ((k : Int) < (ids.length : Int)) = false := decide_eq_false (by omega)
      have hdl2 : decide (k < ids.length) = false := decide_eq_false hlt
      have HB4 := Lib.hid (below_then HB2.out HB2.out.size HB3.out)
      have HT4 := Lib.hid (HT2.out.below HB3.out)
      clear HB3 HB2 HT2 HC1 HAT
      go_wp2_with fail
      refine (all_to g bm s wr HT4.out).mono ?_
      rintro e w5 ⟨B, d, rfl, hW, hb⟩
      have HT5 := Lib.hid (HT4.out.below hb)
      have HB5 := Lib.hid (below_then HB4.out HB4.out.size hb)
      have HW5 := Lib.hid hW
      clear hW hb HT4 HB4
      go_wp2_with fail
      go_loopw [10] (fun i wr => ∃ k : Nat, k ≤ s.F.length ∧ i = .int .i64 k ∧ Hid (Below w5.heap.size w5 wr)) (fun i _ => s.F.length - (RowKit.intOf i).toNat)
      case atStart => exact ⟨0, Nat.zero_le _, rfl, Below.refl _ _⟩
      case round =>
        obtain ⟨n, hn, rfl, HB6⟩ := hrel
        by_cases hlt2 : n < s.F.length
        · have hwW := Kd.R_below HW5.out HB6.out
          obtain ⟨ad, e1, q0, q1, q2⟩ := frame_at (Kd.R_reads' hwW).2.2 n hlt2
          subst e1
          have hT6 := HT5.out.below HB6.out
          have hmem := List.getElem_mem hlt2
          have hgm := getF_of_mem hfine hmem
          have hib := id_bounds hfine hmem
          have hpar := hfine.par _ hmem
          have hdeep := hfine.deep _ hmem
          have hpr := anc_props hfine _ s.F[n].f1 (Nat.le_refl _) (hpar.elim .inl (fun h => .inr h.2.2))
          have hprev : n ≠ 0 → ∃ x, wr.cell? (ad.add ((n - 1) * 3)) = some (.int .i64 x) ∧ x < s.F[n].f0 := fun hn0 => by
            obtain ⟨ad', e', p0, _, _⟩ := frame_at (Kd.R_reads' hwW).2.2 (n - 1) (by omega)
            obtain rfl : ad = ad' := by simpa using e'
            exact ⟨_, p0, (List.pairwise_iff_getElem.1 hfine.rise) (n - 1) n (by omega) hlt2 (by omega)⟩
          obtain ⟨f, hf⟩ : ∃ f, f = s.F[n] := ⟨_, rfl⟩
          rw [← hf] at q0 q1 q2 hgm hib hpar hdeep hpr hprev
          obtain ⟨a, ha⟩ : ∃ a, a = anc s.F f.f1 := ⟨_, rfl⟩
          have heA : ancF s f.f0 = (a, 0) := by unfold ancF; rw [hgm, ha]
          have heT : topF s f.f0 = (atK f.f0 a a.length, 0) := by unfold topF atK; rw [hgm, ha, List.take_length]
          rw [← ha] at hdeep hpr
          obtain ⟨fi, fp, fd⟩ := f
          dsimp only at q0 q1 q2 hib hpar hdeep hpr hprev heA heT
          have HPR := Lib.hid hpr
          have HPV := Lib.hid hprev
          have HPAR := Lib.hid hpar
          have HTOP := Lib.hid (fun W h => top_to heT g bm (by omega) (by omega) W h)
          have HANC := Lib.hid (anc_to heA g bm (by omega) (by omega) wr hT6)
          obtain ⟨tv, htv⟩ : ∃ x, x = atK fi a a.length := ⟨_, rfl⟩
          rw [← htv] at HTOP
          have HTV := Lib.hid htv
          have hdd : decide ((15 : Int) < (a.length : Int)) = false := decide_eq_false (by omega)
          clear hwW hmem hgm hpar hpr hprev hf ha heA heT htv hT6
          go_wp2_with fail
          refine HANC.out.mono ?_
          rintro e w7 ⟨A7, c7, rfl, hR, hb⟩
          have HB7 := Lib.hid (below_then HB6.out HB6.out.size hb)
          have p0 := cell_below' hb q0
          have p1 := cell_below' hb q1
          have HPV7 : Hid (n ≠ 0 → ∃ x, w7.cell? (ad.add ((n - 1) * 3)) = some (.int .i64 x) ∧ x < fi) := Lib.hid (fun h => by
            obtain ⟨x, h1, h2⟩ := HPV.out h
            exact ⟨x, cell_below' hb h1, h2⟩)
          have HR7 := Lib.hid hR
          clear q0 q1 q2 hR hb HANC HPV
          go_wp2_with fail
          refine (HTOP.out _ (HT5.out.below HB7.out)).mono ?_
          rintro e w8 ⟨rfl, hb⟩
          have HB8 := Lib.hid (below_then HB7.out HB7.out.size hb)
          have HR8 := Lib.hid (Kd.R_below HR7.out hb)
          have q0 := cell_below' hb p0
          have q1 := cell_below' hb p1
          have HPV : Hid (n ≠ 0 → ∃ x, w8.cell? (ad.add ((n - 1) * 3)) = some (.int .i64 x) ∧ x < fi) := Lib.hid (fun h => by
            obtain ⟨x, h1, h2⟩ := HPV7.out h
            exact ⟨x, cell_below' hb h1, h2⟩)
          clear hb p0 p1 HTOP HB7 HR7 HPV7
          by_cases hn0 : n = 0
          · have g1 : decide ((0 : Int) < (n : Int)) = false := decide_eq_false (by omega)
            have g2 : decide (0 < n) = false := decide_eq_false (by omega)
            clear hn0
            go_wp2_with fail
            go_quiet (fail)
            obtain ⟨w9, hw9⟩ : ∃ x, x = w8.drewN nq := ⟨_, rfl⟩
            have hstep := pw_below_drewN (Below.refl w8.heap.size w8) nq
            rw [← hw9] at hstep ⊢
            have HB9 := Lib.hid (below_then HB8.out HB8.out.size hstep)
            have HR9 := Lib.hid (Kd.R_below HR8.out hstep)
            have r0 := cell_below' hstep q0
            have HQ1 := Lib.hid (cell_below' hstep q1)
            clear hstep hw9 HB8 HR8 q0 q1 HPV
            go_wp2_with fail
            clear r0
            go_loopw [15, 16] (fun x i wr => ∃ j : Nat, j ≤ a.length ∧ i = .int .i64 j ∧ x = .int .i64 (atK fi a j) ∧ Hid (Below w9.heap.size w9 wr)) (fun _ i _ => a.length - (RowKit.intOf i).toNat)
            case atStart => exact ⟨0, Nat.zero_le _, rfl, rfl, Below.refl _ _⟩
            case round =>
              obtain ⟨j, hj, rfl, rfl, HB10⟩ := hrel
              by_cases hjl : j < a.length
              · obtain ⟨av, hav⟩ : ∃ x, x = atK fi a j := ⟨_, rfl⟩
                obtain ⟨ad7, e7, c0⟩ := Kd.at_int (Kd.C_below (Kd.R_reads' HR9.out).2.2 HB10.out) (j : Int) (by omega) (by omega)
                subst e7
                have hx : rd a (j : Int) = a[j] := by unfold rd; simp [hjl]
                rw [hx, show ((j : Int)).toNat = j by omega] at c0
                have hmem := List.getElem_mem hjl
                have hax := HPR.out.1 _ hmem
                have hfib : fp < fi ∧ 0 ≤ fp := by rcases HPAR.out with h | h <;> omega
                have hgt := atK_gt (x := fi) HPR.out.2.1 (fun y hy => by have := (HPR.out.1 y hy).2; omega) j hjl
                have hnx := atK_succ fi a j hjl
                obtain ⟨y, hy⟩ := Option.isSome_iff_exists.1 hax.1
                have hyx := (getF_mem hy).2
                have hyb := id_bounds hfine (getF_mem hy).1
                have hT10 := HT5.out.below (below_then HB9.out HB9.out.size HB10.out)
                have hgc := get_calls g bm s a[j] (by omega) (by omega) wr hT10
                rw [hy] at hgc
                obtain ⟨yi, yp, yd⟩ := y
                dsimp only at hyx hyb
                obtain ⟨x, hx2⟩ : ∃ x, x = a[j] := ⟨_, rfl⟩
                rw [← hx2] at c0 hgt hnx hgc hyx
                obtain rfl : x = yi := hyx.symm
                rw [← hav] at hgt ⊢
                have HNX := Lib.hid hnx
                have HGC := Lib.hid hgc
                dsimp only [Option.isSome, Option.getD, frV] at HGC
                have hde : decide (av ≤ x) = false := decide_eq_false (by omega)
                clear hx hmem hax hfib hnx hy hT10 hgc hx2 hav
                go_wp2_with fail
                refine HGC.out.mono ?_
                rintro e w11 ⟨rfl, hb⟩
                have HB11 := Lib.hid (below_alloc (below_then HB10.out HB10.out.size hb) (.cells #[.int .i64 x, .int .i64 yp, .int .i64 yd] 36))
                have d0 := cell_below' (below_alloc (Below.refl w11.heap.size w11) (.cells #[.int .i64 x, .int .i64 yp, .int .i64 yd] 36)) (cell_below' hb c0)
                clear hb c0 HGC HB10
                go_wp2_with fail
                obtain ⟨w12, hw12⟩ : ∃ z, z = w11.alloc (.cells #[.int .i64 x, .int .i64 yp, .int .i64 yd] 36) := ⟨_, rfl⟩
                obtain ⟨bf, hbf⟩ : ∃ z, z = w11.heap.size := ⟨_, rfl⟩
                have hnew := blk_new w11 (.cells #[.int .i64 x, .int .i64 yp, .int .i64 yd] 36)
                rw [← hw12, ← hbf] at hnew
                rw [← hw12] at HB11 d0 ⊢
                rw [← hbf]
                have n0 : w12.cell? ⟨bf, 0, none⟩ = some (.int .i64 x) := blk_cell hnew 0
                clear hw12 hbf hnew
                go_quiet (fail)
                go_wp2
                go_roundw
                case rel => exact ⟨j + 1, by omega, by simp, by rw [HNX.out], pw_below_drewN HB11.out _⟩
                case measure => simp [RowKit.intOf]; omega
              · obtain rfl : j = a.length := by omega
                rw [← HTV.out]
                have r1 := cell_below' HB10.out HQ1.out
                by_cases hfp : fp = 0
                · have ha0 : a.length = 0 := by
                    cases a with
                    | nil => rfl
                    | cons x r =>
                      have := HPR.out.1 x (by simp)
                      have := some_le hfine this.1
                      omega
                  obtain rfl : a = [] := List.length_eq_zero_iff.1 ha0
                  subst hfp
                  clear ha0
                  go_wp2_with fail
                  go_quiet (fail)
                  go_wp2
                  go_roundw
                  case rel => exact ⟨n + 1, by omega, by simp, pw_below_drewN (below_then HB9.out HB9.out.size HB10.out) _⟩
                  case measure => simp [RowKit.intOf]; omega
                · obtain ⟨r, hr⟩ := HPR.out.2.2 hfp
                  have hal : 0 < a.length := by rw [hr]; simp
                  obtain ⟨ad7, e7, c0⟩ := Kd.at_int (Kd.C_below (Kd.R_reads' HR9.out).2.2 HB10.out) 0 (by omega) (by omega)
                  subst e7
                  have hx : rd a 0 = fp := by rw [hr]; rfl
                  rw [hx] at c0
                  have c0' : wr.cell? ad7 = some (.int .i64 fp) := by simpa [Addr.add] using c0
                  have f1 : (fp == 0) = false := by simpa using hfp
                  have f2 : ((a.length : Int) == 0) = false := beq_eq_false_iff_ne.2 (by omega)
                  have f3 : (a.length == 0) = false := beq_eq_false_iff_ne.2 (by omega)
                  have f4 : decide ((0 : Int) < (a.length : Int)) = true := decide_eq_true (by omega)
                  have f5 : decide (0 < a.length) = true := decide_eq_true hal
                  clear hr hx
                  go_wp2_with fail
                  go_quiet (fail)
                  go_wp2
                  go_roundw
                  case rel => exact ⟨n + 1, by omega, by simp, pw_below_drewN (below_then HB9.out HB9.out.size HB10.out) _⟩
                  case measure => simp [RowKit.intOf]; omega
          · have g1 : decide ((0 : Int) < (n : Int)) = true := decide_eq_true (by omega)
            have g2 : decide (0 < n) = true := decide_eq_true (by omega)
            obtain ⟨xp, pv, hxp⟩ := HPV.out hn0
            have pv2 : w8.cell? (ad.add (((n : Int) - 1).toNat * 3)) = some (.int .i64 xp) := by rw [show ((n : Int) - 1).toNat = n - 1 by omega]; exact pv
            have g3 : decide (fi ≤ xp) = false := decide_eq_false (by omega)
            have hn1 : 1 ≤ n := by omega
            clear hn0 hxp
            go_wp2_with fail
            go_quiet (fail)
            obtain ⟨w9, hw9⟩ : ∃ x, x = w8.drewN nq := ⟨_, rfl⟩
            have hstep := pw_below_drewN (Below.refl w8.heap.size w8) nq
            rw [← hw9] at hstep ⊢
            have HB9 := Lib.hid (below_then HB8.out HB8.out.size hstep)
            have HR9 := Lib.hid (Kd.R_below HR8.out hstep)
            have r0 := cell_below' hstep q0
            have HQ1 := Lib.hid (cell_below' hstep q1)
            clear hstep hw9 HB8 HR8 q0 q1 HPV
            go_wp2_with fail
            clear r0
            go_loopw [15, 16] (fun x i wr => ∃ j : Nat, j ≤ a.length ∧ i = .int .i64 j ∧ x = .int .i64 (atK fi a j) ∧ Hid (Below w9.heap.size w9 wr)) (fun _ i _ => a.length - (RowKit.intOf i).toNat)
            case atStart => exact ⟨0, Nat.zero_le _, rfl, rfl, Below.refl _ _⟩
            case round =>
              obtain ⟨j, hj, rfl, rfl, HB10⟩ := hrel
              by_cases hjl : j < a.length
              · obtain ⟨av, hav⟩ : ∃ x, x = atK fi a j := ⟨_, rfl⟩
                obtain ⟨ad7, e7, c0⟩ := Kd.at_int (Kd.C_below (Kd.R_reads' HR9.out).2.2 HB10.out) (j : Int) (by omega) (by omega)
                subst e7
                have hx : rd a (j : Int) = a[j] := by unfold rd; simp [hjl]
                rw [hx, show ((j : Int)).toNat = j by omega] at c0
                have hmem := List.getElem_mem hjl
                have hax := HPR.out.1 _ hmem
                have hfib : fp < fi ∧ 0 ≤ fp := by rcases HPAR.out with h | h <;> omega
                have hgt := atK_gt (x := fi) HPR.out.2.1 (fun y hy => by have := (HPR.out.1 y hy).2; omega) j hjl
                have hnx := atK_succ fi a j hjl
                obtain ⟨y, hy⟩ := Option.isSome_iff_exists.1 hax.1
                have hyx := (getF_mem hy).2
                have hyb := id_bounds hfine (getF_mem hy).1
                have hT10 := HT5.out.below (below_then HB9.out HB9.out.size HB10.out)
                have hgc := get_calls g bm s a[j] (by omega) (by omega) wr hT10
                rw [hy] at hgc
                obtain ⟨yi, yp, yd⟩ := y
                dsimp only at hyx hyb
                obtain ⟨x, hx2⟩ : ∃ x, x = a[j] := ⟨_, rfl⟩
                rw [← hx2] at c0 hgt hnx hgc hyx
                obtain rfl : x = yi := hyx.symm
                rw [← hav] at hgt ⊢
                have HNX := Lib.hid hnx
                have HGC := Lib.hid hgc
                dsimp only [Option.isSome, Option.getD, frV] at HGC
                have hde : decide (av ≤ x) = false := decide_eq_false (by omega)
                clear hx hmem hax hfib hnx hy hT10 hgc hx2 hav
                go_wp2_with fail
                refine HGC.out.mono ?_
                rintro e w11 ⟨rfl, hb⟩
                have HB11 := Lib.hid (below_alloc (below_then HB10.out HB10.out.size hb) (.cells #[.int .i64 x, .int .i64 yp, .int .i64 yd] 36))
                have d0 := cell_below' (below_alloc (Below.refl w11.heap.size w11) (.cells #[.int .i64 x, .int .i64 yp, .int .i64 yd] 36)) (cell_below' hb c0)
                clear hb c0 HGC HB10
                go_wp2_with fail
                obtain ⟨w12, hw12⟩ : ∃ z, z = w11.alloc (.cells #[.int .i64 x, .int .i64 yp, .int .i64 yd] 36) := ⟨_, rfl⟩
                obtain ⟨bf, hbf⟩ : ∃ z, z = w11.heap.size := ⟨_, rfl⟩
                have hnew := blk_new w11 (.cells #[.int .i64 x, .int .i64 yp, .int .i64 yd] 36)
                rw [← hw12, ← hbf] at hnew
                rw [← hw12] at HB11 d0 ⊢
                rw [← hbf]
                have n0 : w12.cell? ⟨bf, 0, none⟩ = some (.int .i64 x) := blk_cell hnew 0
                clear hw12 hbf hnew
                go_quiet (fail)
                go_wp2
                go_roundw
                case rel => exact ⟨j + 1, by omega, by simp, by rw [HNX.out], pw_below_drewN HB11.out _⟩
                case measure => simp [RowKit.intOf]; omega
              · obtain rfl : j = a.length := by omega
                rw [← HTV.out]
                have r1 := cell_below' HB10.out HQ1.out
                by_cases hfp : fp = 0
                · have ha0 : a.length = 0 := by
                    cases a with
                    | nil => rfl
                    | cons x r =>
                      have := HPR.out.1 x (by simp)
                      have := some_le hfine this.1
                      omega
                  obtain rfl : a = [] := List.length_eq_zero_iff.1 ha0
                  subst hfp
                  clear ha0
                  go_wp2_with fail
                  go_quiet (fail)
                  go_wp2
                  go_roundw
                  case rel => exact ⟨n + 1, by omega, by simp, pw_below_drewN (below_then HB9.out HB9.out.size HB10.out) _⟩
                  case measure => simp [RowKit.intOf]; omega
                · obtain ⟨r, hr⟩ := HPR.out.2.2 hfp
                  have hal : 0 < a.length := by rw [hr]; simp
                  obtain ⟨ad7, e7, c0⟩ := Kd.at_int (Kd.C_below (Kd.R_reads' HR9.out).2.2 HB10.out) 0 (by omega) (by omega)
                  subst e7
                  have hx : rd a 0 = fp := by rw [hr]; rfl
                  rw [hx] at c0
                  have c0' : wr.cell? ad7 = some (.int .i64 fp) := by simpa [Addr.add] using c0
                  have f1 : (fp == 0) = false := by simpa using hfp
                  have f2 : ((a.length : Int) == 0) = false := beq_eq_false_iff_ne.2 (by omega)
                  have f3 : (a.length == 0) = false := beq_eq_false_iff_ne.2 (by omega)
                  have f4 : decide ((0 : Int) < (a.length : Int)) = true := decide_eq_true (by omega)
                  have f5 : decide (0 < a.length) = true := decide_eq_true hal
                  clear hr hx
                  go_wp2_with fail
                  go_quiet (fail)
                  go_wp2
                  go_roundw
                  case rel => exact ⟨n + 1, by omega, by simp, pw_below_drewN (below_then HB9.out HB9.out.size HB10.out) _⟩
                  case measure => simp [RowKit.intOf]; omega
        · obtain rfl : n = s.F.length := by omega
          have hdm : decide ((s.F.length : Int) ≤ m) = true := decide_eq_true hroom
          go_wp2
          go_ret
          exact ⟨rfl, below_then HB5.out HB5.out.size HB6.out⟩
theorem tree_law (m : Int) (A : Option Addr) (c : Nat) (sc : List Cl) (w : World) (hC : Kd.C kCl w A sc.length sc) (hq : ∀ x ∈ sc, -9223372036854775808 ≤ x.nn ∧ x.nn ≤ 9223372036854775807) :
    Calls Try.prog 7 #[.int .i64 m, .slice A sc.length c] w fun e w' => e = .returned (.bool true) ∧ Below w.heap.size w w' := by
  by_cases h : 1 ≤ m ∧ m ≤ 200
  · exact tree_good m h.1 h.2 A c sc w hC hq
  · exact tree_bad m (by omega) A c sc w
end Go.Proofs.Ytbkahblcabmdkaa.F
