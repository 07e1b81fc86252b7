import Derived.Test.YtpkaihjiecihlaaLf
/-! LedgerParts. -/
namespace Go.Proofs.Ytpkaihjiecihlaa.L
open Go.RowKit Go.Proofs.YtpkaihjiecihlaaW.PrintWords Go.Proofs.YtpkaihjiecihlaaW.PrintLast Go.Proofs.YtpkaihjiecihlaaW.PrintMore Go.Proofs.Ytpkaihjiecihlaa.X

theorem from_callsC (g b : Nat) (S : Nat → Prop) (s : LSt) (at_ : Int) (L : List S44) (hi0 : -9223372036854775808 ≤ at_) (hi1 : at_ ≤ 9223372036854775807) (w : World) (h : LedIn w b S g s) (hf : fromL s.notes at_ = L) :
    Calls Try.prog 17 #[.pointer (some ⟨g, 0, none⟩), .int .i64 at_] w fun e w' => ∃ A' c', e = .returned (.slice A' L.length c') ∧ (k44.C w' A' L.length L ∧ L.length ≤ c') ∧ Below w.heap.size w w' := by
  subst hf
  refine (from_calls g b S s at_ hi0 hi1 w h).mono ?_
  rintro e w' ⟨A', c', rfl, h1, h2⟩
  obtain ⟨_, hc, hC⟩ := Kd.R_reads' h1
  exact ⟨A', c', rfl, ⟨hC, hc⟩, h2⟩
theorem addTo_fits {L l L' : List S44} (m : Int) (h : (L.length : Int) + l.length ≤ m) (e : L ++ l = L') : addTo ⟨L, m, false⟩ l = (0, ⟨L', m, false⟩) := by
  unfold addTo; rw [if_neg (by simp), if_neg (by simp only; omega), e]
theorem fromL_neg {l : List S44} {a : Int} (h : a ≤ 0) : fromL l a = l := by
  unfold fromL
  rw [if_neg (by omega), show a.toNat = 0 by omega]; rfl
theorem fromL_len (l : List S44) (a : Int) : (fromL l a).length ≤ l.length := by
  unfold fromL
  split
  · exact Nat.zero_le _
  · rw [List.length_drop]; omega
set_option maxRecDepth 100000 in
set_option maxHeartbeats 1000000 in
theorem parts_calls (A : Option Addr) (c : Nat) (l : List S44) (n at_ : Int) (w : World) (hn0 : -9223372036854775808 ≤ n) (hn1 : n ≤ 9223372036854775807) (ha0 : -9223372036854775808 ≤ at_) (ha1 : at_ ≤ 9223372036854775807) (hl : k44.C w A l.length l) (hc : l.length ≤ c) :
    Calls Try.prog 8 #[.slice A l.length c, .int .i64 n, .int .i64 at_] w fun e w' => e = .returned (.bool true) ∧ Below w.heap.size w w' := by
  have HC := Lib.hid hl
  clear hl
  by_cases hlen : (l.length : Int) > 1000
  · have hd : decide ((1000 : Int) < (l.length : Int)) = true := decide_eq_true hlen
    have hd2 : decide (1000 < l.length) = true := decide_eq_true (by omega)
    go_enter Try.func8, Try.ntmps8
    go_wp2_with fail
    refine (awake_calls _).mono ?_
    rintro e w1 ⟨rfl, hb⟩
    have HB := Lib.hid hb
    clear hb
    go_wp2
    go_ret
    exact ⟨rfl, HB.out⟩
  · have hd : decide ((1000 : Int) < (l.length : Int)) = false := decide_eq_false hlen
    have hd2 : decide (1000 < l.length) = false := decide_eq_false (by omega)
    obtain ⟨n', hn', hn'0, hn'1⟩ : ∃ n' : Int, n' = (if n < 0 then -(n + 1) else n) ∧ 0 ≤ n' ∧ n' ≤ 9223372036854775807 := ⟨_, rfl, by split <;> omega, by split <;> omega⟩
    by_cases hneg : n < 0
    all_goals
      first | rw [if_pos hneg] at hn' | rw [if_neg hneg] at hn'
      go_enter Try.func8, Try.ntmps8
      go_wp2_with fail
      refine (awake_calls _).mono ?_
      rintro e w1 ⟨rfl, hb⟩
      have HB := Lib.hid hb
      clear hb
      go_wp2_with fail
      obtain ⟨j, hj, hj0, hj1⟩ : ∃ j : Int, j = n' % ((l.length : Int) + 1) ∧ 0 ≤ j ∧ j ≤ (l.length : Int) := ⟨_, rfl, Int.emod_nonneg _ (by omega), by have := Int.emod_lt_of_pos n' (b := (l.length : Int) + 1) (by omega); omega⟩
      have hjs : (if n < 0 then -(n + 1).tmod ((l.length : Int) + 1) else n % ((l.length : Int) + 1)) = j := by
        rw [hj]
        split
        · rw [← Int.neg_tmod, Int.tmod_eq_emod_of_nonneg (by omega)]; congr 1; omega
        · congr 1; omega
      first
      | (rw [if_pos hneg] at hjs; rw [hjs])
      | (rw [if_neg (by omega)] at hjs; rw [hjs])
      clear hn' hn'0 hn'1 hj hjs hneg hn0 hn1
      refine (new_good 1000 (by omega) (by omega) w1 w.heap.size HB.out.size).mono ?_
      rintro e w2 ⟨rfl, hl, hb⟩
      have HLA := Lib.hid hl
      have HB1 := Lib.hid hb
      have HB2 := Lib.hid (below_then HB.out HB.out.size hb)
      clear hl hb
      go_wp2_with fail
      refine (new_good 1000 (by omega) (by omega) w2 w.heap.size HB2.out.size).mono ?_
      rintro e w3 ⟨rfl, hl, hb⟩
      have HLA3 := Lib.hid (HLA.out.below hb)
      have HLB3 := Lib.hid hl
      have HB3 := Lib.hid (below_then HB2.out HB2.out.size hb)
      have hs12 : w1.heap.size < w2.heap.size := (HLA.out.2.1 _ rfl).2
      have hs23 : w2.heap.size < w3.heap.size := (hl.2.1 _ rfl).2
      clear hl hb HLA HB1 HB2 HB
      obtain ⟨ga, hga⟩ : ∃ g, g = w1.heap.size := ⟨_, rfl⟩
      obtain ⟨gb, hgb⟩ : ∃ g, g = w2.heap.size := ⟨_, rfl⟩
      rw [← hga] at HLA3 hs12 ⊢
      rw [← hgb] at HLB3 hs12 hs23 ⊢
      clear hga hgb w1 w2
      go_wp2_with fail
      have hjl : j.toNat ≤ l.length := by omega
      have htl : (l.take j.toNat).length = j.toNat := by rw [List.length_take]; omega
      have hdl : (l.drop j.toNat).length = l.length - j.toNat := List.length_drop
      have hC1 := Kd.C_take HC.out hjl
      have hC2 := Kd.C_drop HC.out hjl hc
      obtain ⟨ti, hti, htz⟩ := infoNi
      have hcut1 := cut_to (P := Try.prog) 31 44 .i64 Try.underlying31 hti A l.length c j hj0 hj1 hc
      have hcut2 := cut_from (P := Try.prog) 31 44 .i64 Try.underlying31 hti 5 htz A l.length c j hj0 hj1
      obtain ⟨A2, hA2⟩ : ∃ A2 : Option Addr, A2 = (if c = j.toNat then A else A.map (·.add (j.toNat * 5))) := ⟨_, rfl⟩
      have hsz : k44.sz = 5 := rfl
      rw [hsz] at hC2
      rw [← hA2] at hcut2 hC2
      obtain ⟨n2, hn2⟩ : ∃ n : Nat, n = l.length - j.toNat := ⟨_, rfl⟩
      obtain ⟨c2, hc2⟩ : ∃ n : Nat, n = c - j.toNat := ⟨_, rfl⟩
      rw [← hn2, ← hc2] at hcut2
      rw [← hn2] at hdl
      have htd : l.take j.toNat ++ l.drop j.toNat = l := List.take_append_drop _ _
      have HC1 := Lib.hid hC1
      have HC2 := Lib.hid hC2
      have HTD := Lib.hid htd
      clear hC1 hC2 htd hA2 hc2 hn2
      have a0 := addTo_fits (L := []) (l := l) 1000 (by simp; omega) (List.nil_append _)
      have a1 := addTo_fits (L := []) (l := l.take j.toNat) 1000 (by rw [htl]; simp; omega) (List.nil_append _)
      have a2 := addTo_fits (L := l.take j.toNat) (l := l.drop j.toNat) 1000 (by rw [List.length_take, List.length_drop]; omega) HTD.out
      have A0 := Lib.hid a0
      have A1 := Lib.hid a1
      have A3 := Lib.hid a2
      have TL := Lib.hid htl
      have DL := Lib.hid hdl
      clear a0 a1 a2 htl hdl
      refine (add_calls ga w.heap.size _ _ A c l w3 HB3.out.size HLA3.out (Kd.C_below HC.out HB3.out)).mono ?_
      rintro e w4 ⟨rfl, hl, ht⟩
      rw [A0.out] at hl ⊢
      have HLA4 := Lib.hid hl
      have HLB4 := Lib.hid (HLB3.out.turn ht (fun k hk h => by omega))
      have HB4 := Lib.hid (show Below w.heap.size w w4 from HB3.out.trans (ht.below HB3.out.size (fun k hk => (HLA3.out.2.1 k hk).1)))
      have hs34 := ht.size
      clear hl ht HLA3 HLB3 HB3
      go_wp2_with fail
      have hadd := add_calls gb w.heap.size _ _ A c (l.take j.toNat) w4 HB4.out.size HLB4.out (Kd.C_below HC1.out HB4.out)
      rw [TL.out] at hadd
      refine hadd.mono ?_
      clear hadd
      rintro e w5 ⟨rfl, hl, ht⟩
      rw [A1.out] at hl ⊢
      have HLB5 := Lib.hid hl
      have HLA5 := Lib.hid (HLA4.out.turn ht (fun k hk h => by omega))
      have HB5 := Lib.hid (show Below w.heap.size w w5 from HB4.out.trans (ht.below HB4.out.size (fun k hk => (HLB4.out.2.1 k hk).1)))
      have hs45 := ht.size
      clear hl ht HLA4 HLB4 HB4
      go_wp2_with fail
      have hadd := add_calls gb w.heap.size _ _ A2 c2 (l.drop j.toNat) w5 HB5.out.size HLB5.out (Kd.C_below HC2.out HB5.out)
      rw [DL.out] at hadd
      refine hadd.mono ?_
      clear hadd
      rintro e w6 ⟨rfl, hl, ht⟩
      rw [A3.out] at hl ⊢
      have HLB6 := Lib.hid hl
      have HLA6 := Lib.hid (HLA5.out.turn ht (fun k hk h => by omega))
      have HB6 := Lib.hid (show Below w.heap.size w w6 from HB5.out.trans (ht.below HB5.out.size (fun k hk => (HLB5.out.2.1 k hk).1)))
      have hll : (k44.C w6 A l.length l ∧ l.length ≤ c) := ⟨Kd.C_below HC.out HB6.out, hc⟩
      have HN6 := Lib.hid hll
      clear hl ht HLA5 HLB5 HB5 hs12 hs23 hs34 hs45 A0 A1 A3 TL DL HC1 HC2 HTD hcut1 hcut2 hll
      go_wp2_with fail
      refine (from_callsC ga w.heap.size _ _ (-1) l (by omega) (by omega) w6 HLA6.out (fromL_neg (by omega))).mono ?_
      rintro e w7 ⟨Ax, cAx, rfl, hr, hb⟩
      have HAx := Lib.hid hr
      have HLA7 := Lib.hid (HLA6.out.below hb)
      have HLB7 := Lib.hid (HLB6.out.below hb)
      have HN7 := Lib.hid (And.intro (Kd.C_below HN6.out.1 hb) HN6.out.2)
      have HB7 := Lib.hid (below_then HB6.out HB6.out.size hb)
      clear hr hb HB6 HLA6 HLB6 HN6
      go_wp2_with fail
      refine (from_callsC gb w.heap.size _ _ 0 l (by omega) (by omega) w7 HLB7.out (fromL_neg (by omega))).mono ?_
      rintro e w8 ⟨Ay, cAy, rfl, hr, hb⟩
      have HAy := Lib.hid hr
      have HLA8 := Lib.hid (HLA7.out.below hb)
      have HLB8 := Lib.hid (HLB7.out.below hb)
      have HN8 := Lib.hid (And.intro (Kd.C_below HN7.out.1 hb) HN7.out.2)
      have HAx8 := Lib.hid (And.intro (Kd.C_below HAx.out.1 hb) HAx.out.2)
      have HB8 := Lib.hid (below_then HB7.out HB7.out.size hb)
      clear hr hb HB7 HLA7 HLB7 HN7 HAx
      go_wp2_with fail
      refine (same_calls Ax Ay cAx cAy l w8 (Nat.le_trans ?_ (by decide : 1000 ≤ 1000000)) HAx8.out.1 HAx8.out.2 HAy.out.1 HAy.out.2).mono ?_
      · first | omega | exact Nat.le_trans (fromL_len _ _) (by omega)
      rintro e w9 ⟨rfl, hd⟩
      have HLA9 := Lib.hid (HLA8.out.below hd.below)
      have HLB9 := Lib.hid (HLB8.out.below hd.below)
      have HN9 := Lib.hid (And.intro (Kd.C_below HN8.out.1 hd.below) HN8.out.2)
      have HB9 := Lib.hid (below_then HB8.out HB8.out.size hd.below)
      clear hd HB8 HLA8 HLB8 HN8
      go_wp2_with fail
      refine (from_callsC ga w.heap.size _ _ at_ (fromL l at_) (by omega) (by omega) w9 HLA9.out rfl).mono ?_
      rintro e wa ⟨Au, cAu, rfl, hr, hb⟩
      have HAu := Lib.hid hr
      have HLAa := Lib.hid (HLA9.out.below hb)
      have HLBa := Lib.hid (HLB9.out.below hb)
      have HNa := Lib.hid (And.intro (Kd.C_below HN9.out.1 hb) HN9.out.2)
      have HBa := Lib.hid (below_then HB9.out HB9.out.size hb)
      clear hr hb HB9 HLA9 HLB9 HN9
      go_wp2_with fail
      refine (from_callsC gb w.heap.size _ _ at_ (fromL l at_) (by omega) (by omega) wa HLBa.out rfl).mono ?_
      rintro e wb ⟨Av, cAv, rfl, hr, hb⟩
      have HAv := Lib.hid hr
      have HLAb := Lib.hid (HLAa.out.below hb)
      have HNb := Lib.hid (And.intro (Kd.C_below HNa.out.1 hb) HNa.out.2)
      have HAub := Lib.hid (And.intro (Kd.C_below HAu.out.1 hb) HAu.out.2)
      have HBb := Lib.hid (below_then HBa.out HBa.out.size hb)
      clear hr hb HBa HLAa HNa HAu
      go_wp2_with fail
      refine (same_calls Au Av cAu cAv (fromL l at_) wb (Nat.le_trans ?_ (by decide : 1000 ≤ 1000000)) HAub.out.1 HAub.out.2 HAv.out.1 HAv.out.2).mono ?_
      · first | omega | exact Nat.le_trans (fromL_len _ _) (by omega)
      rintro e wc ⟨rfl, hd⟩
      have HLAc := Lib.hid (HLAb.out.below hd.below)
      have HNc := Lib.hid (And.intro (Kd.C_below HNb.out.1 hd.below) HNb.out.2)
      have HBc := Lib.hid (below_then HBb.out HBb.out.size hd.below)
      clear hd HBb HLAb HNb
      go_wp2_with fail
      refine (from_callsC ga w.heap.size _ _ 0 l (by omega) (by omega) wc HLAc.out (fromL_neg (by omega))).mono ?_
      rintro e wd ⟨Az, cAz, rfl, hr, hb⟩
      have HAz := Lib.hid hr
      have HLAd := Lib.hid (HLAc.out.below hb)
      have HNd := Lib.hid (And.intro (Kd.C_below HNc.out.1 hb) HNc.out.2)
      have HBd := Lib.hid (below_then HBc.out HBc.out.size hb)
      clear hr hb HBc HLAc HNc
      go_wp2_with fail
      refine (same_calls Az A cAz c l wd (Nat.le_trans ?_ (by decide : 1000 ≤ 1000000)) HAz.out.1 HAz.out.2 HNd.out.1 HNd.out.2).mono ?_
      · first | omega | exact Nat.le_trans (fromL_len _ _) (by omega)
      rintro e we ⟨rfl, hd⟩
      have HLAe := Lib.hid (HLAd.out.below hd.below)
      have HNe := Lib.hid (And.intro (Kd.C_below HNd.out.1 hd.below) HNd.out.2)
      have HBe := Lib.hid (below_then HBd.out HBd.out.size hd.below)
      clear hd HBd HLAd HNd
      go_wp2_with fail
      refine (from_callsC ga w.heap.size _ _ at_ (fromL l at_) (by omega) (by omega) we HLAe.out rfl).mono ?_
      rintro e wf ⟨Ae, cAe, rfl, hr, hb⟩
      have HAe := Lib.hid hr
      have HNf := Lib.hid (And.intro (Kd.C_below HNe.out.1 hb) HNe.out.2)
      have HBf := Lib.hid (below_then HBe.out HBe.out.size hb)
      clear hr hb HNe HBe HLAe
      by_cases hgt : at_ > (l.length : Int)
      · have d1 : decide ((l.length : Int) < at_) = true := decide_eq_true hgt
        have d2 : decide (at_ ≤ (l.length : Int)) = false := decide_eq_false (by omega)
        have hf : fromL l at_ = [] := by unfold fromL; rw [if_pos hgt]
        rw [show (fromL l at_).length = 0 by rw [hf]; rfl]
        clear HAe hf
        go_wp2
        go_ret
        exact ⟨rfl, HBf.out⟩
      · have d1 : decide ((l.length : Int) < at_) = false := decide_eq_false hgt
        have d2 : decide (at_ ≤ (l.length : Int)) = true := decide_eq_true (by omega)
        by_cases hlt : at_ < 0
        · go_wp2
          go_ret
          exact ⟨rfl, HBf.out⟩
        · have ha' : 0 ≤ at_ := by omega
          have hf : fromL l at_ = l.drop at_.toNat := by unfold fromL; rw [if_neg hgt]
          rw [hf] at HAe ⊢
          have hal : at_.toNat ≤ l.length := by omega
          have hdl : (l.drop at_.toNat).length = l.length - at_.toNat := List.length_drop
          have hC2 := Kd.C_drop HNf.out.1 hal HNf.out.2
          obtain ⟨ti, hti, htz⟩ := infoNi
          have hcut2 := cut_from (P := Try.prog) 31 44 .i64 Try.underlying31 hti 5 htz A l.length c at_ ha' (by omega)
          obtain ⟨A2, hA2⟩ : ∃ A2 : Option Addr, A2 = (if c = at_.toNat then A else A.map (·.add (at_.toNat * 5))) := ⟨_, rfl⟩
          have hsz : k44.sz = 5 := rfl
          rw [hsz] at hC2
          rw [← hA2] at hcut2 hC2
          obtain ⟨n2, hn2⟩ : ∃ n : Nat, n = (l.drop at_.toNat).length := ⟨_, rfl⟩
          obtain ⟨c2, hc2⟩ : ∃ n : Nat, n = c - at_.toNat := ⟨_, rfl⟩
          have hcl : (l.drop at_.toNat).length ≤ c2 := by rw [hdl, hc2]; have := HNf.out.2; omega
          have hll : (l.drop at_.toNat).length ≤ 1000 := by rw [hdl]; omega
          rw [← hdl, ← hn2, ← hc2] at hcut2
          rw [← hn2]
          have HS := Lib.hid (same_calls Ae A2 cAe c2 (l.drop at_.toNat) wf (Nat.le_trans hll (by decide)) HAe.out.1 HAe.out.2 hC2 hcl)
          rw [← hn2] at HS
          clear hC2 HAe hcl hll hdl hf hn2 hA2 hc2
          go_wp2_with fail
          refine HS.out.mono ?_
          rintro e wg ⟨rfl, hd⟩
          have HBg := Lib.hid (below_then HBf.out HBf.out.size hd.below)
          clear hd
          go_wp2
          go_ret
          exact ⟨rfl, HBg.out⟩
end Go.Proofs.Ytpkaihjiecihlaa.L
