import Derived.Test.YtpkaihjiecihlaaLf
/-! LedgerGrows. -/
namespace Go.Proofs.Ytpkaihjiecihlaa.L
open Go.RowKit Go.Proofs.YtpkaihjiecihlaaW.PrintWords Go.Proofs.YtpkaihjiecihlaaW.PrintLast Go.Proofs.YtpkaihjiecihlaaW.PrintMore Go.Proofs.Ytpkaihjiecihlaa.X

def kL : Kd (List S44) := Kd.slice 44 k44
def rdL (xs : List (List S44)) (i : Int) : List S44 := xs.getD i.toNat []
theorem at_TL {w : World} {A : Option Addr} {n : Nat} {xs : List (List S44)} (h : Kd.C kL w A n xs) (i : Int) (h0 : 0 ≤ i) (h1 : i < n) : ∃ ad a c, A = some ad ∧ w.cell? (ad.add i.toNat) = some (.slice a (rdL xs i).length c) ∧ (rdL xs i).length ≤ c ∧ k44.C w a (rdL xs i).length (rdL xs i) := by
  obtain ⟨ad, cs, e, _, hK, hc⟩ := Kd.C_get h [] i h0 h1
  obtain ⟨a, c, rfl, hl, hC⟩ := hK
  have h2 : w.cell? (ad.add (i.toNat * 1 + 0)) = _ := hc 0 _ rfl
  rw [Nat.mul_one, Nat.add_zero] at h2
  exact ⟨ad, a, c, e, h2, hl, hC⟩
theorem cell_below {w w1 : World} {p : Addr} {v : Value} (hb : Below w.heap.size w w1) (h : w.cell? p = some v) : w1.cell? p = some v :=
  (World.cell?_of_block (hb.block _ (World.block_lt_of_cell? w _ h))).trans h
theorem addTo_two (L l : List S44) (m : Int) : ∃ f L2, addTo ⟨L, m, false⟩ l = (f, ⟨L2, m, false⟩) ∧ ((f = 200 ∧ L2 = L ∧ m < (L.length : Int) + l.length) ∨ (f = 0 ∧ L2 = L ++ l ∧ (L.length : Int) + l.length ≤ m)) := by
  by_cases h : (l.length : Int) > m - L.length
  · exact ⟨200, L, by unfold addTo; rw [if_neg (by simp), if_pos h], .inl ⟨rfl, rfl, by omega⟩⟩
  · exact ⟨0, L ++ l, by unfold addTo; rw [if_neg (by simp), if_neg h], .inr ⟨rfl, rfl, by omega⟩⟩
set_option maxRecDepth 100000 in
set_option maxHeartbeats 4000000 in
theorem grows_calls (m : Int) (A : Option Addr) (c : Nat) (ls : List (List S44)) (w : World) (hl : kL.C w A ls.length ls) :
    Calls Try.prog 5 #[.int .i64 m, .slice A ls.length c] w fun e w' => e = .returned (.bool true) ∧ Below w.heap.size w w' := by
  have HC := Lib.hid hl
  have hlen : ls.length ≤ 9223372036854775807 := hl.2.1
  clear hl
  by_cases hm : m < 0 ∨ 5000 < m
  · have HM := Lib.hid hm
    have hd : (decide (m < 0) || decide (5000 < m)) = true := by rcases hm with h | h <;> simp [h]
    by_cases hm' : m < 0
    all_goals

      go_enter Try.func5, Try.ntmps5
      go_wp2_with fail
      refine (awake_calls _).mono ?_
      rintro e w1 ⟨rfl, hb⟩
      have HB := Lib.hid hb
      clear hb
      go_wp2_with fail
      refine (new_bad m HM.out _).mono ?_
      rintro e w2 ⟨rfl, rfl⟩
      go_wp2
      go_ret
      exact ⟨rfl, HB.out⟩
  · have hm0 : 0 ≤ m := by omega
    have hm1 : m ≤ 5000 := by omega
    clear hm
    go_enter Try.func5, Try.ntmps5
    go_wp2_with fail
    refine (awake_calls _).mono ?_
    rintro e w1 ⟨rfl, hb⟩
    have HB := Lib.hid hb
    clear hb
    go_wp2_with fail
    refine (new_goodG m hm0 hm1 _ w1.heap.size (Nat.le_refl _)).mono ?_
    rintro e w2 ⟨rfl, hl, hb⟩
    obtain ⟨G, hG⟩ : ∃ G, G = w1.heap.size := ⟨_, rfl⟩
    obtain ⟨P, hP⟩ : ∃ P : Nat → Prop, P = fun k => k < w1.heap.size := ⟨_, rfl⟩
    rw [← hP, ← hG] at hl
    rw [← hG]
    have HL2 := Lib.hid hl
    have HB2 := Lib.hid (below_then HB.out HB.out.size hb)
    have GB := Lib.hid (show w.heap.size ≤ G by rw [hG]; exact HB.out.size)
    clear hl hb HB hG hP w1
    go_wp2_with fail
    go_loopw [8, 9] (fun was i wr => ∃ (x : Int) (P : Nat → Prop) (Aw : Option Addr) (cw : Nat) (L : List S44), 0 ≤ x ∧ x ≤ 60 ∧ i = .int .i64 x ∧ was = .slice Aw L.length cw ∧ (L.length : Int) ≤ m ∧ Hid (LedG wr G P G ⟨L, m, false⟩) ∧ Hid (Reads wr P Aw cw L) ∧ Hid (Below w.heap.size w wr)) (fun _ i _ => (60 - intOf i).toNat)
    case atStart => exact ⟨0, P, none, 0, [], by omega, by omega, rfl, rfl, by simpa using hm0, HL2.out, ⟨Kd.C_nil _ _, Nat.le_refl _, fun ad e _ => by cases e⟩, HB2.out⟩
    case round =>
      clear HL2 HB2 w2
      obtain ⟨x, P, Aw, cw, L, hx0, hx1, rfl, rfl, hLm, HL, HW, HB⟩ := hrel
      by_cases hlt : x < (ls.length : Int)
      · have hd1 : decide (x < (ls.length : Int)) = true := decide_eq_true hlt
        by_cases h60 : x < 60
        · obtain ⟨ad, a, ca, rfl, e0, hca, hC⟩ := at_TL HC.out x hx0 hlt
          obtain ⟨l, hl⟩ : ∃ l, l = rdL ls x := ⟨_, rfl⟩
          rw [← hl] at e0 hca hC
          clear hl
          have HCL := Lib.hid hC
          have HE0 := Lib.hid e0
          have e0 := cell_below HB.out e0
          clear hC
          by_cases h100 : (100 : Int) < l.length
          · have hd2 : decide ((100 : Int) < (l.length : Int)) = true := decide_eq_true h100
            have hd3 : decide (100 < l.length) = true := decide_eq_true (by omega)
            go_wp2
            go_roundw
            case rel => exact ⟨x + 1, P, Aw, cw, L, by omega, by omega, rfl, rfl, hLm, HL.out, HW.out, HB.out⟩
            case measure => simp [intOf]; omega
          · have hd2 : decide ((100 : Int) < (l.length : Int)) = false := decide_eq_false h100
            have hd3 : decide (100 < l.length) = false := decide_eq_false (by omega)
            go_wp2_with fail
            obtain ⟨f, L2, hadd, hf⟩ := addTo_two L l m
            refine (add_callsG G G P ⟨L, m, false⟩ a ca l wr ?_ HL.out (Kd.C_below HCL.out HB.out)).mono ?_
            · obtain ⟨_, S, hS, h⟩ := HL.out
              exact Nat.le_of_lt (h.2.1 _ h.2.2.1).2
            rintro e w3 ⟨rfl, hl, ht⟩
            rw [hadd] at hl ⊢
            have hB3 : Below w.heap.size w w3 := HB.out.trans (ht.below HB.out.size (fun k hk => Nat.le_trans GB.out hk.2))
            have HL3 := Lib.hid hl
            have HW3 := Lib.hid (HW.out.turn ht (fun k hk h => h.1 hk))
            have HF := Lib.hid hf
            have e3 := cell_below hB3 HE0.out
            have HB3 := Lib.hid hB3
            clear hl ht HL HW HB hadd hf hB3 e0 hd1 hd2 hd3
            go_wp2_with fail
            refine (from_callsG G G P ⟨L2, m, false⟩ 0 (by omega) (by omega) w3 HL3.out).mono ?_
            rintro e w4 ⟨A4, c4, rfl, hr, hl, hb⟩
            have hf0 : fromL L2 0 = L2 := by unfold fromL; rw [if_neg (by omega)]; rfl
            rw [show fromL (⟨L2, m, false⟩ : LSt).notes 0 = L2 from hf0] at hr ⊢
            obtain ⟨P4, hP4⟩ : ∃ P4 : Nat → Prop, P4 = fun k => P k ∨ w3.heap.size ≤ k ∧ k < w4.heap.size := ⟨_, rfl⟩
            rw [← hP4] at hr hl
            have hL2m : (L2.length : Int) ≤ m := hl.fine.2.2
            have hB4 := below_then HB3.out HB3.out.size hb
            have HL4 := Lib.hid hl
            have HN4 := Lib.hid hr
            have HW4 := Lib.hid ((HW3.out.below hb).mono (fun k hk => (by rw [hP4]; exact .inl hk : P4 k)))
            have HB4 := Lib.hid hB4
            have e4 := cell_below hB4 HE0.out
            clear hl hr hb HL3 HW3 HB3 hP4 hf0 hB4 e3 w3 P
            have hLm2 : L.length ≤ 5000 := by omega
            have HE := Lib.hid (R_empty k44 44 w4 w4.heap.size (Nat.le_refl _))
            rcases HF.out with ⟨hf, hL2, hgt⟩ | ⟨hf, hL2, hle⟩
            · have hdle : decide ((L.length : Int) + (l.length : Int) ≤ m) = false := decide_eq_false (by omega)
              subst hf
              have HL2 := Lib.hid hL2
              clear hL2 HF
              go_wp2_with ((with_reducible refine gate_builtin (b := .append) (xs := #[.tmp 59, .tmp 60]) rfl ?_); at_builtin; refine Kd.R_append_rows k44 (Rr := k44.K (w4.alloc (.cells #[] 44))) (w0 := w4) w4.heap.size rfl (.tmp 59) (.tmp 60) 31 44 _ 48 rfl Try.underlying31 infoN rfl (by decide) (by omega) (.slice (some ⟨w4.heap.size, 0, none⟩) 0 0) [] L Aw L.length cw (fun _ => True) (fun _ => False) rfl rfl ?aO ?aR (fun x cs hx => note_M x cs hx) (fun _ hk => hk.elim) (fun _ _ => trivial) ?aB ?aS ?aL ?_; (case aO => exact Kd.R_mono HE.out (fun _ _ => trivial)); (case aR => exact Kd.C_alloc HW4.out.1 _); (case aB => exact below_alloc (Below.refl _ _) _); (case aS => simp); (case aL => simp; omega); intro v1 w5 hown hb1 hg1 hat1; rw [List.nil_append, ← HL2.out] at hown; obtain ⟨Av, cv, rfl⟩ := Kd.R_slice hown; have e5 := cell_below (below_then HB4.out HB4.out.size hb1) HE0.out; have HO := Lib.hid hown; have HB5 := Lib.hid hb1; clear hown hg1 hb1 hat1 e4)
              refine (same_calls A4 Av c4 cv L2 w5 (by omega) (Kd.C_below HN4.out.1 HB5.out) HN4.out.2.1 (Kd.R_reads' HO.out).2.2 (formed_own HO.out).2).mono ?_
              rintro e w7 ⟨rfl, hd⟩
              have hb7 := below_then HB5.out HB5.out.size hd.below
              have HL7 := Lib.hid (HL4.out.below hb7)
              have HN7 := Lib.hid (HN4.out.below hb7)
              have hB7 := below_then HB4.out HB4.out.size hb7
              have e7 := cell_below hB7 HE0.out
              have HB7 := Lib.hid hB7
              clear hd hb7 HL4 HN4 hB7 HW4 HE HO HB5 e5 HB4
              go_wp2_with fail
              refine (room_callsG G G P4 ⟨L2, m, false⟩ w7 HL7.out).mono ?_
              rintro e w8 ⟨rfl, hd⟩
              have HL8 := Lib.hid (HL7.out.below hd.below)
              have HN8 := Lib.hid (HN7.out.below hd.below)
              have HB8 := Lib.hid (below_then HB7.out HB7.out.size hd.below)
              clear hd HL7 HN7 HB7 e7 w7
              go_wp2
              go_roundw
              case rel => exact ⟨x + 1, P4, A4, c4, L2, by omega, by omega, rfl, rfl, hL2m, HL8.out, HN8.out, HB8.out⟩
              case measure => simp [intOf]; omega
            · have hdle : decide ((L.length : Int) + (l.length : Int) ≤ m) = true := decide_eq_true (by omega)
              subst hf
              have HL2 := Lib.hid hL2
              clear hL2 HF
              go_wp2_with (first | ((with_reducible refine gate_builtin (b := .append) (xs := #[.tmp 59, .tmp 60]) rfl ?_); at_builtin; refine Kd.R_append_rows k44 (Rr := k44.K (w4.alloc (.cells #[] 44))) (w0 := w4) w4.heap.size rfl (.tmp 59) (.tmp 60) 31 44 _ 48 rfl Try.underlying31 infoN rfl (by decide) (by omega) (.slice (some ⟨w4.heap.size, 0, none⟩) 0 0) [] L Aw L.length cw (fun _ => True) (fun _ => False) rfl rfl ?aO ?aR (fun x cs hx => note_M x cs hx) (fun _ hk => hk.elim) (fun _ _ => trivial) ?aB ?aS ?aL ?_; (case aO => exact Kd.R_mono HE.out (fun _ _ => trivial)); (case aR => exact Kd.C_alloc HW4.out.1 _); (case aB => exact below_alloc (Below.refl _ _) _); (case aS => simp); (case aL => simp; omega); intro v1 w5 hown hb1 hg1 hat1; rw [List.nil_append] at hown; obtain ⟨Av, cv, rfl⟩ := Kd.R_slice hown; have e5 := cell_below (below_then HB4.out HB4.out.size hb1) HE0.out; have HO := Lib.hid hown; have HB5 := Lib.hid hb1; clear hown hg1 hb1 hat1 e4) | ((with_reducible refine gate_builtin (b := .append) (xs := #[.tmp 64, .tmp 68]) rfl ?_); at_builtin; refine Kd.R_append_rows k44 (Rr := k44.K (w5)) (w0 := w4) w4.heap.size rfl (.tmp 64) (.tmp 68) 31 44 _ 48 rfl Try.underlying31 infoN rfl (by decide) (by omega) (.slice Av L.length cv) L l a l.length ca (fun _ => True) (fun _ => False) rfl rfl ?aO ?aR (fun x cs hx => note_M x cs hx) (fun _ hk => hk.elim) (fun _ _ => trivial) ?aB ?aS ?aL ?_; (case aO => exact HO.out); (case aR => exact Kd.C_below HCL.out (below_then HB4.out HB4.out.size HB5.out)); (case aB => exact HB5.out); (case aS => exact HB5.out.size); (case aL => omega); intro v1 w6 hown hb1 hg1 hat1; rw [← HL2.out] at hown; obtain ⟨Av2, cv2, rfl⟩ := Kd.R_slice hown; have HO2 := Lib.hid hown; have HB6 := Lib.hid hb1; clear hown hg1 hb1 hat1))
              refine (same_calls A4 Av2 c4 cv2 L2 w6 (by omega) (Kd.C_below HN4.out.1 HB6.out) HN4.out.2.1 (Kd.R_reads' HO2.out).2.2 (formed_own HO2.out).2).mono ?_
              rintro e w7 ⟨rfl, hd⟩
              have hb7 := below_then HB6.out HB6.out.size hd.below
              have HL7 := Lib.hid (HL4.out.below hb7)
              have HN7 := Lib.hid (HN4.out.below hb7)
              have hB7 := below_then HB4.out HB4.out.size hb7
              have e7 := cell_below hB7 HE0.out
              have HB7 := Lib.hid hB7
              clear hd hb7 HL4 HN4 hB7 HW4 HE HO HB5 e5 HO2 HB6 HB4
              go_wp2_with fail
              refine (room_callsG G G P4 ⟨L2, m, false⟩ w7 HL7.out).mono ?_
              rintro e w8 ⟨rfl, hd⟩
              have HL8 := Lib.hid (HL7.out.below hd.below)
              have HN8 := Lib.hid (HN7.out.below hd.below)
              have HB8 := Lib.hid (below_then HB7.out HB7.out.size hd.below)
              clear hd HL7 HN7 HB7 e7 w7
              go_wp2
              go_roundw
              case rel => exact ⟨x + 1, P4, A4, c4, L2, by omega, by omega, rfl, rfl, hL2m, HL8.out, HN8.out, HB8.out⟩
              case measure => simp [intOf]; omega
        · go_wp2
          go_ret
          exact ⟨rfl, HB.out⟩
      · have hd1 : decide (x < (ls.length : Int)) = false := decide_eq_false hlt
        go_wp2
        go_ret
        exact ⟨rfl, HB.out⟩
end Go.Proofs.Ytpkaihjiecihlaa.L
