import Derived.Test.YtpkaihjiecihlaaLe
/-! LedgerNames, LedgerNil, LedgerShuts. -/
namespace Go.Proofs.Ytpkaihjiecihlaa.L
open Go.RowKit Go.Proofs.YtpkaihjiecihlaaW.PrintWords Go.Proofs.YtpkaihjiecihlaaW.PrintLast Go.Proofs.YtpkaihjiecihlaaW.PrintMore Go.Proofs.Ytpkaihjiecihlaa.X

theorem names_calls (w : World) : Calls Try.prog 3 #[] w fun e w' => e = .returned (.bool true) ∧ Below w.heap.size w w' := by
  go_enter Try.func3, Try.ntmps3
  go_wp2_with (go_at_call 9; refine (awake_calls _).mono ?_; rintro e w1 ⟨rfl, hb⟩; have HB := Lib.hid hb; clear hb)
  go_ret
  exact ⟨rfl, HB.out⟩
theorem from_nil (n : Int) (w : World) : Calls Try.prog 17 #[.pointer none, .int .i64 n] w fun e w' => e = .returned (.slice none 0 0) ∧ w = w' := by
  go_enter Try.func17, Try.ntmps17
  go_wp2
  go_ret
  exact ⟨rfl, rfl⟩
theorem shut_nil (w : World) : Calls Try.prog 12 #[.pointer none] w fun e w' => e = .returned (.bool false) ∧ Below w.heap.size w w' := by
  go_enter Try.func12, Try.ntmps12
  go_wp2
  go_ret
  exact ⟨rfl, (Below.refl _ _).alloc (Nat.le_refl _) _⟩
theorem nil_calls (n : Int) (A : Option Addr) (c m : Nat) (w : World) : Calls Try.prog 7 #[.int .i64 n, .slice A m c] w fun e w' => e = .returned (.bool true) ∧ Below w.heap.size w w' := by
  go_enter Try.func7, Try.ntmps7
  go_wp2_with fail
  refine (awake_calls _).mono ?_
  rintro e w1 ⟨rfl, hb⟩
  have HB := Lib.hid hb
  clear hb
  go_wp2_with fail
  refine (add_nil A m c w1).mono ?_
  rintro e w2 ⟨rfl, rfl⟩
  go_wp2_with fail
  refine (room_nil _).mono ?_
  rintro e w3 ⟨rfl, rfl⟩
  go_wp2_with fail
  refine (from_nil n _).mono ?_
  rintro e w4 ⟨rfl, rfl⟩
  go_wp2_with fail
  refine (shut_nil _).mono ?_
  rintro e w5 ⟨rfl, hb⟩
  have HB5 := Lib.hid hb
  clear hb
  go_wp2
  go_ret
  exact ⟨rfl, below_then HB.out HB.out.size HB5.out⟩

theorem addTo_shut (s : LSt) (l : List S44) (h : s.shut = true) : addTo s l = (201, s) := by unfold addTo; rw [if_pos h]
set_option maxRecDepth 100000 in
set_option maxHeartbeats 4000000 in
theorem shuts_calls (m : Int) (A : Option Addr) (c : Nat) (l : List S44) (n : Int) (w : World) (hn0 : -9223372036854775808 ≤ n) (hn1 : n ≤ 9223372036854775807) (hl : k44.C w A l.length l) (hc : l.length ≤ c) :
    Calls Try.prog 6 #[.int .i64 m, .slice A l.length c, .int .i64 n] w fun e w' => e = .returned (.bool true) ∧ Below w.heap.size w w' := by
  have HC := Lib.hid hl
  clear hl
  by_cases hm : m < 0 ∨ 5000 < m
  · have HM := Lib.hid hm
    clear hm
    go_enter Try.func6, Try.ntmps6
    go_wp2_with fail
    refine (awake_calls _).mono ?_
    rintro e w1 ⟨rfl, hb⟩
    have HB := Lib.hid hb
    clear hb
    go_wp2_with fail
    refine (new_bad m HM.out _).mono ?_
    rintro e w2 ⟨rfl, rfl⟩
    go_wp2
    go_ret
    exact ⟨rfl, HB.out⟩
  · have hm0 : 0 ≤ m := by omega
    have hm1 : m ≤ 5000 := by omega
    by_cases hlen : (l.length : Int) > 1000
    · have hd : decide ((1000 : Int) < (l.length : Int)) = true := decide_eq_true hlen
      have hd2 : decide (1000 < l.length) = true := decide_eq_true (by omega)
      clear hm
      go_enter Try.func6, Try.ntmps6
      go_wp2_with fail
      refine (awake_calls _).mono ?_
      rintro e w1 ⟨rfl, hb⟩
      have HB := Lib.hid hb
      clear hb
      go_wp2_with fail
      refine (new_goodG m hm0 hm1 _ w1.heap.size (Nat.le_refl _)).mono ?_
      rintro e w2 ⟨rfl, _, hb⟩
      have HB2 := Lib.hid (below_then HB.out HB.out.size hb)
      clear hb HB
      go_wp2
      go_ret
      exact ⟨rfl, HB2.out⟩
    · have hd : decide ((1000 : Int) < (l.length : Int)) = false := decide_eq_false hlen
      have hd2 : decide (1000 < l.length) = false := decide_eq_false (by omega)
      have HLEN := Lib.hid (show l.length ≤ 1000 by omega)
      clear hm hlen
      go_enter Try.func6, Try.ntmps6
      go_wp2_with fail
      refine (awake_calls _).mono ?_
      rintro e w1 ⟨rfl, hb⟩
      have HB := Lib.hid hb
      clear hb
      go_wp2_with fail
      refine (new_goodG m hm0 hm1 _ w1.heap.size (Nat.le_refl _)).mono ?_
      rintro e w2 ⟨rfl, hl, hb⟩
      obtain ⟨G, hG⟩ : ∃ G, G = w1.heap.size := ⟨_, rfl⟩
      obtain ⟨P, hP⟩ : ∃ P : Nat → Prop, P = fun k => k < w1.heap.size := ⟨_, rfl⟩
      have hR : Reads w2 P A c l := ⟨Kd.C_below HC.out (below_then HB.out HB.out.size hb), hc, fun ad e hn => by rw [hP]; exact Nat.lt_of_lt_of_le (C_lt HC.out ad e hn) HB.out.size⟩
      rw [← hP, ← hG] at hl
      rw [← hG]
      have HL2 := Lib.hid hl
      have HR2 := Lib.hid hR
      have HB2 := Lib.hid (below_then HB.out HB.out.size hb)
      have GB := Lib.hid (show w.heap.size ≤ G by rw [hG]; exact HB.out.size)
      clear hl hR hb HB hG hP w1
      go_wp2_with fail
      refine (add_callsG G G P ⟨[], m, false⟩ A c l w2 (Nat.le_trans ?_ (Nat.le_refl _)) HL2.out HR2.out.1).mono ?_
      · obtain ⟨_, S, hS, h⟩ := HL2.out
        exact Nat.le_of_lt (h.2.1 _ h.2.2.1).2
      rintro e w3 ⟨rfl, hl, ht⟩
      obtain ⟨s, hs⟩ : ∃ s, s = (addTo ⟨[], m, false⟩ l).2 := ⟨_, rfl⟩
      rw [← hs] at hl
      have hsl : s.notes.length ≤ 5000 := by have := hl.fine; unfold LSt.fine at this; omega
      have hsh : s.shut = false := by rw [hs]; unfold addTo; simp only [Bool.false_eq_true, if_false]; split <;> rfl
      have HL3 := Lib.hid hl
      have HR3 := Lib.hid (HR2.out.turn ht (fun k hk h => h.1 hk))
      have HB3 := Lib.hid (show Below w.heap.size w w3 from HB2.out.trans (ht.below HB2.out.size (fun k hk => Nat.le_trans GB.out hk.2)))
      have HSL := Lib.hid hsl
      have HSH := Lib.hid hsh
      clear hl ht hs HL2 HR2 HB2 w2 hsl hsh
      go_wp2_with fail
      refine (from_callsG G G P s 0 (by omega) (by omega) w3 HL3.out).mono ?_
      rintro e w4 ⟨A4, c4, rfl, hr, hl, hb⟩
      have hf : fromL s.notes 0 = s.notes := by unfold fromL; rw [if_neg (by omega)]; rfl
      rw [hf] at hr ⊢
      obtain ⟨P4, hP4⟩ : ∃ P4 : Nat → Prop, P4 = fun k => P k ∨ w3.heap.size ≤ k ∧ k < w4.heap.size := ⟨_, rfl⟩
      rw [← hP4] at hr hl
      have HL4 := Lib.hid hl
      have HW4 := Lib.hid hr
      have HR4 := Lib.hid ((HR3.out.below hb).mono (fun k hk => (by rw [hP4]; exact .inl hk : P4 k)))
      have HB4 := Lib.hid (below_then HB3.out HB3.out.size hb)
      have HF := Lib.hid hf
      clear hl hr hb HL3 HR3 HB3 hP4 hf w3 P
      by_cases hneg : n < 0
      all_goals
        go_wp2_with fail
        obtain ⟨n', hn', hn'0, hn'1⟩ : ∃ n' : Int, n' = (if n < 0 then -(n + 1) else n) ∧ 0 ≤ n' ∧ n' ≤ 9223372036854775807 := ⟨_, rfl, by split <;> omega, by split <;> omega⟩
        first
        | (rw [if_pos hneg] at hn'; rw [← hn'])
        | (rw [if_neg (by omega)] at hn'; rw [← hn'])
        clear hn' hneg hn0 hn1
        go_loopw [11] (fun i wr => ∃ x : Int, 0 ≤ x ∧ x ≤ n' % 10 + 1 ∧ i = .int .i64 x ∧ Hid (LedG wr G P4 G { s with shut := decide (0 < x) }) ∧ Hid (Reads wr P4 A4 c4 s.notes) ∧ Hid (Reads wr P4 A c l) ∧ Hid (Below w.heap.size w wr)) (fun i _ => (n' % 10 + 1 - intOf i).toNat)
        case atStart => exact ⟨0, by omega, by omega, rfl, by rw [show ({ s with shut := decide ((0 : Int) < 0) } : LSt) = s by rw [show decide ((0 : Int) < 0) = s.shut from HSH.out.symm]]; exact HL4.out, HW4.out, HR4.out, HB4.out⟩
        case round =>
          clear HL4 HW4 HR4 HB4 w4
          obtain ⟨x, hx0, hx1, rfl, HL, HW, HR, HB⟩ := hrel
          by_cases hle : x ≤ n' % 10
          · have hd3 : decide (x ≤ n' % 10) = true := decide_eq_true hle
            have hret : ((!decide (0 < x)) == (x == 0)) = true := by
              by_cases h : x = 0
              · subst h; rfl
              · rw [decide_eq_true (by omega), beq_eq_false_iff_ne.2 h]; rfl
            go_wp2_with fail
            refine (shut_callsG G G P4 _ wr HL.out).mono ?_
            rintro e w5 ⟨rfl, hl, ht⟩
            have HL5 := Lib.hid (show LedG w5 G P4 G { s with shut := decide (0 < x + 1) } by rw [decide_eq_true (by omega : 0 < x + 1)]; exact hl)
            have HW5 := Lib.hid (HW.out.turn ht (fun k hk h => h.1 hk))
            have HR5 := Lib.hid (HR.out.turn ht (fun k hk h => h.1 hk))
            have HB5 := Lib.hid (show Below w.heap.size w w5 from HB.out.trans (ht.below HB.out.size (fun k hk => Nat.le_trans GB.out hk.2)))
            clear hl ht HL HW HR HB
            go_wp2
            go_roundw
            case rel => exact ⟨x + 1, by omega, by omega, rfl, HL5.out, HW5.out, HR5.out, HB5.out⟩
            case measure => simp [intOf]; omega
          · have hd3 : decide (x ≤ n' % 10) = false := decide_eq_false hle
            have hx : 0 < x := by omega
            have hst : ({ s with shut := decide (0 < x) } : LSt).shut = true := decide_eq_true hx
            have HST := Lib.hid hst
            clear hst
            go_wp2_with fail
            refine (add_callsG G G P4 _ A c l wr ?_ HL.out HR.out.1).mono ?_
            · obtain ⟨_, S, hS, h⟩ := HL.out
              exact Nat.le_of_lt (h.2.1 _ h.2.2.1).2
            rintro e w5 ⟨rfl, hl, ht⟩
            rw [addTo_shut _ _ HST.out] at hl ⊢
            have HL5 := Lib.hid hl
            have HW5 := Lib.hid (HW.out.turn ht (fun k hk h => h.1 hk))
            have HB5 := Lib.hid (show Below w.heap.size w w5 from HB.out.trans (ht.below HB.out.size (fun k hk => Nat.le_trans GB.out hk.2)))
            clear hl ht HL HW HR HB HST wr
            go_wp2_with fail
            refine (from_callsG G G P4 _ 0 (by omega) (by omega) w5 HL5.out).mono ?_
            rintro e w6 ⟨A6, c6, rfl, hr, hl, hb⟩
            rw [show fromL ({ s with shut := decide (0 < x) } : LSt).notes 0 = s.notes from HF.out] at hr ⊢
            have HS := Lib.hid (same_calls A6 A4 c6 c4 s.notes w6 (Nat.le_trans HSL.out (by decide)) hr.1 hr.2.1 (Kd.C_below HW5.out.1 hb) HW5.out.2.1)
            have HB6 := Lib.hid (below_then HB5.out HB5.out.size hb)
            clear hr hl hb HL5 HW5 HB5 w5
            go_wp2_with fail
            refine HS.out.mono ?_
            rintro e w7 ⟨rfl, hd⟩
            have HB7 := Lib.hid (below_then HB6.out HB6.out.size hd.below)
            clear hd HS HB6 w6
            go_wp2
            go_ret
            exact ⟨rfl, HB7.out⟩
end Go.Proofs.Ytpkaihjiecihlaa.L
