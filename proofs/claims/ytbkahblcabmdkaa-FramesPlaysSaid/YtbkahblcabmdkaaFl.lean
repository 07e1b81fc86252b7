import Derived.Test.YtbkahblcabmdkaaFk
/-! FramesFull. -/
namespace Go.Proofs.Ytbkahblcabmdkaa.F
open Go.RowKit Go.Proofs.YtbkahblcabmdkaaW.PrintWords Go.Proofs.Ytbkahblcabmdkaa.X
set_option linter.unusedVariables false

theorem same_l0 (F : List Fr) (hn : F.length ≤ 1000000) : ∀ (d k i : Nat), i + d = F.length → d < k → glacisref16_Same.l0 k F F (i : Int) = some true := by
  intro d
  induction d with
  | zero =>
    intro k i hi hk
    obtain ⟨k, rfl⟩ : ∃ m, k = m + 1 := ⟨k - 1, by omega⟩
    rw [glacisref16_Same.l0, if_neg (by omega)]
  | succ d ih =>
    intro k i hi hk
    obtain ⟨k, rfl⟩ : ∃ m, k = m + 1 := ⟨k - 1, by omega⟩
    have w1 : wrap64 ((i : Int) + 1) = ((i + 1 : Nat) : Int) := by unfold wrap64; omega
    rw [glacisref16_Same.l0, if_pos (by omega), if_pos (by omega), if_pos (by omega), if_neg (by simp), w1]
    exact ih k (i + 1) (by omega) (by omega)
theorem same_calls (A B : Option Addr) (c d : Nat) (F : List Fr) (hn : F.length ≤ 1000000) (w : World) (hA : Kd.C kFr w A F.length F) (hc : F.length ≤ c) (hB : Kd.C kFr w B F.length F) (hd : F.length ≤ d) :
    Calls Try.prog 16 #[.slice A F.length c, .slice B F.length d] w fun e w' => e = .returned (.bool true) ∧ Below w.heap.size w w' := by
  refine (glacisref16_Same.calls (F.length + 1) A c F B d F true w hA hc hB hd ?_).mono (fun e w' h => ⟨h.1, h.2.below⟩)
  unfold glacisref16_Same.f
  rw [if_pos rfl]
  exact same_l0 F hn F.length _ 0 (by omega) (by omega)
theorem ints_l0 (F : List Int) (hn : F.length ≤ 1000000) : ∀ (d k i : Nat), i + d = F.length → d < k → glacisref16_Ints.l0 k F F (i : Int) = some true := by
  intro d
  induction d with
  | zero =>
    intro k i hi hk
    obtain ⟨k, rfl⟩ : ∃ m, k = m + 1 := ⟨k - 1, by omega⟩
    rw [glacisref16_Ints.l0, if_neg (by omega)]
  | succ d ih =>
    intro k i hi hk
    obtain ⟨k, rfl⟩ : ∃ m, k = m + 1 := ⟨k - 1, by omega⟩
    have w1 : wrap64 ((i : Int) + 1) = ((i + 1 : Nat) : Int) := by unfold wrap64; omega
    rw [glacisref16_Ints.l0, if_pos (by omega), if_pos (by omega), if_pos (by omega), if_pos rfl, w1]
    exact ih k (i + 1) (by omega) (by omega)
theorem ints_calls (A B : Option Addr) (c d : Nat) (F : List Int) (hn : F.length ≤ 1000000) (w : World) (hA : Kd.C (Kd.int .i64) w A F.length F) (hc : F.length ≤ c) (hB : Kd.C (Kd.int .i64) w B F.length F) (hd : F.length ≤ d) :
    Calls Try.prog 14 #[.slice A F.length c, .slice B F.length d] w fun e w' => e = .returned (.bool true) ∧ Below w.heap.size w w' := by
  refine (glacisref16_Ints.calls (F.length + 1) A c F B d F true w hA hc hB hd ?_).mono (fun e w' h => ⟨h.1, h.2.below⟩)
  unfold glacisref16_Ints.f
  rw [if_pos rfl]
  exact ints_l0 F hn F.length _ 0 (by omega) (by omega)
theorem has_l0 (F : List Int) (x : Int) (hn : F.length ≤ 1000000) : ∀ (d k i : Nat), i + d = F.length → d < k → (∀ y ∈ F.take i, y ≠ x) → glacisref16_Has.l0 k F x (i : Int) = some (F.contains x) := by
  intro d
  induction d with
  | zero =>
    intro k i hi hk h
    obtain ⟨k, rfl⟩ : ∃ m, k = m + 1 := ⟨k - 1, by omega⟩
    rw [glacisref16_Has.l0, if_neg (by omega)]
    rw [List.take_of_length_le (by omega)] at h
    have : F.contains x = false := by
      cases hc : F.contains x with
      | false => rfl
      | true => exact absurd rfl (h x (by simpa using hc))
    rw [this]
  | succ d ih =>
    intro k i hi hk h
    obtain ⟨k, rfl⟩ : ∃ m, k = m + 1 := ⟨k - 1, by omega⟩
    have hlt : i < F.length := by omega
    have w1 : wrap64 ((i : Int) + 1) = ((i + 1 : Nat) : Int) := by unfold wrap64; omega
    have hr : rd F (i : Int) = F[i] := by unfold rd; simp [hlt]
    rw [glacisref16_Has.l0, if_pos (by omega), if_pos (by omega), hr, w1]
    by_cases e : F[i] = x
    · rw [if_pos e]
      have : F.contains x = true := by rw [← e]; simp
      rw [this]
    · rw [if_neg e]
      refine ih k (i + 1) (by omega) (by omega) (fun y hy => ?_)
      rw [List.take_succ_eq_append_getElem hlt] at hy
      rcases List.mem_append.1 hy with hy | hy
      · exact h y hy
      · rw [List.mem_singleton] at hy; rw [hy]; exact e
theorem has_calls (A : Option Addr) (c : Nat) (F : List Int) (x : Int) (hn : F.length ≤ 1000000) (w : World) (hA : Kd.C (Kd.int .i64) w A F.length F) (hc : F.length ≤ c) :
    Calls Try.prog 15 #[.slice A F.length c, .int .i64 x] w fun e w' => e = .returned (.bool (F.contains x)) ∧ Below w.heap.size w w' := by
  refine (glacisref16_Has.calls (F.length + 1) A c F x _ w hA hc ?_).mono (fun e w' h => ⟨h.1, h.2.below⟩)
  unfold glacisref16_Has.f
  exact has_l0 F x hn F.length _ 0 (by omega) (by omega) (fun y hy => by simp at hy)
theorem formed_le {α : Type} {d : Kd α} {e base : Nat} {w : World} {ok : Nat → Prop} {A : Option Addr} {n c : Nat} {xs : List α} (h : Kd.R d e w base ok (.slice A n c) xs) : xs.length ≤ c := by
  obtain ⟨hn, hc, hC⟩ := Kd.R_reads' h
  omega
theorem all_to (g bm : Nat) (s : Tr) (w : World) (h : TreeIn w g bm s) :
    Calls Try.prog 11 #[.pointer (some ⟨g, 0, none⟩)] w fun e w' => ∃ A c, e = .returned (.slice A s.F.length c) ∧ Kd.R kFr 36 w' w.heap.size (fun i => w.heap.size ≤ i) (.slice A s.F.length c) s.F ∧ Below w.heap.size w w' := by
  refine (all_calls g bm s w h).mono ?_
  rintro e w' ⟨v, rfl, hR, hb⟩
  obtain ⟨A, c, rfl⟩ := Kd.R_slice hR
  exact ⟨A, c, rfl, Kd.R_mono (Kd.R_bound hR) (fun k hk => hk.2.1), hb⟩
theorem rng_last (n : Int) (h : 1 ≤ n) : rd (rng n) (n - 1) = n := by
  obtain ⟨m, rfl⟩ : ∃ m, n = m + 1 := ⟨n - 1, by omega⟩
  have hl := rng_len m
  rw [rng_succ m (by omega)]
  unfold rd
  rw [List.getD_eq_getElem?_getD, List.getElem?_append_right (by rw [hl]; omega), hl]
  simp
theorem add_neg {s : Tr} (h : s.fine) : addF s (-7) = (0, 161, s) := by
  unfold addF
  have hn : getF s.F (-7) = none := by
    cases hg : getF s.F (-7) with
    | none => rfl
    | some f =>
      have := some_le h (a := -7) (by rw [hg]; rfl)
      omega
  rw [if_pos ⟨by omega, hn⟩]
theorem add_top (s : Tr) : addF s 0 = if (s.F.length : Int) ≥ s.most then (0, 160, s) else (s.last + 1, 0, ⟨s.most, s.last + 1, s.F ++ [⟨s.last + 1, 0, 0⟩]⟩) := by
  unfold addF
  rw [if_neg (fun h => h.1 rfl)]
  have hd : depthF s 0 = 1 := by unfold depthF; rw [if_pos rfl]
  rw [hd]
  by_cases hf : (s.F.length : Int) ≥ s.most
  · rw [if_pos (.inl hf), if_pos hf]
  · rw [if_neg (by omega), if_neg hf]
set_option maxRecDepth 100000 in
theorem full_bad (m : Int) (hm : m < 1 ∨ 200 < m) (A : Option Addr) (c : Nat) (sc : List Cl) (w : World) :
    Calls Try.prog 5 #[.int .i64 m, .slice A sc.length c] w fun e w' => e = .returned (.bool true) ∧ Below w.heap.size w w' := by
  have HA := Lib.hid (awake_calls w)
  go_enter Try.func5, Try.ntmps5
  go_wp2_with fail
  refine HA.out.mono ?_
  rintro e w1 ⟨rfl, hb⟩
  have HB1 := Lib.hid hb
  clear hb HA
  go_wp2_with fail
  refine (played_bad m hm A c sc w1).mono ?_
  rintro e w2 ⟨rfl, hb⟩
  have HB2 := Lib.hid (below_then HB1.out HB1.out.size hb)
  clear hb HB1
  go_wp2
  go_ret
  exact ⟨rfl, HB2.out⟩
set_option maxRecDepth 100000 in
set_option maxHeartbeats 2000000 in
theorem full_good (m : Int) (h0 : 1 ≤ m) (h1 : m ≤ 200) (A : Option Addr) (c : Nat) (sc : List Cl) (w : World) (hC : Kd.C kCl w A sc.length sc) (hq : ∀ x ∈ sc, -9223372036854775808 ≤ x.nn ∧ x.nn ≤ 9223372036854775807) :
    Calls Try.prog 5 #[.int .i64 m, .slice A sc.length c] w fun e w' => e = .returned (.bool true) ∧ Below w.heap.size w w' := by
  have HA := Lib.hid (awake_calls w)
  have HC := Lib.hid hC
  have HQ := Lib.hid hq
  clear hC hq
  go_enter Try.func5, Try.ntmps5
  go_wp2_with fail
  refine HA.out.mono ?_
  rintro e w1 ⟨rfl, hb⟩
  have HB1 := Lib.hid hb
  clear hb HA
  go_wp2_with fail
  refine (played_good m h0 h1 A c sc w1 (Kd.C_below HC.out HB1.out) HQ.out).mono ?_
  rintro e w2 ⟨g, bm, v, rfl, hg1, hg2, hP⟩
  have hmo := play_most m sc 120
  have hla := play_last m sc 120
  obtain ⟨s, hs⟩ : ∃ s, s = playF m (sc.take 120) := ⟨_, rfl⟩
  rw [← hs] at hP hmo hla
  clear hs
  have HB2 := Lib.hid (below_then HB1.out HB1.out.size hP.below)
  have HT2 := Lib.hid hP.tr
  have HGB : Hid (w.heap.size ≤ g ∧ w.heap.size ≤ bm) := Lib.hid (by have := HB1.out.size; omega)
  have hR := hP.ids
  have hroom := hP.tr.fine.room
  have HFN := Lib.hid hP.tr.fine
  have hFl : s.F.length ≤ 200 := by omega
  obtain ⟨A1, c1, e2⟩ := Kd.R_slice hR
  subst e2
  have hC1 := (Kd.R_reads' hR).2.2
  have hrl := rng_len s.last
  have HN7 := Lib.hid (add_neg HFN.out)
  have HTOP := Lib.hid (add_top s)
  clear hP HB1
  obtain ⟨mo, la, F⟩ := s
  dsimp only at hmo hla hFl hrl hR hC1 HTOP hroom
  obtain rfl : m = mo := hmo.symm
  by_cases hz : la = 0
  · subst hz
    have hl0 : (rng 0).length = 0 := rfl
    clear hC1 hR hrl hroom
    go_wp2_with fail
    refine (all_to g bm ⟨m, 0, F⟩ w2 HT2.out).mono ?_
    rintro e w3 ⟨B, d, rfl, hW, hb⟩
    have HT3 := Lib.hid (HT2.out.below hb)
    have HB3 := Lib.hid (below_then HB2.out HB2.out.size hb)
    have HW3 := Lib.hid hW
    have hlt := HT2.out.lt
    have HSEP : Hid (∀ i, w2.heap.size ≤ i → ¬ (i = g ∨ i = bm)) := Lib.hid (fun i hi h => by omega)
    clear hW hb hlt HB2 HT2
    go_wp2_with fail
    refine (add_to HN7.out g bm (by omega) (by omega) w3 HT3.out (by first | (show (0 : Int) < _; omega) | (show (0 : Int) < _; omega))).mono ?_
    rintro e w4 ⟨rfl, hT, hU⟩
    have HT4 := Lib.hid hT
    have HB4 := Lib.hid (below_turn HB3.out HB3.out.size hU (fun i hi => by have := HGB.out; rcases hi with rfl | rfl; exact this.1; exact this.2))
    have HW4 := Lib.hid (R_turn HW3.out hU HSEP.out)
    clear hT hU HT3 HB3 HW3
    go_wp2_with fail
    refine (all_to g bm ⟨m, 0, F⟩ w4 HT4.out).mono ?_
    rintro e w5 ⟨B2, d2, rfl, hW, hb⟩
    have HT5 := Lib.hid (HT4.out.below hb)
    have HB5 := Lib.hid (below_then HB4.out HB4.out.size hb)
    have HW5 := Lib.hid (Kd.R_below HW4.out hb)
    have hsc := same_calls B2 B d2 d F (by omega) w5 (Kd.R_reads' hW).2.2 (formed_le hW) (Kd.R_reads' HW5.out).2.2 (formed_le HW5.out)
    have HSC := Lib.hid hsc
    clear hW hb HT4 HB4 HW4 hsc
    go_wp2_with fail
    refine HSC.out.mono ?_
    rintro e w6 ⟨rfl, hb⟩
    have HT6 := Lib.hid (HT5.out.below hb)
    have HB6 := Lib.hid (below_then HB5.out HB5.out.size hb)
    have HW6 := Lib.hid (Kd.R_below HW5.out hb)
    clear hb HT5 HB5 HW5 HSC
    by_cases hfull : (F.length : Int) ≥ m
    · have HTP := Lib.hid (HTOP.out.trans (if_pos hfull))
      have dd : decide (m ≤ (F.length : Int)) = true := decide_eq_true hfull
      go_wp2_with fail
      refine (add_to HTP.out g bm (by omega) (by omega) w6 HT6.out (by first | (show (0 : Int) < _; omega) | (show (0 : Int) < _; omega))).mono ?_
      rintro e w7 ⟨rfl, hT, hU⟩
      have HT7 := Lib.hid hT
      have HB7 := Lib.hid (below_turn HB6.out HB6.out.size hU (fun i hi => by have := HGB.out; rcases hi with rfl | rfl; exact this.1; exact this.2))
      have HW7 := Lib.hid (R_turn HW6.out hU HSEP.out)
      clear hT hU HT6 HB6 HW6
      go_wp2_with fail
      refine (all_to g bm ⟨m, 0, F⟩ w7 HT7.out).mono ?_
      rintro e w8 ⟨B3, d3, rfl, hW, hb⟩
      have HB8 := Lib.hid (below_then HB7.out HB7.out.size hb)
      have hW8 := Kd.R_below HW7.out hb
      have HSC := Lib.hid (same_calls B3 B d3 d F (by omega) w8 (Kd.R_reads' hW).2.2 (formed_le hW) (Kd.R_reads' hW8).2.2 (formed_le hW8))
      clear hW hb HT7 HB7 HW7 hW8
      go_wp2_with fail
      refine HSC.out.mono ?_
      rintro e w9 ⟨rfl, hb⟩
      have HB9 := Lib.hid (below_then HB8.out HB8.out.size hb)
      clear hb HB8 HSC
      go_wp2
      go_ret
      exact ⟨rfl, HB9.out⟩
    · have HTP := Lib.hid (HTOP.out.trans (if_neg hfull))
      have dd : decide (m ≤ (F.length : Int)) = false := decide_eq_false hfull
      go_wp2_with fail
      refine (add_to HTP.out g bm (by omega) (by omega) w6 HT6.out (by first | (show (0 : Int) < _; omega) | (show (0 : Int) < _; omega))).mono ?_
      rintro e w7 ⟨rfl, hT, hU⟩
      have HT7 := Lib.hid hT
      have HB7 := Lib.hid (below_turn HB6.out HB6.out.size hU (fun i hi => by have := HGB.out; rcases hi with rfl | rfl; exact this.1; exact this.2))
      clear hT hU HT6 HB6 HW6
      go_wp2_with fail
      refine (all_to g bm _ w7 HT7.out).mono ?_
      rintro e w8 ⟨B3, d3, rfl, hW, hb⟩
      have HB8 := Lib.hid (below_then HB7.out HB7.out.size hb)
      have hl1 : ((F ++ [⟨(0 : Int) + 1, 0, 0⟩] : List Fr).length : Int) = (F.length : Int) + 1 := by simp
      clear hW hb HT7 HB7
      dsimp only
      rw [show ((F ++ [⟨(0 : Int) + 1, 0, 0⟩] : List Fr).length) = F.length + 1 by simp]
      clear hl1
      go_wp2
      go_ret
      exact ⟨rfl, HB8.out⟩
  · have hla1 : 1 ≤ la := by omega
    obtain ⟨ad, ea, hc⟩ := Kd.at_int hC1 (((rng la).length : Int) - 1) (by omega) (by omega)
    subst ea
    rw [show ((rng la).length : Int) - 1 = la - 1 by omega, rng_last la (by omega)] at hc
    obtain ⟨L, hL⟩ : ∃ L, L = (rng la).length := ⟨_, rfl⟩
    have hL1 : (L : Int) ≤ la := by omega
    have hL2 : la ≤ (L : Int) := by omega
    rw [← hL] at ⊢
    have hc3 : w2.cell? (ad.add (L - 1)) = some (.int .i64 la) := by rw [show L - 1 = (la - 1).toNat by omega]; exact hc
    have hc2 : w2.cell? (ad.add ((L : Int) - 1).toNat) = some (.int .i64 la) := by rw [show ((L : Int) - 1).toNat = (la - 1).toNat by omega]; exact hc
    have dq : decide ((0 : Int) < (L : Int)) = true := decide_eq_true (by omega)
    have dq2 : decide (0 < L) = true := decide_eq_true (by omega)
    clear hc hrl hL
    clear hC1 hR hroom
    go_wp2_with fail
    clear hc3 hc2
    refine (all_to g bm ⟨m, la, F⟩ w2 HT2.out).mono ?_
    rintro e w3 ⟨B, d, rfl, hW, hb⟩
    have HT3 := Lib.hid (HT2.out.below hb)
    have HB3 := Lib.hid (below_then HB2.out HB2.out.size hb)
    have HW3 := Lib.hid hW
    have hlt := HT2.out.lt
    have HSEP : Hid (∀ i, w2.heap.size ≤ i → ¬ (i = g ∨ i = bm)) := Lib.hid (fun i hi h => by omega)
    clear hW hb hlt HB2 HT2
    go_wp2_with fail
    refine (add_to HN7.out g bm (by omega) (by omega) w3 HT3.out (by first | (show (0 : Int) < _; omega) | (show la < _; omega))).mono ?_
    rintro e w4 ⟨rfl, hT, hU⟩
    have HT4 := Lib.hid hT
    have HB4 := Lib.hid (below_turn HB3.out HB3.out.size hU (fun i hi => by have := HGB.out; rcases hi with rfl | rfl; exact this.1; exact this.2))
    have HW4 := Lib.hid (R_turn HW3.out hU HSEP.out)
    clear hT hU HT3 HB3 HW3
    go_wp2_with fail
    refine (all_to g bm ⟨m, la, F⟩ w4 HT4.out).mono ?_
    rintro e w5 ⟨B2, d2, rfl, hW, hb⟩
    have HT5 := Lib.hid (HT4.out.below hb)
    have HB5 := Lib.hid (below_then HB4.out HB4.out.size hb)
    have HW5 := Lib.hid (Kd.R_below HW4.out hb)
    have hsc := same_calls B2 B d2 d F (by omega) w5 (Kd.R_reads' hW).2.2 (formed_le hW) (Kd.R_reads' HW5.out).2.2 (formed_le HW5.out)
    have HSC := Lib.hid hsc
    clear hW hb HT4 HB4 HW4 hsc
    go_wp2_with fail
    refine HSC.out.mono ?_
    rintro e w6 ⟨rfl, hb⟩
    have HT6 := Lib.hid (HT5.out.below hb)
    have HB6 := Lib.hid (below_then HB5.out HB5.out.size hb)
    have HW6 := Lib.hid (Kd.R_below HW5.out hb)
    clear hb HT5 HB5 HW5 HSC
    by_cases hfull : (F.length : Int) ≥ m
    · have HTP := Lib.hid (HTOP.out.trans (if_pos hfull))
      have dd : decide (m ≤ (F.length : Int)) = true := decide_eq_true hfull
      go_wp2_with fail
      refine (add_to HTP.out g bm (by omega) (by omega) w6 HT6.out (by first | (show (0 : Int) < _; omega) | (show la < _; omega))).mono ?_
      rintro e w7 ⟨rfl, hT, hU⟩
      have HT7 := Lib.hid hT
      have HB7 := Lib.hid (below_turn HB6.out HB6.out.size hU (fun i hi => by have := HGB.out; rcases hi with rfl | rfl; exact this.1; exact this.2))
      have HW7 := Lib.hid (R_turn HW6.out hU HSEP.out)
      clear hT hU HT6 HB6 HW6
      go_wp2_with fail
      refine (all_to g bm ⟨m, la, F⟩ w7 HT7.out).mono ?_
      rintro e w8 ⟨B3, d3, rfl, hW, hb⟩
      have HB8 := Lib.hid (below_then HB7.out HB7.out.size hb)
      have hW8 := Kd.R_below HW7.out hb
      have HSC := Lib.hid (same_calls B3 B d3 d F (by omega) w8 (Kd.R_reads' hW).2.2 (formed_le hW) (Kd.R_reads' hW8).2.2 (formed_le hW8))
      clear hW hb HT7 HB7 HW7 hW8
      go_wp2_with fail
      refine HSC.out.mono ?_
      rintro e w9 ⟨rfl, hb⟩
      have HB9 := Lib.hid (below_then HB8.out HB8.out.size hb)
      clear hb HB8 HSC
      go_wp2
      go_ret
      exact ⟨rfl, HB9.out⟩
    · have HTP := Lib.hid (HTOP.out.trans (if_neg hfull))
      have dd : decide (m ≤ (F.length : Int)) = false := decide_eq_false hfull
      go_wp2_with fail
      refine (add_to HTP.out g bm (by omega) (by omega) w6 HT6.out (by first | (show (0 : Int) < _; omega) | (show la < _; omega))).mono ?_
      rintro e w7 ⟨rfl, hT, hU⟩
      have HT7 := Lib.hid hT
      have HB7 := Lib.hid (below_turn HB6.out HB6.out.size hU (fun i hi => by have := HGB.out; rcases hi with rfl | rfl; exact this.1; exact this.2))
      clear hT hU HT6 HB6 HW6
      go_wp2_with fail
      refine (all_to g bm _ w7 HT7.out).mono ?_
      rintro e w8 ⟨B3, d3, rfl, hW, hb⟩
      have HB8 := Lib.hid (below_then HB7.out HB7.out.size hb)
      have hl1 : ((F ++ [⟨la + 1, 0, 0⟩] : List Fr).length : Int) = (F.length : Int) + 1 := by simp
      clear hW hb HT7 HB7
      dsimp only
      rw [show ((F ++ [⟨la + 1, 0, 0⟩] : List Fr).length) = F.length + 1 by simp]
      clear hl1
      go_wp2
      go_ret
      exact ⟨rfl, HB8.out⟩
theorem full_law (m : Int) (A : Option Addr) (c : Nat) (sc : List Cl) (w : World) (hC : Kd.C kCl w A sc.length sc) (hq : ∀ x ∈ sc, -9223372036854775808 ≤ x.nn ∧ x.nn ≤ 9223372036854775807) :
    Calls Try.prog 5 #[.int .i64 m, .slice A sc.length c] w fun e w' => e = .returned (.bool true) ∧ Below w.heap.size w w' := by
  by_cases h : 1 ≤ m ∧ m ≤ 200
  · exact full_good m h.1 h.2 A c sc w hC hq
  · exact full_bad m (by omega) A c sc w
end Go.Proofs.Ytbkahblcabmdkaa.F
