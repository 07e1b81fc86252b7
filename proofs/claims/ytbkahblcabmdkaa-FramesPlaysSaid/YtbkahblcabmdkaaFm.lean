import Derived.Test.YtbkahblcabmdkaaFl
/-! FramesGone. -/
namespace Go.Proofs.Ytbkahblcabmdkaa.F
open Go.RowKit Go.Proofs.YtbkahblcabmdkaaW.PrintWords Go.Proofs.Ytbkahblcabmdkaa.X
set_option linter.unusedVariables false

theorem getF_gone (F : List Fr) (gone : List Int) (a : Int) (ha : gone.contains a = true) : getF (remL F gone) a = none := by
  rw [getF_find, List.find?_eq_none]
  intro f hf e
  have := (List.mem_filter.1 hf).2
  have e2 : f.f0 = a := by simpa using e
  rw [e2, ha] at this
  simp at this
theorem rem_gone {s : Tr} (h : s.fine) (id : Int) : getF (remF s id).2.2.F id = none := by
  unfold remF belF
  cases hg : getF s.F id with
  | none =>
    have : remL s.F [] = s.F := by unfold remL; rw [List.filter_eq_self]; intro a _; rfl
    simp only [this]
    exact hg
  | some f =>
    obtain ⟨hm, he⟩ := getF_mem hg
    have hin := bel_par s.F [] h.rise f hm (.inl he) (fun x hx => by cases hx)
    rw [he] at hin
    exact getF_gone s.F _ id (by simpa [belL] using hin)
theorem bel_err (s : Tr) (id : Int) : (belF s id).2 = 0 ∨ ((belF s id).2 = 161 ∧ (belF s id).1 = []) := by
  unfold belF
  cases getF s.F id with
  | none => exact .inr ⟨rfl, rfl⟩
  | some f => exact .inl rfl
theorem rem_take {F : List Fr} (gone : List Int) {k : Nat} (hk : k < F.length) : remL (F.take (k + 1)) gone = if gone.contains F[k].f0 = true then remL (F.take k) gone else remL (F.take k) gone ++ [F[k]] := by
  unfold remL
  rw [List.take_succ_eq_append_getElem hk, List.filter_append]
  split
  · rename_i h; simp only [List.filter_cons, h]; simp
  · rename_i h; simp only [List.filter_cons, h]; simp
theorem rem_len (F : List Fr) (gone : List Int) : (remL F gone).length ≤ F.length := List.length_filter_le _ _
set_option maxRecDepth 100000 in
theorem gone_bad (m : Int) (hm : m < 1 ∨ 200 < m) (A : Option Addr) (c : Nat) (sc : List Cl) (id : Int) (w : World) :
    Calls Try.prog 4 #[.int .i64 m, .slice A sc.length c, .int .i64 id] w fun e w' => e = .returned (.bool true) ∧ Below w.heap.size w w' := by
  have HA := Lib.hid (awake_calls w)
  go_enter Try.func4, Try.ntmps4
  go_wp2_with fail
  refine HA.out.mono ?_
  rintro e w1 ⟨rfl, hb⟩
  have HB1 := Lib.hid hb
  clear hb HA
  go_wp2_with fail
  refine (played_bad m hm A c sc w1).mono ?_
  rintro e w2 ⟨rfl, hb⟩
  have HB2 := Lib.hid (below_then HB1.out HB1.out.size hb)
  clear hb HB1
  go_wp2
  go_ret
  exact ⟨rfl, HB2.out⟩
theorem cell_below' {w w1 : World} {p : Addr} {v : Value} (hb : Below w.heap.size w w1) (h : w.cell? p = some v) : w1.cell? p = some v :=
  (World.cell?_of_block (hb.block _ (World.block_lt_of_cell? w _ h))).trans h
/-- Between two rounds. -/
structure VSt (wS : World) (out : List Fr) (v : Value) (wr : World) : Prop where
  out : Kd.R kFr 36 wr wS.heap.size (fun _ => True) v out
  below : Below wS.heap.size wS wr
set_option maxRecDepth 100000 in
set_option maxHeartbeats 2000000 in
theorem gone_good (m : Int) (h0 : 1 ≤ m) (h1 : m ≤ 200) (A : Option Addr) (c : Nat) (sc : List Cl) (id : Int) (i0 : -9223372036854775808 ≤ id) (i1 : id ≤ 9223372036854775807) (w : World) (hC : Kd.C kCl w A sc.length sc) (hq : ∀ x ∈ sc, -9223372036854775808 ≤ x.nn ∧ x.nn ≤ 9223372036854775807) :
    Calls Try.prog 4 #[.int .i64 m, .slice A sc.length c, .int .i64 id] w fun e w' => e = .returned (.bool true) ∧ Below w.heap.size w w' := by
  have HA := Lib.hid (awake_calls w)
  have HC := Lib.hid hC
  have HQ := Lib.hid hq
  clear hC hq
  go_enter Try.func4, Try.ntmps4
  go_wp2_with fail
  refine HA.out.mono ?_
  rintro e w1 ⟨rfl, hb⟩
  have HB1 := Lib.hid hb
  clear hb HA
  go_wp2_with fail
  refine (played_good m h0 h1 A c sc w1 (Kd.C_below HC.out HB1.out) HQ.out).mono ?_
  rintro e w2 ⟨g, bm, v, rfl, hg1, hg2, hP⟩
  obtain ⟨s, hs⟩ : ∃ s, s = playF m (sc.take 120) := ⟨_, rfl⟩
  rw [← hs] at hP
  have HB2 := Lib.hid (below_then HB1.out HB1.out.size hP.below)
  have HT2 := Lib.hid hP.tr
  have HGB : Hid (w.heap.size ≤ g ∧ w.heap.size ≤ bm) := Lib.hid (by have := HB1.out.size; omega)
  obtain ⟨A1, c1, e2⟩ := Kd.R_slice hP.ids
  subst e2
  have hfine := hP.tr.fine
  have hFl : s.F.length ≤ 200 := by have := hfine.room; have := hfine.m1; omega
  have hlt := HT2.out.lt
  clear hs hP HB1 hg1 hg2
  go_wp2_with fail
  refine (all_to g bm s w2 HT2.out).mono ?_
  rintro e w3 ⟨B, d, rfl, hW, hb⟩
  have HT3 := Lib.hid (HT2.out.below hb)
  have HB3 := Lib.hid (below_then HB2.out HB2.out.size hb)
  have HW3 := Lib.hid hW
  have HSEP : Hid (∀ i, w2.heap.size ≤ i → ¬ (i = bm)) := Lib.hid (fun i hi h => by omega)
  clear hW hb hlt HB2 HT2
  go_wp2_with fail
  refine (below_calls g bm s id i0 i1 w3 HT3.out).mono ?_
  rintro e w4 ⟨v4, rfl, hR, hb⟩
  have HT4 := Lib.hid (HT3.out.below hb)
  have HB4 := Lib.hid (below_then HB3.out HB3.out.size hb)
  have HW4 := Lib.hid (Kd.R_below HW3.out hb)
  have hR4 := Kd.R_mono (Kd.R_bound hR) (ok' := fun i => w3.heap.size ≤ i) (fun k hk => hk.2.1)
  have hber := bel_err s id
  have HREM := Lib.hid (rem_gone hfine id)
  have hremL : (remF s id).2.2.F = remL s.F (belF s id).1 := rfl
  have hrem1 : (remF s id).1 = (belF s id).1 := rfl
  have hrem2 : (remF s id).2.1 = (belF s id).2 := rfl
  have hRC := remove_calls g bm s id i0 i1 w4 HT4.out
  rw [hrem1, hrem2] at hRC
  have hgl := bel_len2 hfine id
  obtain ⟨s', hs'⟩ : ∃ s', s' = (remF s id).2.2 := ⟨_, rfl⟩
  obtain ⟨gone, hgone⟩ : ∃ l, l = (belF s id).1 := ⟨_, rfl⟩
  obtain ⟨er, her⟩ : ∃ l, l = (belF s id).2 := ⟨_, rfl⟩
  rw [← hs'] at hRC HREM hremL
  rw [← hgone] at hRC hber hremL hR4 hgl
  rw [← her] at hRC hber ⊢
  obtain ⟨B4, d4, e4⟩ := Kd.R_slice hR4
  subst e4
  have HR4 := Lib.hid hR4
  have HRC := Lib.hid hRC
  have HRL := Lib.hid hremL
  have HBER := Lib.hid hber
  have HSEP4 : Hid (∀ i, w3.heap.size ≤ i → ¬ (i = bm)) := Lib.hid (fun i hi h => by have := HT3.out.lt; omega)
  clear hR hb hR4 hber hRC hremL hrem1 hrem2 hs' hgone her HT3 HB3 HW3
  go_wp2_with fail
  refine HRC.out.mono ?_
  rintro e w5 ⟨v5, rfl, hR, hT, hU⟩
  have HT5 := Lib.hid hT
  have HB5 := Lib.hid (below_turn HB4.out HB4.out.size hU (fun i hi => by rw [hi]; exact HGB.out.2))
  have HW5 := Lib.hid (R_turn HW4.out hU HSEP.out)
  have hR45 := R_turn HR4.out hU HSEP4.out
  obtain ⟨B5, d5, e5⟩ := Kd.R_slice hR
  subst e5
  have HG5 := Lib.hid hR
  have HIN := Lib.hid (ints_calls B4 B5 d4 d5 gone (by omega) w5 (Kd.R_reads' hR45).2.2 (formed_le hR45) (Kd.R_reads' hR).2.2 (formed_le hR))
  clear hR hT hU hR45 HR4 HRC HT4 HB4 HW4
  go_wp2_with fail
  refine HIN.out.mono ?_
  rintro e w6 ⟨rfl, hb⟩
  have HT6 := Lib.hid (HT5.out.below hb)
  have HB6 := Lib.hid (below_then HB5.out HB5.out.size hb)
  have HW6 := Lib.hid (Kd.R_below HW5.out hb)
  have HG6 := Lib.hid (Kd.R_below HG5.out hb)
  have HV := Lib.hid (show VSt w6 [] (.slice none 0 0) w6 from ⟨Kd.R_nil _ _ _ _ _, Below.refl _ _⟩)
  clear hb HT5 HB5 HW5 HG5 HIN
  go_wp2_with fail
  go_loopw [16, 17] (fun v i wr => ∃ k : Nat, k ≤ s.F.length ∧ i = .int .i64 k ∧ Hid (VSt w6 (remL (s.F.take k) gone) v wr)) (fun _ i _ => s.F.length - (RowKit.intOf i).toNat)
  case atStart => exact ⟨0, Nat.zero_le _, rfl, HV.out⟩
  case round =>
    clear HV
    obtain ⟨k, hk, rfl, HV⟩ := hrel
    by_cases hlt : k < s.F.length
    · obtain ⟨ad, e1, q0, q1, q2⟩ := at_T36 (Kd.R_reads' (Kd.R_below HW6.out HV.out.below)).2.2 (k : Int) (by omega) (by omega)
      subst e1
      have hcast : (k : Int).toNat = k := by omega
      have hx : rd_T36 s.F (k : Int) = s.F[k] := by unfold rd_T36; simp [hlt]
      rw [hcast, hx] at q0 q1 q2
      have HNX := Lib.hid (rem_take gone hlt)
      obtain ⟨f, hf⟩ : ∃ f, f = s.F[k] := ⟨_, rfl⟩
      rw [← hf] at q0 q1 q2 HNX
      have hGr := Kd.R_below HG6.out HV.out.below
      have HHC := Lib.hid (has_calls B5 d5 gone f.f0 (by omega) wr (Kd.R_reads' hGr).2.2 (formed_le hGr))
      have hrl := rem_len (s.F.take k) gone
      rw [List.length_take] at hrl
      obtain ⟨out, hout⟩ : ∃ out, out = remL (s.F.take k) gone := ⟨_, rfl⟩
      rw [← hout] at HV HNX hrl
      have hol : out.length ≤ 200 := by omega
      clear hcast hx hf hGr hout hrl
      go_wp2_with fail
      refine HHC.out.mono ?_
      rintro e w7 ⟨rfl, hb⟩
      have HV7 := Lib.hid (show VSt w6 out _ w7 from ⟨Kd.R_below HV.out.out hb, below_then HV.out.below HV.out.below.size hb⟩)
      have p0 := cell_below' hb q0
      have p1 := cell_below' hb q1
      have p2 := cell_below' hb q2
      clear hb q0 q1 q2 HHC HV
      cases hin : gone.contains f.f0
      · have HS2 : Hid (remL (s.F.take (k + 1)) gone = out ++ [f]) := Lib.hid (by rw [HNX.out, if_neg (by rw [hin]; simp)])
        obtain ⟨A2, c2, e3⟩ := Kd.R_slice HV7.out.out
        subst e3
        clear hin HNX
        go_wp2_with ((with_reducible refine gate_builtin (b := .append) (xs := #[.tmp 71, .tmp 76]) rfl ?_); at_builtin; refine Kd.R_append kFr (w0 := w6) w6.heap.size rfl (.tmp 71) (.tmp 76) 28 36 (.agg #[.int .i64 0, .int .i64 0, .int .i64 0]) 24 rfl Try.underlying28 infoF rfl (by decide) (by omega) (.slice A2 out.length c2) out f [.int .i64 f.f0, .int .i64 f.f1, .int .i64 f.f2] (fun _ => True) (fun _ => False) rfl rfl ?aP (fun _ hk => hk.elim) ?aF ?aO ?aB ?aS ?aL ?_; (case aP => exact k36_mkM _ _ _ _); (case aF => exact fun _ _ => trivial); (case aO => exact HV7.out.out); (case aB => exact HV7.out.below); (case aS => exact HV7.out.below.size); (case aL => omega); intro v8 w8 hown hb8 hg8 hat8; have HV8 := Lib.hid (show VSt w6 (out ++ [f]) v8 w8 from ⟨hown, hb8⟩); clear hown hb8 hg8 hat8)
        go_roundw
        case rel => exact ⟨k + 1, by omega, by simp, by rw [HS2.out]; exact HV8.out⟩
        case measure => simp [RowKit.intOf]; omega
      · have HS2 : Hid (remL (s.F.take (k + 1)) gone = out) := Lib.hid (by rw [HNX.out, if_pos hin])
        clear hin HNX
        go_wp2
        go_roundw
        case rel => exact ⟨k + 1, by omega, by simp, by rw [HS2.out]; exact HV7.out⟩
        case measure => simp [RowKit.intOf]; omega
    · obtain rfl : k = s.F.length := by omega
      rw [List.take_length, ← HRL.out] at HV
      have HTr := Lib.hid (HT6.out.below HV.out.below)
      have HBr := Lib.hid (below_then HB6.out HB6.out.size HV.out.below)
      have hsl : s'.F.length ≤ 200 := by have := HT6.out.fine.room; have := HT6.out.fine.m1; omega
      obtain ⟨A2, c2, e3⟩ := Kd.R_slice HV.out.out
      subst e3
      go_wp2_with fail
      refine (all_to g bm s' wr HTr.out).mono ?_
      rintro e w7 ⟨B7, d7, rfl, hW, hb⟩
      have HT7 := Lib.hid (HTr.out.below hb)
      have HB7 := Lib.hid (below_then HBr.out HBr.out.size hb)
      have hO7 := Kd.R_below HV.out.out hb
      have HSC := Lib.hid (same_calls B7 A2 d7 c2 s'.F (by omega) w7 (Kd.R_reads' hW).2.2 (formed_le hW) (Kd.R_reads' hO7).2.2 (formed_le hO7))
      clear hW hb hO7 HTr HBr HV
      go_wp2_with fail
      refine HSC.out.mono ?_
      rintro e w8 ⟨rfl, hb⟩
      have HB8 := Lib.hid (below_then HB7.out HB7.out.size hb)
      have hgc := get_calls g bm s' id i0 i1 w8 (HT7.out.below hb)
      rw [HREM.out] at hgc
      have HGC := Lib.hid hgc
      clear hb HT7 HB7 HSC hgc
      go_wp2_with fail
      refine HGC.out.mono ?_
      rintro e w9 ⟨rfl, hb⟩
      have HB9 := Lib.hid (below_alloc (below_then HB8.out HB8.out.size hb) (.cells #[.int .i64 0, .int .i64 0, .int .i64 0] 36))
      dsimp only [Option.isSome, Option.getD, frV, z0]
      clear hb HB8 HGC
      rcases HBER.out with rfl | ⟨rfl, rfl⟩
      · go_wp2
        go_ret
        exact ⟨rfl, HB9.out⟩
      · go_wp2
        go_ret
        exact ⟨rfl, HB9.out⟩
theorem gone_law (m : Int) (A : Option Addr) (c : Nat) (sc : List Cl) (id : Int) (i0 : -9223372036854775808 ≤ id) (i1 : id ≤ 9223372036854775807) (w : World) (hC : Kd.C kCl w A sc.length sc) (hq : ∀ x ∈ sc, -9223372036854775808 ≤ x.nn ∧ x.nn ≤ 9223372036854775807) :
    Calls Try.prog 4 #[.int .i64 m, .slice A sc.length c, .int .i64 id] w fun e w' => e = .returned (.bool true) ∧ Below w.heap.size w w' := by
  by_cases h : 1 ≤ m ∧ m ≤ 200
  · exact gone_good m h.1 h.2 A c sc id i0 i1 w hC hq
  · exact gone_bad m (by omega) A c sc id w
end Go.Proofs.Ytbkahblcabmdkaa.F
