import Derived.Test.YtbkahblcabmdkaaFv
/-! FramesPlays: both trees; asked. -/
namespace Go.Proofs.Ytbkahblcabmdkaa.F
open Go.RowKit Go.Proofs.YtbkahblcabmdkaaW.PrintWords Go.Proofs.Ytbkahblcabmdkaa.X
set_option linter.unusedVariables false

/-- Both trees stand alike. -/
structure Two (B : Nat) (w : World) (g bm gr : Nat) (S : Nat → Prop) (s : Tr) : Prop where
  t : TreeIn w g bm s
  r : RefIn w B S gr s
  sep : ¬ S g ∧ ¬ S bm
  lo : B ≤ g ∧ B ≤ bm
theorem Two.below {B : Nat} {w w1 : World} {g bm gr : Nat} {S : Nat → Prop} {s : Tr} (h : Two B w g bm gr S s) (hb : Below w.heap.size w w1) : Two B w1 g bm gr S s := ⟨h.t.below hb, h.r.below hb, h.sep, h.lo⟩
theorem ancF_len {s : Tr} (h : s.fine) (k : Int) : (ancF s k).1.length ≤ 15 := by
  unfold ancF
  cases hg : getF s.F k with
  | none => exact Nat.zero_le _
  | some f => exact anc_len h hg
theorem below_blk {w w1 : World} {k : Nat} {o : Obj} (h : w.heap[k]? = some o) (hb : Below w.heap.size w w1) : w1.heap[k]? = some o := (hb.block k (blk_lt h)).trans h
set_option maxRecDepth 100000 in
set_option maxHeartbeats 2000000 in
theorem asked_calls (B : Nat) (g bm gr : Nat) (S : Nat → Prop) (s : Tr) (id : Int) (i0 : -9223372036854775808 ≤ id) (i1 : id ≤ 9223372036854775807) (w : World) (h : Two B w g bm gr S s) :
    Calls Try.prog 22 #[.pointer (some ⟨g, 0, none⟩), .pointer (some ⟨gr, 0, none⟩), .int .i64 id] w fun e w' => e = .returned (.bool true) ∧ Below w.heap.size w w' := by
  have hfine := h.t.fine
  have HT0 := Lib.hid h
  have hal := ancF_len hfine id
  have hbl := bel_len2 hfine id
  have H1 : Hid (∀ W, Two B W g bm gr S s → Calls Try.prog 17 #[.pointer (some ⟨g, 0, none⟩), .int .i64 id] W fun e w' => e = .returned (.tuple #[frV ((getF s.F id).getD z0), .int .i64 (if (getF s.F id).isSome = true then 0 else 161)]) ∧ Below W.heap.size W w') := Lib.hid (fun W hW => get_calls g bm s id i0 i1 W hW.t)
  have H2 : Hid (∀ W, Two B W g bm gr S s → Calls Try.prog 32 #[.pointer (some ⟨gr, 0, none⟩), .int .i64 id] W fun e w' => e = .returned (.tuple #[frV ((getF s.F id).getD z0), .int .i64 (if (getF s.F id).isSome = true then 0 else 161)]) ∧ Below W.heap.size W w') := Lib.hid (fun W hW => ref_get gr B S s id W hW.r)
  have H3 : Hid (∀ W, Two B W g bm gr S s → Calls Try.prog 23 #[.pointer (some ⟨g, 0, none⟩), .int .i64 id] W fun e w' => ∃ v, e = .returned (.tuple #[v, .int .i64 (ancF s id).2]) ∧ Kd.R (Kd.int .i64) 3 w' W.heap.size (fun _ => True) v (ancF s id).1 ∧ Below W.heap.size W w') := Lib.hid (fun W hW => ancestors_calls g bm s id i0 i1 W hW.t)
  have H4 : Hid (∀ W, Two B W g bm gr S s → Calls Try.prog 33 #[.pointer (some ⟨gr, 0, none⟩), .int .i64 id] W fun e w' => ∃ v, e = .returned (.tuple #[v, .int .i64 (ancF s id).2]) ∧ Kd.R (Kd.int .i64) 3 w' W.heap.size (fun _ => True) v (ancF s id).1 ∧ Below W.heap.size W w') := Lib.hid (fun W hW => ref_anc gr B S s id W hW.r)
  have H5 : Hid (∀ W, Two B W g bm gr S s → Calls Try.prog 24 #[.pointer (some ⟨g, 0, none⟩), .int .i64 id] W fun e w' => e = .returned (.tuple #[.int .i64 (topF s id).1, .int .i64 (topF s id).2]) ∧ Below W.heap.size W w') := Lib.hid (fun W hW => top_calls g bm s id i0 i1 W hW.t)
  have H6 : Hid (∀ W, Two B W g bm gr S s → Calls Try.prog 34 #[.pointer (some ⟨gr, 0, none⟩), .int .i64 id] W fun e w' => e = .returned (.tuple #[.int .i64 (topF s id).1, .int .i64 (topF s id).2]) ∧ Below W.heap.size W w') := Lib.hid (fun W hW => ref_top gr B S s id W hW.r)
  have H7 : Hid (∀ W, Two B W g bm gr S s → Calls Try.prog 12 #[.pointer (some ⟨g, 0, none⟩), .int .i64 id] W fun e w' => ∃ v, e = .returned (.tuple #[v, .int .i64 (belF s id).2]) ∧ Kd.R (Kd.int .i64) 3 w' W.heap.size (fun _ => True) v (belF s id).1 ∧ Below W.heap.size W w') := Lib.hid (fun W hW => below_calls g bm s id i0 i1 W hW.t)
  have H8 : Hid (∀ W, Two B W g bm gr S s → Calls Try.prog 35 #[.pointer (some ⟨gr, 0, none⟩), .int .i64 id] W fun e w' => ∃ v, e = .returned (.tuple #[v, .int .i64 (belF s id).2]) ∧ Kd.R (Kd.int .i64) 3 w' W.heap.size (fun _ => True) v (belF s id).1 ∧ Below W.heap.size W w') := Lib.hid (fun W hW => ref_below gr B S s id W hW.r)
  obtain ⟨f, hf⟩ : ∃ f, f = (getF s.F id).getD z0 := ⟨_, rfl⟩
  obtain ⟨er, her⟩ : ∃ x : Int, x = (if (getF s.F id).isSome = true then 0 else 161) := ⟨_, rfl⟩
  obtain ⟨l, hl⟩ : ∃ l, l = (ancF s id).1 := ⟨_, rfl⟩
  obtain ⟨le, hle⟩ : ∃ l, l = (ancF s id).2 := ⟨_, rfl⟩
  obtain ⟨x, hx⟩ : ∃ l, l = (topF s id).1 := ⟨_, rfl⟩
  obtain ⟨xe, hxe⟩ : ∃ l, l = (topF s id).2 := ⟨_, rfl⟩
  obtain ⟨p, hp⟩ : ∃ l, l = (belF s id).1 := ⟨_, rfl⟩
  obtain ⟨pe, hpe⟩ : ∃ l, l = (belF s id).2 := ⟨_, rfl⟩
  rw [← hf, ← her] at H1 H2
  rw [← hl] at hal
  rw [← hp] at hbl
  rw [← hl, ← hle] at H3 H4
  rw [← hx, ← hxe] at H5 H6
  rw [← hp, ← hpe] at H7 H8
  clear hf her hl hle hx hxe hp hpe h
  unfold frV at H1 H2
  go_enter Try.func22, Try.ntmps22
  go_wp2_with fail
  refine (H1.out w HT0.out).mono ?_
  rintro e w1 ⟨rfl, hb⟩
  have HB1 := Lib.hid (below_alloc hb (.cells #[.int .i64 f.f0, .int .i64 f.f1, .int .i64 f.f2] 36))
  have hn := blk_new w1 (.cells #[.int .i64 f.f0, .int .i64 f.f1, .int .i64 f.f2] 36)
  clear hb
  go_wp2_with fail
  obtain ⟨b7, hb7⟩ : ∃ x, x = w1.heap.size := ⟨_, rfl⟩
  obtain ⟨w2, hw2⟩ : ∃ x, x = w1.alloc (.cells #[.int .i64 f.f0, .int .i64 f.f1, .int .i64 f.f2] 36) := ⟨_, rfl⟩
  rw [← hw2, ← hb7] at hn
  rw [← hw2] at HB1 ⊢
  try rw [← hb7]
  have HN2 := Lib.hid hn
  clear hn hb7 hw2
  refine (H2.out w2 (HT0.out.below HB1.out)).mono ?_
  rintro e w3 ⟨rfl, hb⟩
  have HB3 := Lib.hid (below_alloc (below_then HB1.out HB1.out.size hb) (.cells #[.int .i64 f.f0, .int .i64 f.f1, .int .i64 f.f2] 36))
  have hn := blk_new w3 (.cells #[.int .i64 f.f0, .int .i64 f.f1, .int .i64 f.f2] 36)
  have hn7 := below_blk HN2.out (below_alloc hb (.cells #[.int .i64 f.f0, .int .i64 f.f1, .int .i64 f.f2] 36))
  clear hb
  go_wp2_with fail
  obtain ⟨b9, hb9⟩ : ∃ x, x = w3.heap.size := ⟨_, rfl⟩
  obtain ⟨w4, hw4⟩ : ∃ x, x = w3.alloc (.cells #[.int .i64 f.f0, .int .i64 f.f1, .int .i64 f.f2] 36) := ⟨_, rfl⟩
  rw [← hw4, ← hb9] at hn
  rw [← hw4] at HB3 hn7 ⊢
  try rw [← hb9]
  have HN7 := Lib.hid hn7
  have HN9 := Lib.hid hn
  clear hn hn7 hb9 hw4 HN2 HB1
  refine (H3.out w4 (HT0.out.below HB3.out)).mono ?_
  rintro e w5 ⟨v5, rfl, hR, hb⟩
  obtain ⟨A5, c5, e5⟩ := Kd.R_slice hR
  subst e5
  have HR5 := Lib.hid hR
  have HB5 := Lib.hid (below_then HB3.out HB3.out.size hb)
  have HM5 := Lib.hid (show Below w4.heap.size w4 w5 from hb)
  clear hR hb
  go_wp2_with fail
  refine (H4.out w5 (HT0.out.below HB5.out)).mono ?_
  rintro e w6 ⟨v6, rfl, hR, hb⟩
  obtain ⟨A6, c6, e6⟩ := Kd.R_slice hR
  subst e6
  have HR6 := Lib.hid hR
  have HR56 := Lib.hid (Kd.R_below HR5.out hb)
  have HB6 := Lib.hid (below_then HB5.out HB5.out.size hb)
  have HM6 := Lib.hid (below_then HM5.out HM5.out.size hb)
  clear hR hb HR5 HB5 HM5
  go_wp2_with fail
  refine (H5.out w6 (HT0.out.below HB6.out)).mono ?_
  rintro e w7 ⟨rfl, hb⟩
  have HB7 := Lib.hid (below_then HB6.out HB6.out.size hb)
  have HM7 := Lib.hid (below_then HM6.out HM6.out.size hb)
  have HR67 := Lib.hid (Kd.R_below HR6.out hb)
  have HR57 := Lib.hid (Kd.R_below HR56.out hb)
  clear hb HB6 HM6 HR6 HR56
  go_wp2_with fail
  refine (H6.out w7 (HT0.out.below HB7.out)).mono ?_
  rintro e w8 ⟨rfl, hb⟩
  have HB8 := Lib.hid (below_then HB7.out HB7.out.size hb)
  have HM8 := Lib.hid (below_then HM7.out HM7.out.size hb)
  have HR68 := Lib.hid (Kd.R_below HR67.out hb)
  have HR58 := Lib.hid (Kd.R_below HR57.out hb)
  clear hb HB7 HM7 HR67 HR57
  go_wp2_with fail
  refine (H7.out w8 (HT0.out.below HB8.out)).mono ?_
  rintro e w9 ⟨v9, rfl, hR, hb⟩
  obtain ⟨A9, c9, e9⟩ := Kd.R_slice hR
  subst e9
  have HR9 := Lib.hid hR
  have HB9 := Lib.hid (below_then HB8.out HB8.out.size hb)
  have HM9 := Lib.hid (below_then HM8.out HM8.out.size hb)
  have HR69 := Lib.hid (Kd.R_below HR68.out hb)
  have HR59 := Lib.hid (Kd.R_below HR58.out hb)
  clear hR hb HB8 HM8 HR68 HR58
  go_wp2_with fail
  refine (H8.out w9 (HT0.out.below HB9.out)).mono ?_
  rintro e wa ⟨va, rfl, hR, hb⟩
  obtain ⟨Aa, ca, ea⟩ := Kd.R_slice hR
  subst ea
  have HBa := Lib.hid (below_then HB9.out HB9.out.size hb)
  have HMa := Lib.hid (below_then HM9.out HM9.out.size hb)
  have hR6a := Kd.R_below HR69.out hb
  have hR5a := Kd.R_below HR59.out hb
  have HIN := Lib.hid (ints_calls A5 A6 c5 c6 l (by omega) wa (Kd.R_reads' hR5a).2.2 (formed_le hR5a) (Kd.R_reads' hR6a).2.2 (formed_le hR6a))
  have HR9a := Lib.hid (Kd.R_below HR9.out hb)
  have HRaa := Lib.hid hR
  clear hR hb HB9 HM9 HR69 HR59 HR9 hR6a hR5a
  go_wp2_with fail
  refine HIN.out.mono ?_
  rintro e wb ⟨rfl, hb⟩
  have HBb := Lib.hid (below_then HBa.out HBa.out.size hb)
  have HMb := Lib.hid (below_then HMa.out HMa.out.size hb)
  have hR9b := Kd.R_below HR9a.out hb
  have hRab := Kd.R_below HRaa.out hb
  have HIN2 := Lib.hid (ints_calls A9 Aa c9 ca p (by omega) wb (Kd.R_reads' hR9b).2.2 (formed_le hR9b) (Kd.R_reads' hRab).2.2 (formed_le hRab))
  clear hb HBa HMa HR9a HRaa hR9b hRab HIN
  go_wp2_with fail
  refine HIN2.out.mono ?_
  rintro e wc ⟨rfl, hb⟩
  have HBc := Lib.hid (below_then HBb.out HBb.out.size hb)
  have hMc := below_then HMb.out HMb.out.size hb
  have h7 := below_blk HN7.out hMc
  have h9 := below_blk HN9.out hMc
  have a0 : wc.cell? ⟨b7, 0, none⟩ = some (.int .i64 f.f0) := blk_cell h7 0
  have a1 : wc.cell? ⟨b7, 1, none⟩ = some (.int .i64 f.f1) := blk_cell h7 1
  have a2 : wc.cell? ⟨b7, 2, none⟩ = some (.int .i64 f.f2) := blk_cell h7 2
  have c0 : wc.cell? ⟨b9, 0, none⟩ = some (.int .i64 f.f0) := blk_cell h9 0
  have c1 : wc.cell? ⟨b9, 1, none⟩ = some (.int .i64 f.f1) := blk_cell h9 1
  have c2 : wc.cell? ⟨b9, 2, none⟩ = some (.int .i64 f.f2) := blk_cell h9 2
  clear hb HBb HMb HIN2 hMc h7 h9
  go_wp2
  go_ret
  exact ⟨rfl, HBc.out⟩
end Go.Proofs.Ytbkahblcabmdkaa.F
