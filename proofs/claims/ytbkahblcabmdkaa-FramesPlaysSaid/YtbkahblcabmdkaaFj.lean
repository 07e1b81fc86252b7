import Derived.Test.YtbkahblcabmdkaaFh
import Derived.KernelRfl
/-! awake; FramesNames; FramesNil. -/
namespace Go.Proofs.Ytbkahblcabmdkaa.F
open Go.RowKit Go.Proofs.YtbkahblcabmdkaaW.PrintWords Go.Proofs.Ytbkahblcabmdkaa.X
set_option linter.unusedVariables false

theorem add_to {s s' : Tr} {p id er : Int} (he : addF s p = (id, er, s')) (g bm : Nat) (h0 : -9223372036854775808 ≤ p) (h1 : p ≤ 9223372036854775807) (w : World) (h : TreeIn w g bm s) (hl : s.last < 4611686018427387904) :
    Calls Try.prog 18 #[.pointer (some ⟨g, 0, none⟩), .int .i64 p] w fun e w' => e = .returned (.tuple #[.int .i64 id, .int .i64 er]) ∧ TreeIn w' g bm s' ∧ Turn (fun i => i = g ∨ i = bm) w w' := by
  have := add_calls g bm s p h0 h1 w h hl
  rw [he] at this
  exact this
theorem anc_to {s : Tr} {k er : Int} {l : List Int} (he : ancF s k = (l, er)) (g bm : Nat) (h0 : -9223372036854775808 ≤ k) (h1 : k ≤ 9223372036854775807) (w : World) (h : TreeIn w g bm s) :
    Calls Try.prog 23 #[.pointer (some ⟨g, 0, none⟩), .int .i64 k] w fun e w' => ∃ A c, e = .returned (.tuple #[.slice A l.length c, .int .i64 er]) ∧ Kd.R (Kd.int .i64) 3 w' w.heap.size (fun i => w.heap.size ≤ i ∧ i < w'.heap.size) (.slice A l.length c) l ∧ Below w.heap.size w w' := by
  have := ancestors_calls g bm s k h0 h1 w h
  rw [he] at this
  refine this.mono ?_
  rintro e w' ⟨v, rfl, hR, hb⟩
  obtain ⟨A, c, rfl⟩ := Kd.R_slice hR
  exact ⟨A, c, rfl, Kd.R_mono (Kd.R_bound hR) (fun k hk => ⟨hk.2.1, hk.2.2.1⟩), hb⟩
theorem rem_to {s s' : Tr} {k er : Int} {l : List Int} (he : remF s k = (l, er, s')) (g bm : Nat) (h0 : -9223372036854775808 ≤ k) (h1 : k ≤ 9223372036854775807) (w : World) (h : TreeIn w g bm s) :
    Calls Try.prog 13 #[.pointer (some ⟨g, 0, none⟩), .int .i64 k] w fun e w' => ∃ A c, e = .returned (.tuple #[.slice A l.length c, .int .i64 er]) ∧ Kd.R (Kd.int .i64) 3 w' w.heap.size (fun i => w.heap.size ≤ i ∧ i < w'.heap.size) (.slice A l.length c) l ∧ TreeIn w' g bm s' ∧ Turn (fun i => i = bm) w w' := by
  have := remove_calls g bm s k h0 h1 w h
  rw [he] at this
  refine this.mono ?_
  rintro e w' ⟨v, rfl, hR, hT, hb⟩
  obtain ⟨A, c, rfl⟩ := Kd.R_slice hR
  exact ⟨A, c, rfl, Kd.R_mono (Kd.R_bound hR) (fun k hk => ⟨hk.2.1, hk.2.2.1⟩), hT, hb⟩
theorem ints_turn {w w1 : World} {b n : Nat} {S : Nat → Prop} {v : Value} {xs : List Int} (h : Kd.R (Kd.int .i64) 3 w b (fun i => n ≤ i ∧ i < w.heap.size) v xs) (ht : Turn S w w1) (hS : ∀ i, S i → i < n) : Kd.R (Kd.int .i64) 3 w1 b (fun i => n ≤ i ∧ i < w1.heap.size) v xs :=
  Kd.R_mono (Kd.R_move h (fun k hk => ht.block k hk.2 (fun h1 => by have := hS k h1; omega))) (fun k hk => ⟨hk.1, Nat.lt_of_lt_of_le hk.2 ht.size⟩)
theorem below_turn {b : Nat} {S : Nat → Prop} {w w1 w2 : World} (h : Below b w w1) (hb : b ≤ w1.heap.size) (ht : Turn S w1 w2) (hS : ∀ i, S i → b ≤ i) : Below b w w2 := h.trans (ht.below hb hS)
def t1 : Tr := ⟨3, 1, [⟨1, 0, 0⟩]⟩
def t2 : Tr := ⟨3, 2, [⟨1, 0, 0⟩, ⟨2, 1, 0⟩]⟩
def t3 : Tr := ⟨3, 3, [⟨1, 0, 0⟩, ⟨2, 1, 0⟩, ⟨3, 2, 0⟩]⟩
def t4 : Tr := ⟨3, 3, [⟨1, 0, 0⟩]⟩
def t5 : Tr := ⟨3, 4, [⟨1, 0, 0⟩, ⟨4, 1, 0⟩]⟩
theorem e1 : addF (fresh 3) 0 = (1, 0, t1) := by kernel_rfl
theorem e2 : addF t1 1 = (2, 0, t2) := by kernel_rfl
theorem e3 : addF t2 2 = (3, 0, t3) := by kernel_rfl
theorem e4 : addF t3 0 = (0, 160, t3) := by kernel_rfl
theorem e5 : ancF t3 3 = ([2, 1], 0) := by kernel_rfl
theorem e6 : remF t3 2 = ([2, 3], 0, t4) := by kernel_rfl
theorem e7 : addF t4 1 = (4, 0, t5) := by kernel_rfl
set_option maxRecDepth 100000 in
set_option maxHeartbeats 2000000 in
theorem awake_calls (w : World) : Calls Try.prog 9 #[] w fun e w' => e = .returned (.bool true) ∧ Below w.heap.size w w' := by
  go_enter Try.func9, Try.ntmps9
  go_wp2_with fail
  refine (new_good 3 (by omega) (by omega) w).mono ?_
  rintro e w1 ⟨rfl, hT, hb⟩
  have HT1 := Lib.hid hT
  have HB1 := Lib.hid hb
  obtain ⟨g, hg⟩ : ∃ k, k = w.heap.size + 1 := ⟨_, rfl⟩
  obtain ⟨bm, hbm⟩ : ∃ k, k = w.heap.size := ⟨_, rfl⟩
  rw [← hg] at HT1 ⊢
  have HGB : Hid (w.heap.size ≤ g ∧ w.heap.size ≤ bm) := Lib.hid (by omega)
  rw [← hbm] at HT1
  clear hT hb hg hbm
  go_wp2_with fail
  refine (new_bad 0 (.inl (by omega)) w1).mono ?_
  rintro e w2 ⟨rfl, rfl⟩
  go_wp2_with fail
  refine (add_to e1 g bm (by omega) (by omega) w1 HT1.out (by show (0 : Int) < _; omega)).mono ?_
  rintro e w2 ⟨rfl, hT, hU⟩
  have HT2 := Lib.hid hT
  have HB2 := Lib.hid (below_turn HB1.out HB1.out.size hU (fun i hi => by have := HGB.out; rcases hi with rfl | rfl; exact this.1; exact this.2))
  clear hT hU HT1 HB1
  go_wp2_with fail
  refine (add_to e2 g bm (by omega) (by omega) w2 HT2.out (by show (1 : Int) < _; omega)).mono ?_
  rintro e w3 ⟨rfl, hT, hU⟩
  have HT3 := Lib.hid hT
  have HB3 := Lib.hid (below_turn HB2.out HB2.out.size hU (fun i hi => by have := HGB.out; rcases hi with rfl | rfl; exact this.1; exact this.2))
  clear hT hU HT2 HB2
  go_wp2_with fail
  refine (add_to e3 g bm (by omega) (by omega) w3 HT3.out (by show (2 : Int) < _; omega)).mono ?_
  rintro e w4 ⟨rfl, hT, hU⟩
  have HT4 := Lib.hid hT
  have HB4 := Lib.hid (below_turn HB3.out HB3.out.size hU (fun i hi => by have := HGB.out; rcases hi with rfl | rfl; exact this.1; exact this.2))
  clear hT hU HT3 HB3
  go_wp2_with fail
  refine (add_to e4 g bm (by omega) (by omega) w4 HT4.out (by show (3 : Int) < _; omega)).mono ?_
  rintro e w5 ⟨rfl, hT, hU⟩
  have HT5 := Lib.hid hT
  have HB5 := Lib.hid (below_turn HB4.out HB4.out.size hU (fun i hi => by have := HGB.out; rcases hi with rfl | rfl; exact this.1; exact this.2))
  clear hT hU HT4 HB4
  go_wp2_with fail
  refine (anc_to e5 g bm (by omega) (by omega) w5 HT5.out).mono ?_
  rintro e w6 ⟨A, c, rfl, hR, hb⟩
  have HT6 := Lib.hid (HT5.out.below hb)
  have HB6 := Lib.hid (below_then HB5.out HB5.out.size hb)
  have HR6 := Lib.hid hR
  have HLT := Lib.hid HT5.out.lt
  clear hR hb HT5 HB5
  go_wp2_with fail
  refine (rem_to e6 g bm (by omega) (by omega) w6 HT6.out).mono ?_
  rintro e w7 ⟨B, d, rfl, _, hT, hU⟩
  have HT7 := Lib.hid hT
  have HR7 := Lib.hid (ints_turn HR6.out hU (fun i hi => by rw [hi]; exact HLT.out.2))
  have HB7 := Lib.hid (below_turn HB6.out HB6.out.size hU (fun i hi => by rw [hi]; exact HGB.out.2))
  clear hT hU HT6 HB6 HR6
  go_wp2_with fail
  refine (add_to e7 g bm (by omega) (by omega) w7 HT7.out (by show (3 : Int) < _; omega)).mono ?_
  rintro e w8 ⟨rfl, hT, hU⟩
  have hR8 := ints_turn HR7.out hU (fun i hi => by have := HLT.out; rcases hi with rfl | rfl; exact this.1; exact this.2)
  have HB8 := Lib.hid (below_turn HB7.out HB7.out.size hU (fun i hi => by have := HGB.out; rcases hi with rfl | rfl; exact this.1; exact this.2))
  obtain ⟨ad, ea, hc⟩ := Kd.at_int (Kd.R_reads' hR8).2.2 1 (by decide) (by decide)
  subst ea
  have hc1 : w8.cell? (ad.add 1) = some (.int .i64 1) := hc
  have hc2 : w8.cell? { block := ad.block, off := ad.off + 1 } = some (.int .i64 1) := by
    have h := hc1
    simpa [Addr.add] using h
  clear hT hU hR8 HT7 HB7 HR7 hc
  go_wp2
  go_ret
  exact ⟨rfl, HB8.out⟩
theorem names_calls (w : World) : Calls Try.prog 3 #[] w fun e w' => e = .returned (.bool true) ∧ Below w.heap.size w w' := by
  have HA := Lib.hid (awake_calls w)
  go_enter Try.func3, Try.ntmps3
  go_wp2_with fail
  refine HA.out.mono ?_
  rintro e w1 ⟨rfl, hb⟩
  have HB := Lib.hid hb
  clear hb
  go_wp2
  go_ret
  exact ⟨rfl, HB.out⟩
set_option maxRecDepth 100000 in
set_option maxHeartbeats 2000000 in
theorem nil_calls (k : Int) (w : World) : Calls Try.prog 8 #[.int .i64 k] w fun e w' => e = .returned (.bool true) ∧ Below w.heap.size w w' := by
  have HA := Lib.hid (awake_calls w)
  go_enter Try.func8, Try.ntmps8
  go_wp2_with fail
  refine HA.out.mono ?_
  rintro e w1 ⟨rfl, hb⟩
  have HB1 := Lib.hid hb
  clear hb HA
  go_wp2_with fail
  refine (add_nil k w1).mono ?_
  rintro e w2 ⟨rfl, rfl⟩
  go_wp2_with fail
  refine (remove_nil k _).mono ?_
  rintro e w2 ⟨rfl, hb⟩
  have HB2 := Lib.hid (below_then HB1.out HB1.out.size hb)
  clear hb HB1
  go_wp2_with fail
  refine (get_nil k w2).mono ?_
  rintro e w3 ⟨rfl, hb⟩
  dsimp only [frV, z0]
  have HB3 := Lib.hid (below_alloc (below_then HB2.out HB2.out.size hb) (.cells #[.int .i64 0, .int .i64 0, .int .i64 0] 36))
  have HH3 := Lib.hid (blk_new w3 (.cells #[.int .i64 0, .int .i64 0, .int .i64 0] 36))
  clear hb HB2
  go_wp2_with fail
  refine (ancestors_nil k _).mono ?_
  rintro e w4 ⟨rfl, hb⟩
  have HB4 := Lib.hid (below_then HB3.out HB3.out.size hb)
  have HH4 := Lib.hid (blk_after HH3.out hb rfl)
  obtain ⟨bf, hbf⟩ : ∃ k, k = w3.heap.size := ⟨_, rfl⟩
  rw [← hbf] at HH4 ⊢
  clear hb HB3 HH3 hbf
  go_wp2_with fail
  refine (top_nil k _).mono ?_
  rintro e w5 ⟨rfl, hb⟩
  have HB5 := Lib.hid (below_then HB4.out HB4.out.size hb)
  have HH5 := Lib.hid (blk_after HH4.out hb rfl)
  clear hb HB4 HH4
  go_wp2_with fail
  refine (below_nil k _).mono ?_
  rintro e w6 ⟨rfl, hb⟩
  have HB6 := Lib.hid (below_then HB5.out HB5.out.size hb)
  have hh6 := blk_after HH5.out hb rfl
  have c0 : w6.cell? ⟨bf, 0, none⟩ = some (.int .i64 0) := blk_cell hh6 0
  have c1 : w6.cell? ⟨bf, 1, none⟩ = some (.int .i64 0) := blk_cell hh6 1
  have c2 : w6.cell? ⟨bf, 2, none⟩ = some (.int .i64 0) := blk_cell hh6 2
  clear hb HB5 HH5 hh6
  go_wp2_with fail
  refine (set_nil k k _).mono ?_
  rintro e w7 ⟨rfl, hb⟩
  have HB7 := Lib.hid (below_then HB6.out HB6.out.size hb)
  clear hb HB6 c0 c1 c2
  go_wp2_with fail
  refine (all_nil w7).mono ?_
  rintro e w8 ⟨rfl, rfl⟩
  go_wp2
  go_ret
  exact ⟨rfl, HB7.out⟩
end Go.Proofs.Ytbkahblcabmdkaa.F
