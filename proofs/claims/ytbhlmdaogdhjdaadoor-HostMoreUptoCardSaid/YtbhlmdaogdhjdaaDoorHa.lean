import Derived.Test.YtbhlmdaogdhjdaaDoorProg
import Derived.Test.YtbhlmdaogdhjdaaDoorWWords
import Derived.Test.YtbhlmdaogdhjdaaDoorWa
import Derived.WalkKit
import Derived.Tactics
import Derived.Tactics2
import Derived.WalkSpells
import Derived.Lib.Hide
import Derived.Lib.LazyBuf
/-! octet.Split: its closures and its loop. -/
namespace Go.Proofs.YtbhlmdaogdhjdaaDoor.H
open Go.RowKit Go.Proofs.YtbhlmdaogdhjdaaDoorW.PrintWords Go.Proofs.YtbhlmdaogdhjdaaDoorW.PrintLast Go.Proofs.YtbhlmdaogdhjdaaDoorW.PrintMore

theorem infoS : (Tryd.prog.info? 9).map (fun i => (i.zero, i.size, i.bytes)) = some (some (.string ⟨#[]⟩), 1, 16) := by kernel_rfl
set_option maxHeartbeats 1000000 in
theorem put_calls (p : ByteArray) (be bo base : Nat) (v : Value) (l : List ByteArray) (w : World) (hne : be ≠ bo) (h1 : base ≤ be) (h2 : base ≤ bo) (hbe : w.heap[be]? = some (.cells #[.bool true] 4 (0, 0))) (hbo : w.heap[bo]? = some (.cells #[v] 30 (0, 0)))
    (hR : Kd.R Kd.string 9 w base (fun k => k ≠ be ∧ k ≠ bo) v l) (hl : l.length < 8796093022208) :
    Calls Tryd.prog 44 #[.string p, .pointer (some ⟨be, 0, none⟩), .pointer (some ⟨bo, 0, none⟩)] w fun e w' => e = .returned (.tuple #[]) ∧ ∃ v', w'.heap[be]? = some (.cells #[.bool true] 4 (0, 0)) ∧ w'.heap[bo]? = some (.cells #[v'] 30 (0, 0)) ∧
      Kd.R Kd.string 9 w' base (fun k => k ≠ be ∧ k ≠ bo) v' (l ++ [p]) ∧ Below base w w' := by
  have c1 : w.cell? ⟨be, 0, none⟩ = some (.bool true) := blk_cell hbe 0
  have c2 : w.cell? ⟨bo, 0, none⟩ = some v := blk_cell hbo 0
  have HBE := Lib.hid hbe
  have HBO := Lib.hid hbo
  have HR := Lib.hid hR
  obtain ⟨A, c, rfl⟩ := Kd.R_slice hR
  clear hbe hbo hR
  go_enter Tryd.func44, Tryd.ntmps44
  go_wp2_with ((with_reducible refine gate_builtin (b := .append) (xs := #[.tmp 9, .tmp 11]) rfl ?_); at_builtin; refine Kd.R_append Kd.string (w0 := w) base rfl (.tmp 9) (.tmp 11) 30 9 (.string ⟨#[]⟩) 16 rfl Tryd.underlying30 infoS rfl (by decide) (by omega) (.slice A l.length c) l p [.string p] (fun k => k ≠ be ∧ k ≠ bo) (fun _ => False) rfl rfl ?aP (fun _ hk => hk.elim) ?aF ?aO ?aB ?aS ?aL ?_; (case aP => exact rfl); (case aF => exact fun k hk => ⟨fun e => by have := blk_lt HBE.out; omega, fun e => by have := blk_lt HBO.out; omega⟩); (case aO => exact HR.out); (case aB => exact Below.refl _ _); (case aS => exact Nat.le_trans h1 (Nat.le_of_lt (blk_lt HBE.out))); (case aL => omega); intro v1 w1 hown hb1 hg1 hat1; have e1 := blk_grown HBO.out hg1 (fun e => (HR.out.1 bo e.symm).2 rfl); have g1 := blk_grown HBE.out hg1 (fun e => (HR.out.1 be e.symm).1 rfl); obtain ⟨A1, c3, hv1⟩ := Kd.R_slice hown; rw [List.length_append, List.length_singleton] at hv1; subst hv1; have d1 : w1.cell? ⟨bo, 0, none⟩ = some (.slice A l.length c) := blk_cell e1 0; have f1 := blk_frozen e1 0; have E1 := Lib.hid e1; have G1 := Lib.hid g1; have HO := Lib.hid hown; have HB1 := Lib.hid hb1; clear e1 g1 hown hg1 hb1 hat1)
  go_end0
  exact ⟨rfl, _, blk_far (p := ⟨bo, 0, none⟩) G1.out hne _, blk_set E1.out 0 _, Kd.R_far (p := ⟨bo, 0, none⟩) HO.out (fun k hk => hk.2) _, HB1.out.setCell (p := ⟨bo, 0, none⟩) h2 _⟩
theorem same_calls (x y : Int) (b : Nat) (w : World) (hb : w.heap[b]? = some (.cells #[.int .u8 y] 5 (0, 0))) :
    Calls Tryd.prog 36 #[.int .u8 x, .pointer (some ⟨b, 0, none⟩)] w fun e w' => e = .returned (.bool (x == y)) ∧ w = w' := by
  have c1 : w.cell? ⟨b, 0, none⟩ = some (.int .u8 y) := blk_cell hb 0
  clear hb
  go_enter Tryd.func36, Tryd.ntmps36
  go_wp2
  go_ret
  exact ⟨rfl, rfl⟩
/-- The parts of the first i bytes, and where the next one begins. -/
def cutN (s : ByteArray) (y : Int) : Nat → List ByteArray × Nat
  | 0 => ([], 0)
  | i + 1 => if bt s i = y then ((cutN s y i).1 ++ [s.extract (cutN s y i).2 i], i + 1) else cutN s y i
def splitB (s : ByteArray) (y : Int) : List ByteArray := (cutN s y s.size).1 ++ [s.extract (cutN s y s.size).2 s.size]
theorem cutN_le (s : ByteArray) (y : Int) : ∀ i, (cutN s y i).2 ≤ i ∧ (cutN s y i).1.length ≤ i
  | 0 => ⟨Nat.le_refl _, Nat.le_refl _⟩
  | i + 1 => by
    have ih := cutN_le s y i
    unfold cutN
    split
    · simp; omega
    · exact ⟨by omega, by omega⟩
theorem splitB_length (s : ByteArray) (y : Int) : (splitB s y).length ≤ s.size + 1 ∧ 0 < (splitB s y).length := by
  have := (cutN_le s y s.size).2
  unfold splitB
  rw [List.length_append, List.length_singleton]
  omega
theorem bt_at (s : ByteArray) (n : Nat) (h : n < s.size) : ((s[n].toNat : Nat) : Int) = bt s n := by
  unfold bt
  simp [h]
/-- Between two rounds. -/
structure CutSt (w : World) (b : Nat) (s : ByteArray) (y : Int) (be bo : Nat) (l : List ByteArray) (wr : World) : Prop where
  hb : wr.heap[b]? = some (.cells #[.int .u8 y] 5 (0, 0))
  he : wr.heap[be]? = some (.cells #[.bool true] 4 (0, 0))
  out : ∃ v, wr.heap[bo]? = some (.cells #[v] 30 (0, 0)) ∧ Kd.R Kd.string 9 wr w.heap.size (fun k => k ≠ be ∧ k ≠ bo) v l
  below : Below w.heap.size w wr
set_option maxHeartbeats 2000000 in
theorem cut_calls (s : ByteArray) (y : Int) (b : Nat) (w : World) (hs : s.size < 8796093022207) (hb : w.heap[b]? = some (.cells #[.int .u8 y] 5 (0, 0))) :
    Calls Tryd.prog 35 #[.string s, .func (.func 36) #[] #[.pointer (some ⟨b, 0, none⟩)], .bool true] w fun e w' => ∃ v, e = .returned v ∧ Kd.R Kd.string 9 w' w.heap.size (fun _ => True) v (splitB s y) ∧ Below w.heap.size w w' := by
  have HBK := Lib.hid hb
  have hlt := blk_lt hb
  have hst : CutSt w b s y w.heap.size (w.heap.size + 1) [] ((w.alloc (.cells #[.bool true] 4)).alloc (.cells #[.slice none 0 0] 30)) := ⟨blk_alloc (blk_alloc hb _) _, blk_alloc (blk_new w _) _, ⟨_, by have := blk_new (w.alloc (.cells #[.bool true] 4)) (.cells #[.slice none 0 0] 30); simpa using this, Kd.R_nil _ _ _ _ _⟩, below_alloc (below_alloc (Below.refl _ _) _) _⟩
  have HST := Lib.hid hst
  clear hst
  clear hb
  go_enter Tryd.func35, Tryd.ntmps35
  go_wp2_with fail
  obtain ⟨be, hbe⟩ : ∃ k, k = w.heap.size := ⟨_, rfl⟩
  obtain ⟨bo, hbo⟩ : ∃ k, k = w.heap.size + 1 := ⟨_, rfl⟩
  rw [← hbo, ← hbe] at HST
  rw [← hbo, ← hbe]
  have hbb : be ≠ bo := by omega
  have hb1 : w.heap.size ≤ be := by omega
  have hb2 : w.heap.size ≤ bo := by omega
  clear hbe hbo
  obtain ⟨w0, hw0⟩ : ∃ w', w' = (w.alloc (.cells #[.bool true] 4)).alloc (.cells #[.slice none 0 0] 30) := ⟨_, rfl⟩
  rw [← hw0] at HST
  rw [← hw0]
  clear hw0
  go_loopw [9, 14] (fun f i wr => ∃ n : Nat, n ≤ s.size ∧ i = .int .i64 n ∧ f = .int .i64 (cutN s y n).2 ∧ Hid (CutSt w b s y be bo (cutN s y n).1 wr)) (fun _ i _ => ((s.size : Int) - intOf i).toNat)
  case atStart => exact ⟨0, Nat.zero_le _, rfl, rfl, HST.out⟩
  case round =>
    clear HST w0
    obtain ⟨n, hn, rfl, rfl, HS⟩ := hrel
    obtain ⟨f, hf⟩ : ∃ f, f = (cutN s y n).2 := ⟨_, rfl⟩
    obtain ⟨l, hl⟩ : ∃ l, l = (cutN s y n).1 := ⟨_, rfl⟩
    have hfn : f ≤ n := by rw [hf]; exact (cutN_le s y n).1
    have hln : l.length ≤ n := by rw [hl]; exact (cutN_le s y n).2
    rw [← hf]
    rw [← hl] at HS
    have HF := Lib.hid hf
    have HL := Lib.hid hl
    clear hf hl
    by_cases hlt' : n < s.size
    · have hd : decide (n < s.size) = true := decide_eq_true hlt'
      have hd2 : decide ((n : Int) < (s.size : Int)) = true := decide_eq_true (by omega)
      go_wp2_with fail
      refine (same_calls _ y b wr HS.out.hb).mono ?_
      rintro e w1 ⟨rfl, rfl⟩
      have hbt : ((s[n].toNat : Nat) : Int) = bt s n := bt_at s n hlt'
      rw [hbt]
      by_cases hy : bt s n = y
      · have hb : (bt s n == y) = true := beq_iff_eq.2 hy
        have hcut : cutN s y (n + 1) = (l ++ [s.extract f n], n + 1) := by rw [cutN, if_pos hy, HF.out, HL.out]
        have HCUT := Lib.hid hcut
        clear hcut hy hbt
        go_wp2_with fail
        obtain ⟨v, hbo, hR⟩ := HS.out.out
        refine (put_calls (s.extract f n) be bo w.heap.size v l wr hbb hb1 hb2 HS.out.he hbo hR (by omega)).mono ?_
        rintro e w2 ⟨rfl, v', h1, h2, h3, h4⟩
        have HS2 := Lib.hid (show CutSt w b s y be bo (l ++ [s.extract f n]) w2 from ⟨(h4.block b hlt).trans HS.out.hb, h1, ⟨v', h2, h3⟩, HS.out.below.trans h4⟩)
        clear hbo hR h1 h2 h3 h4 HS
        go_wp2
        go_roundw
        case rel => exact ⟨n + 1, by omega, by simp, by rw [HCUT.out]; simp, by rw [HCUT.out]; exact HS2.out⟩
        case measure => simp [intOf]; omega
      · have hb : (bt s n == y) = false := beq_eq_false_iff_ne.2 hy
        have hcut : cutN s y (n + 1) = (l, f) := by rw [cutN, if_neg hy, HF.out, HL.out]
        have HCUT := Lib.hid hcut
        clear hcut hy hbt
        go_wp2
        go_roundw
        case rel => exact ⟨n + 1, by omega, by simp, by rw [HCUT.out], by rw [HCUT.out]; exact HS.out⟩
        case measure => simp [intOf]; omega
    · have hd : decide (n < s.size) = false := decide_eq_false hlt'
      have hd2 : decide ((n : Int) < (s.size : Int)) = false := decide_eq_false (by omega)
      obtain rfl : n = s.size := by omega
      go_wp2_with fail
      obtain ⟨v, hbo, hR⟩ := HS.out.out
      refine (put_calls (s.extract f s.size) be bo w.heap.size v l wr hbb hb1 hb2 HS.out.he hbo hR (by omega)).mono ?_
      rintro e w2 ⟨rfl, v', h1, h2, h3, h4⟩
      have c2 : w2.cell? ⟨bo, 0, none⟩ = some v' := blk_cell h2 0
      have H3 := Lib.hid h3
      have H4 := Lib.hid (HS.out.below.trans h4)
      clear hbo hR h1 h2 h3 h4
      go_wp2
      go_ret
      exact ⟨_, rfl, by unfold splitB; rw [← HL.out, ← HF.out]; exact Kd.R_mono H3.out (fun _ _ => trivial), H4.out⟩
theorem split_calls (s : ByteArray) (y : Int) (w : World) (hs : s.size < 8796093022207) :
    Calls Tryd.prog 19 #[.string s, .int .u8 y] w fun e w' => ∃ v, e = .returned v ∧ Kd.R Kd.string 9 w' w.heap.size (fun _ => True) v (splitB s y) ∧ Below w.heap.size w w' := by
  have hc := cut_calls s y w.heap.size (w.alloc (.cells #[.int .u8 y] 5)) hs (blk_new _ _)
  have HC := Lib.hid hc
  clear hc
  go_enter Tryd.func19, Tryd.ntmps19
  go_wp2_with (go_at_call 35; refine HC.out.mono ?_; rintro e w' ⟨v, rfl, hR, hB⟩; obtain ⟨A, c, rfl⟩ := Kd.R_slice hR; have HR := Lib.hid hR; have HB := Lib.hid hB; clear hR hB)
  go_ret
  exact ⟨_, rfl, Kd.R_lower HR.out (by simp), (below_alloc (Below.refl _ _) _).trans (HB.out.mono (by simp))⟩
end Go.Proofs.YtbhlmdaogdhjdaaDoor.H
