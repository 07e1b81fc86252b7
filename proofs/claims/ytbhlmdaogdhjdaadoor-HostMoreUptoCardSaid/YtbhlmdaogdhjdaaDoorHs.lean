import Derived.Test.YtbhlmdaogdhjdaaDoorZa
import Derived.Test.YtbhlmdaogdhjdaaDoorHr
/-! The reference's small functions are the program's own: Split, label, digits, Texts, ends. -/
namespace Go.Proofs.YtbhlmdaogdhjdaaDoor.H
open Go.RowKit Go.Proofs.YtbhlmdaogdhjdaaDoorW.PrintWords Go.Proofs.YtbhlmdaogdhjdaaDoorW.PrintLast Go.Proofs.YtbhlmdaogdhjdaaDoorW.PrintMore Go.Proofs.YtbhlmdaogdhjdaaDoor.Z
set_option linter.unusedVariables false

theorem ref_split_l0 (s : ByteArray) (y : Int) (hs : s.size < 8796093022207) : ∀ (d k i : Nat), i + d = s.size → d + 1 < k → glacisref01_Split.l0 k s y (cutN s y i).1 ((cutN s y i).2 : Int) (i : Int) = some (splitB s y) := by
  intro d
  induction d with
  | zero =>
    intro k i hi hk
    obtain ⟨k, rfl⟩ : ∃ m, k = m + 2 := ⟨k - 2, by omega⟩
    obtain rfl : i = s.size := by omega
    have hc := cutN_le s y s.size
    have w1 : wrap64 ((s.size : Int) + 1) = (s.size : Int) + 1 := by unfold wrap64; omega
    rw [glacisref01_Split.l0, if_pos (by omega), if_pos rfl, if_pos (by omega), if_pos (by omega), if_pos (by omega), w1, glacisref01_Split.l0, if_neg (by omega)]
    rfl
  | succ d ih =>
    intro k i hi hk
    obtain ⟨k, rfl⟩ : ∃ m, k = m + 1 := ⟨k - 1, by omega⟩
    have hc := cutN_le s y i
    have w1 : wrap64 ((i : Int) + 1) = ((i + 1 : Nat) : Int) := by unfold wrap64; omega
    have ih' := ih k (i + 1) (by omega) (by omega)
    rw [glacisref01_Split.l0, if_pos (by omega), if_neg (by omega), if_pos (by omega), if_pos (by omega), w1]
    rw [cutN] at ih'
    by_cases hy : bt s i = y
    · rw [if_pos hy] at ih'
      rw [if_pos hy, if_pos (by omega), if_pos (by omega), if_pos (by omega)]
      exact ih'
    · rw [if_neg hy] at ih'
      rw [if_neg hy]
      exact ih'
theorem ref_split_calls (s : ByteArray) (w : World) (hs : s.size < 8796093022207) :
    Calls Tryd.prog 26 #[.string s, .int .u8 46] w fun e w' => ∃ v, e = .returned v ∧ Kd.R Kd.string 9 w' w.heap.size (fun _ => True) v (splitB s 46) ∧ Below w.heap.size w w' :=
  glacisref01_Split.calls (s.size + 2) s 46 _ w (ref_split_l0 s 46 hs s.size (s.size + 2) 0 (by omega) (by omega))
theorem fits_step (p : Int → Bool) (s : ByteArray) (i : Nat) (h : ∀ j : Nat, j < i → p (bt s j) = true) (hi : s.size ≤ i) : fitsB p s = true := fitsB_yes fun k hk => h k (by omega)
theorem ref_digits_l0 (s : ByteArray) (hs : s.size ≤ 9223372036854775806) : ∀ (d k i : Nat), i + d = s.size → d < k → (∀ j : Nat, j < i → digitB (bt s j) = true) → glacisref02_digits.l0 k s (i : Int) = some (fitsB digitB s) := by
  intro d
  induction d with
  | zero =>
    intro k i hi hk h
    obtain ⟨k, rfl⟩ : ∃ m, k = m + 1 := ⟨k - 1, by omega⟩
    rw [glacisref02_digits.l0, if_neg (by omega), fits_step digitB s i h (by omega)]
  | succ d ih =>
    intro k i hi hk h
    obtain ⟨k, rfl⟩ : ∃ m, k = m + 1 := ⟨k - 1, by omega⟩
    have w1 : wrap64 ((i : Int) + 1) = ((i + 1 : Nat) : Int) := by unfold wrap64; omega
    rw [glacisref02_digits.l0, if_pos (by omega), if_pos (by omega), w1]
    by_cases h1 : bt s i < 48
    · rw [if_pos h1, fitsB_no i (by omega) (by unfold digitB; rw [decide_eq_false (by omega), Bool.false_and])]
    · rw [if_neg h1]
      by_cases h2 : bt s i > 57
      · rw [if_pos h2, fitsB_no i (by omega) (by unfold digitB; rw [decide_eq_false (show ¬ bt s i ≤ 57 by omega), Bool.and_false])]
      · rw [if_neg h2]
        refine ih k (i + 1) (by omega) (by omega) (fun j hj => ?_)
        by_cases e : j = i
        · subst e; unfold digitB; rw [decide_eq_true (by omega), decide_eq_true (by omega)]; rfl
        · exact h j (by omega)
theorem ref_digits_calls (s : ByteArray) (w : World) (hs : s.size ≤ 9223372036854775806) : Calls Tryd.prog 28 #[.string s] w fun e w' => e = .returned (.bool (fitsB digitB s)) ∧ Drawn0 w w' :=
  glacisref02_digits.calls (s.size + 1) s _ w (ref_digits_l0 s hs s.size (s.size + 1) 0 (by omega) (by omega) (fun j hj => by omega))
theorem small_iff (c : Int) : smallB c = true ↔ (97 ≤ c ∧ c ≤ 122) ∨ (48 ≤ c ∧ c ≤ 57) ∨ c = 45 ∨ c = 95 := by
  unfold smallB digitB
  simp only [Bool.or_eq_true, Bool.and_eq_true, decide_eq_true_eq, beq_iff_eq]
  omega
theorem ref_label_l0 (s : ByteArray) (hs : s.size ≤ 9223372036854775806) : ∀ (d k i : Nat), i + d = s.size → d < k → (∀ j : Nat, j < i → smallB (bt s j) = true) → glacisref02_label.l0 k s (i : Int) = some (fitsB smallB s) := by
  intro d
  induction d with
  | zero =>
    intro k i hi hk h
    obtain ⟨k, rfl⟩ : ∃ m, k = m + 1 := ⟨k - 1, by omega⟩
    rw [glacisref02_label.l0, if_neg (by omega), fits_step smallB s i h (by omega)]
  | succ d ih =>
    intro k i hi hk h
    obtain ⟨k, rfl⟩ : ∃ m, k = m + 1 := ⟨k - 1, by omega⟩
    have w1 : wrap64 ((i : Int) + 1) = ((i + 1 : Nat) : Int) := by unfold wrap64; omega
    have good : smallB (bt s i) = true → glacisref02_label.l0 k s ((i + 1 : Nat) : Int) = some (fitsB smallB s) := fun hg => by
      refine ih k (i + 1) (by omega) (by omega) (fun j hj => ?_)
      by_cases e : j = i
      · subst e; exact hg
      · exact h j (by omega)
    have bad : smallB (bt s i) = false → some false = some (fitsB smallB s) := fun hg => by rw [fitsB_no i (by omega) hg]
    have hi' := small_iff (bt s i)
    have hf : ¬ smallB (bt s i) = true → smallB (bt s i) = false := fun h => by simpa using h
    rw [glacisref02_label.l0, if_pos (by omega), if_pos (by omega), w1]
    repeat' split
    all_goals first
      | exact good (hi'.2 (by omega))
      | exact bad (hf (fun h => by have := hi'.1 h; omega))
theorem ref_label_calls (s : ByteArray) (w : World) (hs : s.size ≤ 9223372036854775806) : Calls Tryd.prog 27 #[.string s] w fun e w' => e = .returned (.bool (labelB s)) ∧ Drawn0 w w' := by
  refine glacisref02_label.calls (s.size + 2) s _ w ?_
  unfold glacisref02_label.f labelB
  by_cases h1 : (s.size : Int) < 1
  · rw [if_pos h1, glacisref02_label.j0, if_pos rfl, decide_eq_false (show ¬ 1 ≤ s.size by omega)]; rfl
  · rw [if_neg h1, decide_eq_true (show 1 ≤ s.size by omega), glacisref02_label.j0]
    by_cases h2 : (s.size : Int) > 63
    · rw [decide_eq_true h2, if_pos rfl, decide_eq_false (show ¬ s.size ≤ 63 by omega)]; rfl
    · rw [decide_eq_false h2, if_neg (by simp), decide_eq_true (show s.size ≤ 63 by omega)]
      exact ref_label_l0 s hs s.size (s.size + 1) 0 (by omega) (by omega) (fun j hj => by omega)
theorem toList_inj (a b : ByteArray) : a.toList = b.toList ↔ a = b := by
  rw [ByteArray.toList_eq, ByteArray.toList_eq]
  exact ⟨ba_ext, fun h => by rw [h]⟩
theorem ref_texts_l0 (xs ys : List ByteArray) (hl : xs.length = ys.length) (hn : xs.length ≤ 9223372036854775806) : ∀ (d k i : Nat), i + d = xs.length → d < k → xs.take i = ys.take i → glacisref01_Texts.l0 k xs ys (i : Int) = some (decide (xs = ys)) := by
  intro d
  induction d with
  | zero =>
    intro k i hi hk h
    obtain ⟨k, rfl⟩ : ∃ m, k = m + 1 := ⟨k - 1, by omega⟩
    rw [List.take_of_length_le (by omega), List.take_of_length_le (by omega)] at h
    rw [glacisref01_Texts.l0, if_neg (by omega), decide_eq_true h]
  | succ d ih =>
    intro k i hi hk h
    obtain ⟨k, rfl⟩ : ∃ m, k = m + 1 := ⟨k - 1, by omega⟩
    have w1 : wrap64 ((i : Int) + 1) = ((i + 1 : Nat) : Int) := by unfold wrap64; omega
    have hx : i < xs.length := by omega
    have hy : i < ys.length := by omega
    have e1 : rdOf ByteArray.empty xs (i : Int) = xs[i] := by simp [rdOf, hx]
    have e2 : rdOf ByteArray.empty ys (i : Int) = ys[i] := by simp [rdOf, hy]
    rw [glacisref01_Texts.l0, if_pos (by omega), if_pos (by omega), if_pos (by omega), w1, e1, e2]
    by_cases h1 : xs[i] = ys[i]
    · rw [if_pos ((toList_inj _ _).2 h1)]
      refine ih k (i + 1) (by omega) (by omega) ?_
      rw [List.take_succ_eq_append_getElem hx, List.take_succ_eq_append_getElem hy, h, h1]
    · rw [if_neg (fun e => h1 ((toList_inj _ _).1 e)), decide_eq_false (fun e => h1 (by simp [e]))]
theorem ref_ends_calls (A : Option Addr) (c : Nat) (zs : List ByteArray) (B : Option Addr) (c' : Nat) (ss : List ByteArray) (w : World) (hA : Kd.C Kd.string w A zs.length zs) (hc : zs.length ≤ c) (hB : Kd.C Kd.string w B ss.length ss) (hc' : ss.length ≤ c') (hn : zs.length ≤ 9223372036854775806) :
    Calls Tryd.prog 34 #[.slice A zs.length c, .slice B ss.length c'] w fun e w' => e = .returned (.bool (endsB zs ss)) ∧ Drawn0 w w' := by
  refine glacisref02_ends.calls (zs.length + 2) A c zs B c' ss _ w hA hc hB hc' ?_
  unfold glacisref02_ends.f endsB
  by_cases h1 : (ss.length : Int) > (zs.length : Int)
  · rw [if_pos h1, decide_eq_false (show ¬ ss.length ≤ zs.length by omega)]; rfl
  · have w1 : wrap64 ((zs.length : Int) - (ss.length : Int)) = (zs.length : Int) - (ss.length : Int) := by unfold wrap64; omega
    have e1 : ((zs.length : Int) - (ss.length : Int)).toNat = zs.length - ss.length := by omega
    rw [if_neg h1, w1, if_pos (by omega), if_pos (by omega), e1, decide_eq_true (show ss.length ≤ zs.length by omega), Bool.true_and]
    have hd : (zs.drop (zs.length - ss.length)).length = ss.length := by rw [List.length_drop]; omega
    have hT : glacisref01_Texts.f (zs.length + 2) (zs.drop (zs.length - ss.length)) ss = some (decide (zs.drop (zs.length - ss.length) = ss)) := by
      unfold glacisref01_Texts.f
      rw [if_pos (by omega)]
      exact ref_texts_l0 _ _ hd (by omega) ss.length _ 0 (by omega) (by omega) rfl
    rw [hT]
    rfl
end Go.Proofs.YtbhlmdaogdhjdaaDoor.H
