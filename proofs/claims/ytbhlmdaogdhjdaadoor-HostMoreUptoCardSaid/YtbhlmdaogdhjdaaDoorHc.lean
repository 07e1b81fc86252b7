import Derived.Test.YtbhlmdaogdhjdaaDoorHb
import Derived.Lib.Hide
/-! host.labels, digit, small, fits. -/
namespace Go.Proofs.YtbhlmdaogdhjdaaDoor.H
open Go.RowKit Go.Proofs.YtbhlmdaogdhjdaaDoorW.PrintWords

theorem labels_calls (s : ByteArray) (w : World) : Calls Tryd.prog 21 #[.string s] w fun e w' => e = .returned (.func (.func 37) #[] #[.pointer (some ⟨w.heap.size, 0, none⟩)]) ∧ w' = w.alloc (.cells #[.string s] 9) := by
  go_enter Tryd.func21, Tryd.ntmps21
  go_wp2
  go_ret
  exact ⟨rfl, rfl⟩
def digitB (c : Int) : Bool := decide (48 ≤ c) && decide (c ≤ 57)
def smallB (c : Int) : Bool := (decide (97 ≤ c) && decide (c ≤ 122)) || digitB c || c == 45 || c == 95
theorem digit_calls (c : Int) (w : World) : Calls Tryd.prog 24 #[.int .u8 c] w fun e w' => e = .returned (.bool (digitB c)) ∧ w = w' := by
  unfold digitB
  by_cases h1 : 48 ≤ c
  all_goals by_cases h2 : c ≤ 57
  all_goals
    simp only [h1, h2, decide_true, decide_false, Bool.and_true, Bool.and_false]
    go_enter Tryd.func24, Tryd.ntmps24
    go_wp2
    go_ret
    exact ⟨by simp_all, rfl⟩
set_option maxHeartbeats 2000000 in
theorem small_calls (c : Int) (w : World) : Calls Tryd.prog 23 #[.int .u8 c] w fun e w' => e = .returned (.bool (smallB c)) ∧ w = w' := by
  have hd := digit_calls c w
  have HD := Lib.hid hd
  clear hd
  obtain ⟨d, hd⟩ : ∃ d, d = digitB c := ⟨_, rfl⟩
  unfold smallB
  rw [← hd] at HD ⊢
  clear hd
  by_cases h1 : 97 ≤ c
  all_goals by_cases h2 : c ≤ 122
  all_goals obtain ⟨b3, h3⟩ : ∃ b, (c == 45) = b := ⟨_, rfl⟩
  all_goals cases b3
  all_goals cases d
  all_goals have G1 := Lib.hid h1
  all_goals have G2 := Lib.hid h2
  all_goals have G3 := Lib.hid h3
  all_goals
    go_enter Tryd.func23, Tryd.ntmps23
    go_wp2_with (go_at_call 24; refine HD.out.mono ?_; rintro e w1 ⟨rfl, rfl⟩)
    go_ret
    have g1 := G1.out
    have g2 := G2.out
    have g3 := G3.out
    exact ⟨by first | (simp_all; done) | (simp_all; intros; omega), rfl⟩
def fitsB (p : Int → Bool) (s : ByteArray) : Bool := (List.range s.size).all fun (i : Nat) => p (bt s i)
theorem fitsB_no {p : Int → Bool} {s : ByteArray} (k : Nat) (hk : k < s.size) (h : p (bt s k) = false) : fitsB p s = false := by
  unfold fitsB
  rw [List.all_eq_false]
  exact ⟨k, List.mem_range.2 hk, by simp [h]⟩
theorem fitsB_yes {p : Int → Bool} {s : ByteArray} (h : ∀ k : Nat, k < s.size → p (bt s k) = true) : fitsB p s = true := by
  unfold fitsB
  rw [List.all_eq_true]
  exact fun k hk => h k (List.mem_range.1 hk)
theorem fits_small (s : ByteArray) (w : World) (hs : s.size ≤ 9223372036854775806) : Calls Tryd.prog 22 #[.string s, .func (.func 23) #[] #[]] w fun e w' => e = .returned (.bool (fitsB smallB s)) ∧ w = w' := by
  go_enter Tryd.func22, Tryd.ntmps22
  go_wp2_with fail
  go_loopw [8] (fun i wr => ∃ k : Nat, k ≤ s.size ∧ i = .int .i64 k ∧ wr = w ∧ Hid (∀ j : Nat, j < k → smallB (bt s j) = true)) (fun i _ => ((s.size : Int) - intOf i).toNat)
  case atStart => exact ⟨0, Nat.zero_le _, rfl, rfl, fun j hj => by omega⟩
  case round =>
    obtain ⟨k, hk, rfl, rfl, HA⟩ := hrel
    by_cases hlt : k < s.size
    · have hbt : ((s[k].toNat : Nat) : Int) = bt s k := bt_at s k hlt
      have HBT := Lib.hid hbt
      clear hbt
      go_wp2_with fail
      rw [HBT.out]
      refine (small_calls _ _).mono ?_
      rintro e w1 ⟨rfl, rfl⟩
      obtain ⟨r, hr⟩ : ∃ r, r = smallB (bt s k) := ⟨_, rfl⟩
      rw [← hr]
      have HR := Lib.hid hr
      clear hr HBT
      cases r
      · go_wp2
        go_ret
        exact ⟨by rw [fitsB_no k hlt HR.out.symm]; rfl, rfl⟩
      · go_wp2
        go_roundw
        case rel => exact ⟨k + 1, by omega, by simp, by first | rfl | trivial, fun j hj => by
          rcases Nat.lt_or_ge j k with h | h
          · exact HA.out j h
          · obtain rfl : j = k := by omega
            exact HR.out.symm⟩
        case measure => simp [intOf]; omega
    · obtain rfl : k = s.size := by omega
      go_wp2
      go_ret
      exact ⟨by rw [fitsB_yes HA.out]; rfl, rfl⟩
theorem fits_digit (s : ByteArray) (w : World) (hs : s.size ≤ 9223372036854775806) : Calls Tryd.prog 22 #[.string s, .func (.func 24) #[] #[]] w fun e w' => e = .returned (.bool (fitsB digitB s)) ∧ w = w' := by
  go_enter Tryd.func22, Tryd.ntmps22
  go_wp2_with fail
  go_loopw [8] (fun i wr => ∃ k : Nat, k ≤ s.size ∧ i = .int .i64 k ∧ wr = w ∧ Hid (∀ j : Nat, j < k → digitB (bt s j) = true)) (fun i _ => ((s.size : Int) - intOf i).toNat)
  case atStart => exact ⟨0, Nat.zero_le _, rfl, rfl, fun j hj => by omega⟩
  case round =>
    obtain ⟨k, hk, rfl, rfl, HA⟩ := hrel
    by_cases hlt : k < s.size
    · have hbt : ((s[k].toNat : Nat) : Int) = bt s k := bt_at s k hlt
      have HBT := Lib.hid hbt
      clear hbt
      go_wp2_with fail
      rw [HBT.out]
      refine (digit_calls _ _).mono ?_
      rintro e w1 ⟨rfl, rfl⟩
      obtain ⟨r, hr⟩ : ∃ r, r = digitB (bt s k) := ⟨_, rfl⟩
      rw [← hr]
      have HR := Lib.hid hr
      clear hr HBT
      cases r
      · go_wp2
        go_ret
        exact ⟨by rw [fitsB_no k hlt HR.out.symm]; rfl, rfl⟩
      · go_wp2
        go_roundw
        case rel => exact ⟨k + 1, by omega, by simp, by first | rfl | trivial, fun j hj => by
          rcases Nat.lt_or_ge j k with h | h
          · exact HA.out j h
          · obtain rfl : j = k := by omega
            exact HR.out.symm⟩
        case measure => simp [intOf]; omega
    · obtain rfl : k = s.size := by omega
      go_wp2
      go_ret
      exact ⟨by rw [fitsB_yes HA.out]; rfl, rfl⟩
end Go.Proofs.YtbhlmdaogdhjdaaDoor.H
