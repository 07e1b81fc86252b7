import Derived.Test.YtdccplnfnjpfpaaX
namespace Go.Proofs.Ytdccplnfnjpfpaa.X
open Go.RowKit Go.Proofs.YtdccplnfnjpfpaaW.PrintWords Go.Proofs.YtdccplnfnjpfpaaW.PrintLast Go.Proofs.YtdccplnfnjpfpaaW.PrintMore

/-! ### whole numbers as bits -/
theorem ofInt_wrap64 (x : BitVec 64) : BitVec.ofInt 64 (IntKind.i64.wrap (x.toNat : Int)) = x := by
  apply BitVec.eq_of_toNat_eq
  rw [BitVec.toNat_ofInt, IntKind.wrap_i64]
  have h := x.isLt
  have e : ((2 ^ 64 : Nat) : Int) = 18446744073709551616 := by decide
  have e2 : (2 ^ 64 : Nat) = 18446744073709551616 := by decide
  rw [e]
  rw [e2] at h
  omega
theorem and_low (a c : Int) (h : BitVec.ofInt 64 63 &&& BitVec.ofInt 64 c = BitVec.ofInt 64 c) : Go.bits .and .i64 (Go.bits .and .i64 a 63) c = Go.bits .and .i64 a c := by
  show IntKind.i64.wrap ((BitVec.ofInt 64 (IntKind.i64.wrap ((BitVec.ofInt 64 a &&& BitVec.ofInt 64 63).toNat : Int)) &&& BitVec.ofInt 64 c).toNat : Int) = IntKind.i64.wrap ((BitVec.ofInt 64 a &&& BitVec.ofInt 64 c).toNat : Int)
  rw [ofInt_wrap64, BitVec.and_assoc, h]
theorem and63 (n : Int) : Go.bits .and .i64 n 63 = n % 64 := by
  have h63 : (BitVec.ofInt 64 63).toNat = 2 ^ 6 - 1 := by decide
  have key : (BitVec.ofInt 64 n &&& BitVec.ofInt 64 63).toNat = (n % ((2 ^ 64 : Nat) : Int)).toNat % 2 ^ 6 := by
    rw [BitVec.toNat_and, BitVec.toNat_ofInt, h63, Nat.and_two_pow_sub_one_eq_mod]
  show IntKind.i64.wrap ((BitVec.ofInt 64 n &&& BitVec.ofInt 64 63).toNat : Nat) = n % 64
  rw [key, IntKind.wrap_i64]
  omega
theorem and_part (a c : Int) (h : BitVec.ofInt 64 63 &&& BitVec.ofInt 64 c = BitVec.ofInt 64 c) : Go.bits .and .i64 a c = Go.bits .and .i64 (a % 64) c := by
  rw [← and63, and_low a c h]
theorem w64 {x : Int} (h0 : -9223372036854775808 ≤ x) (h1 : x ≤ 9223372036854775807) : wrap64 x = x := by
  unfold wrap64; omega

/-! ### words of flags -/
theorem words_part (k : Nat) : ∀ (a : Int) (x2 : List ByteArray) (x : Int), sandbox_Words.l0 k a x2 boxNames 6 x = sandbox_Words.l0 k (a % 64) x2 boxNames 6 x := by
  induction k with
  | zero => intros; rfl
  | succ k ih =>
    intro a x2 x
    simp only [sandbox_Words.l0]
    by_cases h1 : x < 6
    · by_cases h0 : 0 ≤ x
      · have hs : BitVec.ofInt 64 63 &&& BitVec.ofInt 64 (shl .i64 1 x) = BitVec.ofInt 64 (shl .i64 1 x) := by
          have : ∀ n : Fin 6, BitVec.ofInt 64 63 &&& BitVec.ofInt 64 (shl .i64 1 (n.val : Int)) = BitVec.ofInt 64 (shl .i64 1 (n.val : Int)) := by decide +kernel
          have h2 := this ⟨x.toNat, by omega⟩
          rw [show ((⟨x.toNat, by omega⟩ : Fin 6).val : Int) = x from Int.toNat_of_nonneg h0] at h2
          exact h2
        rw [and_part a _ hs]
        simp only [ih a, ih (a % 64), Int.emod_emod_of_dvd a (Int.dvd_refl 64)]
      · rw [if_neg h0, if_neg h0]
    · rw [if_neg h1, if_neg h1]
theorem words_f_part (k : Nat) (a : Int) : sandbox_Words.f k a = sandbox_Words.f k (a % 64) := by
  unfold sandbox_Words.f
  rw [boxNames_eq]
  exact words_part k a _ _
/-- The words that leave a part away. -/
def wordsM (m : Nat) : List ByteArray := (sandbox_Words.f 20 (m : Int)).getD []
theorem wordsM_same : ∀ m : Fin 64, sandbox_Words.f 20 (m.val : Int) = some (wordsM m.val) ∧ glacisref12_Words.f 20 (m.val : Int) = some (wordsM m.val) := by decide +kernel
theorem part_fin (a : Int) : ∃ m : Fin 64, (m.val : Int) = a % 64 := ⟨⟨(a % 64).toNat, by omega⟩, by simp only; omega⟩
theorem words_ev (a : Int) {m : Fin 64} (hm : (m.val : Int) = a % 64) : Ev (fun k => sandbox_Words.f k a) (wordsM m.val) :=
  Ev.of (fun k => sandbox_Words.mono a k) (k := 20) (by rw [words_f_part, ← hm]; exact (wordsM_same m).1)
theorem refwords_part (k : Nat) (a : Int) : glacisref12_Words.f k a = glacisref12_Words.f k (a % 64) := by
  unfold glacisref12_Words.f glacisref12_Within.f
  rw [and63, and63, Int.emod_emod_of_dvd a (Int.dvd_refl 64)]
theorem refwords_ev (a : Int) {m : Fin 64} (hm : (m.val : Int) = a % 64) : Ev (fun k => glacisref12_Words.f k a) (wordsM m.val) :=
  Ev.of (fun k => glacisref12_Words.mono a k) (k := 20) (by rw [refwords_part, ← hm]; exact (wordsM_same m).2)

/-! ### what is left, as six tests -/
def enc (b0 b1 b2 b3 b4 b5 : Bool) : Int := (if b0 then 0 else 1) + (if b1 then 0 else 2) + (if b2 then 0 else 4) + (if b3 then 0 else 8) + (if b4 then 0 else 16) + (if b5 then 0 else 32)
def nameIs (i : Nat) (s : List UInt8) : Bool := decide (s = (boxNames.getD i ByteArray.empty).data.toList)
def hasW (i : Nat) (l : List ByteArray) : Bool := l.any (fun s => nameIs i (lowerB s).data.toList)
def encOf (l : List ByteArray) : Int := enc (hasW 0 l) (hasW 1 l) (hasW 2 l) (hasW 3 l) (hasW 4 l) (hasW 5 l)
theorem enc_step (s : List UInt8) : ∀ b0 b1 b2 b3 b4 b5 : Bool, Go.bits .andNot .i64 (enc b0 b1 b2 b3 b4 b5) (valUp boxNames 6 s) = enc (b0 || nameIs 0 s) (b1 || nameIs 1 s) (b2 || nameIs 2 s) (b3 || nameIs 3 s) (b4 || nameIs 4 s) (b5 || nameIs 5 s) := by
  have h5 : ∀ b0 b1 b2 b3 b4 b5 : Bool, ∀ i : Fin 6, Go.bits .andNot .i64 (enc b0 b1 b2 b3 b4 b5) (valUp boxNames 6 (boxNames.getD i.val ByteArray.empty).data.toList) = enc (b0 || nameIs 0 (boxNames.getD i.val ByteArray.empty).data.toList) (b1 || nameIs 1 (boxNames.getD i.val ByteArray.empty).data.toList) (b2 || nameIs 2 (boxNames.getD i.val ByteArray.empty).data.toList) (b3 || nameIs 3 (boxNames.getD i.val ByteArray.empty).data.toList) (b4 || nameIs 4 (boxNames.getD i.val ByteArray.empty).data.toList) (b5 || nameIs 5 (boxNames.getD i.val ByteArray.empty).data.toList) := by decide +kernel
  have h0 : ∀ b0 b1 b2 b3 b4 b5 : Bool, Go.bits .andNot .i64 (enc b0 b1 b2 b3 b4 b5) 0 = enc b0 b1 b2 b3 b4 b5 := by decide +kernel
  intro b0 b1 b2 b3 b4 b5
  by_cases e : ∃ i : Fin 6, s = (boxNames.getD i.val ByteArray.empty).data.toList
  · obtain ⟨i, rfl⟩ := e
    exact h5 b0 b1 b2 b3 b4 b5 i
  · have hn : ∀ i, i < 6 → nameIs i s = false := fun i hi => decide_eq_false (fun h => e ⟨⟨i, hi⟩, h⟩)
    have hv : valUp boxNames 6 s = 0 := by
      have hz : ∀ i, i < 6 → s ≠ (boxNames.getD i ByteArray.empty).data.toList := fun i hi h => e ⟨⟨i, hi⟩, h⟩
      simp only [valUp]
      rw [if_neg (hz 5 (by omega)), if_neg (hz 4 (by omega)), if_neg (hz 3 (by omega)), if_neg (hz 2 (by omega)), if_neg (hz 1 (by omega)), if_neg (hz 0 (by omega))]
    rw [hv, h0, hn 0 (by omega), hn 1 (by omega), hn 2 (by omega), hn 3 (by omega), hn 4 (by omega), hn 5 (by omega)]
    simp only [Bool.or_false]
theorem flags_fold (l : List ByteArray) : ∀ b0 b1 b2 b3 b4 b5 : Bool, l.foldl (fun o s => Go.bits .andNot .i64 o (valUp boxNames 6 (lowerB s).data.toList)) (enc b0 b1 b2 b3 b4 b5) = enc (b0 || hasW 0 l) (b1 || hasW 1 l) (b2 || hasW 2 l) (b3 || hasW 3 l) (b4 || hasW 4 l) (b5 || hasW 5 l) := by
  induction l with
  | nil => intros; simp [hasW]
  | cons s l ih =>
    intro b0 b1 b2 b3 b4 b5
    rw [List.foldl_cons, enc_step, ih]
    simp only [hasW, List.any_cons, Bool.or_assoc]
theorem flagsOf_enc (l : List ByteArray) : flagsOf boxNames l = encOf l := by
  have h := flags_fold l false false false false false false
  simp only [Bool.false_or] at h
  exact h
theorem enc_fin (b0 b1 b2 b3 b4 b5 : Bool) : 0 ≤ enc b0 b1 b2 b3 b4 b5 ∧ enc b0 b1 b2 b3 b4 b5 ≤ 63 := by
  revert b0 b1 b2 b3 b4 b5; decide +kernel
theorem encOf_fin (l : List ByteArray) : ∃ m : Fin 64, (m.val : Int) = encOf l := by
  have := enc_fin (hasW 0 l) (hasW 1 l) (hasW 2 l) (hasW 3 l) (hasW 4 l) (hasW 5 l)
  exact ⟨⟨(encOf l).toNat, by unfold encOf; omega⟩, by simp only [encOf]; omega⟩
/-- All of some length. -/
def okL (l : List ByteArray) : Prop := ∀ s ∈ l, s.size ≤ 9223372036854775807
theorem flags_f (l : List ByteArray) (h : okL l) : sandbox_Flags.f l = some (encOf l) := by
  unfold sandbox_Flags.f
  rw [if_pos (List.all_eq_true.mpr (fun s hs => decide_eq_true (h s hs))), flagsOf_enc]

/-! ### the other text's flags -/
theorem refnames : glacisref12_names.f = some boxNames := by decide +kernel
theorem lower_f (s : ByteArray) (h : s.size ≤ 9223372036854775807) : glacisref01_Lower.f s = some (lowerB s) := by
  unfold glacisref01_Lower.f; rw [if_pos h]
theorem rdOf_eq (l : List ByteArray) (x : Int) : rdOf ByteArray.empty l x = l.getD x.toNat ByteArray.empty := rfl
theorem ref_inner (l : List ByteArray) (hl : okL l) (hlen : l.length ≤ 9223372036854775806) (x4 x5 x6 : Int) (h60 : 0 ≤ x6) (h66 : x6 < 6) (r : Int) : ∀ (d : Nat) (x7 : Bool) (x8 : Int), 0 ≤ x8 → x8 + d = (l.length : Int) →
    Ev (fun k => glacisref12_Flags.l0 k l boxNames (if (x7 || (l.drop x8.toNat).any (fun s => nameIs x6.toNat (lowerB s).data.toList)) = true then x4 else wrap64 (x4 + x5)) (wrap64 (2 * x5)) (wrap64 (x6 + 1))) r →
    Ev (fun k => glacisref12_Flags.l1 k l boxNames x4 x5 x6 x7 x8) r := by
  intro d
  induction d with
  | zero =>
    intro x7 x8 h0 hd hr
    have hz : l.drop x8.toNat = [] := List.drop_of_length_le (by omega)
    rw [hz] at hr
    simp only [List.any_nil, Bool.or_false] at hr
    refine Ev.step (f := fun k => glacisref12_Flags.l0 k l boxNames (if x7 = true then x4 else wrap64 (x4 + x5)) (wrap64 (2 * x5)) (wrap64 (x6 + 1))) (fun k => ?_) hr
    simp only [glacisref12_Flags.l1]
    rw [if_neg (by omega)]
    cases x7 <;> simp
  | succ d ih =>
    intro x7 x8 h0 hd hr
    have hlt : x8.toNat < l.length := by omega
    have hmem : l[x8.toNat] ∈ l := List.getElem_mem hlt
    have hrd : rdOf ByteArray.empty l x8 = l[x8.toNat] := by rw [rdOf_eq, List.getD_eq_getElem?_getD, List.getElem?_eq_getElem hlt]; rfl
    have hw : wrap64 (x8 + 1) = x8 + 1 := w64 (by omega) (by omega)
    have hdrop : l.drop x8.toNat = l[x8.toNat] :: l.drop (x8 + 1).toNat := by
      rw [show (x8 + 1).toNat = x8.toNat + 1 by omega]; exact List.drop_eq_getElem_cons hlt
    rw [hdrop] at hr
    simp only [List.any_cons, ← Bool.or_assoc] at hr
    refine Ev.step (f := fun k => glacisref12_Flags.l1 k l boxNames x4 x5 x6 (x7 || nameIs x6.toNat (lowerB l[x8.toNat]).data.toList) (x8 + 1)) (fun k => ?_) (ih _ _ (by omega) (by omega) hr)
    simp only [glacisref12_Flags.l1]
    rw [if_pos (by omega), if_pos h0, hrd, lower_f _ (hl _ hmem)]
    simp only [Option.bind_some]
    rw [if_pos h60, if_pos (by rw [boxNames_len]; omega), hw]
    cases x7
    · rw [if_neg (by simp), Bool.false_or]
      congr 1
      rw [ByteArray.toList_eq, ByteArray.toList_eq, rdOf_eq]
      unfold nameIs
      rw [Bool.eq_iff_iff]
      simp
    · rw [if_pos rfl, Bool.true_or]
theorem ref_round (l : List ByteArray) (hl : okL l) (hlen : l.length ≤ 9223372036854775806) (x4 x5 x6 : Int) (h60 : 0 ≤ x6) (h66 : x6 < 6) (r : Int)
    (h : Ev (fun k => glacisref12_Flags.l0 k l boxNames (if hasW x6.toNat l = true then x4 else wrap64 (x4 + x5)) (wrap64 (2 * x5)) (x6 + 1)) r) : Ev (fun k => glacisref12_Flags.l0 k l boxNames x4 x5 x6) r := by
  refine Ev.step (f := fun k => glacisref12_Flags.l1 k l boxNames x4 x5 x6 false 0) (fun k => ?_) (ref_inner l hl hlen x4 x5 x6 h60 h66 r l.length false 0 (by omega) (by omega) ?_)
  · simp only [glacisref12_Flags.l0]
    rw [if_pos (by rw [boxNames_len]; omega)]
  · rw [w64 (x := x6 + 1) (by omega) (by omega)]
    simpa [hasW] using h
theorem refflags_ev (l : List ByteArray) (hl : okL l) (hlen : l.length ≤ 9223372036854775806) : Ev (fun k => glacisref12_Flags.f k l) (encOf l) := by
  unfold glacisref12_Flags.f
  rw [refnames]
  simp only [Option.bind_some]
  have hsum : ∀ b0 b1 b2 b3 b4 b5 : Bool,
      (let o0 := if b0 = true then 0 else wrap64 (0 + 1); let o1 := if b1 = true then o0 else wrap64 (o0 + wrap64 (2 * 1)); let o2 := if b2 = true then o1 else wrap64 (o1 + wrap64 (2 * wrap64 (2 * 1)));
        let o3 := if b3 = true then o2 else wrap64 (o2 + wrap64 (2 * wrap64 (2 * wrap64 (2 * 1)))); let o4 := if b4 = true then o3 else wrap64 (o3 + wrap64 (2 * wrap64 (2 * wrap64 (2 * wrap64 (2 * 1)))));
        if b5 = true then o4 else wrap64 (o4 + wrap64 (2 * wrap64 (2 * wrap64 (2 * wrap64 (2 * wrap64 (2 * 1))))))) = enc b0 b1 b2 b3 b4 b5 := by decide +kernel
  refine ref_round l hl hlen _ _ _ (by omega) (by omega) _ (ref_round l hl hlen _ _ _ (by omega) (by omega) _ (ref_round l hl hlen _ _ _ (by omega) (by omega) _ (ref_round l hl hlen _ _ _ (by omega) (by omega) _ (ref_round l hl hlen _ _ _ (by omega) (by omega) _ (ref_round l hl hlen _ _ _ (by omega) (by omega) _ ?_)))))
  refine Ev.step (f := fun _ => some (encOf l)) (fun k => ?_) (Ev.now _)
  simp only [glacisref12_Flags.l0]
  rw [if_neg (by rw [boxNames_len]; omega)]
  congr 1
  exact hsum (hasW 0 l) (hasW 1 l) (hasW 2 l) (hasW 3 l) (hasW 4 l) (hasW 5 l)
end Go.Proofs.Ytdccplnfnjpfpaa.X
