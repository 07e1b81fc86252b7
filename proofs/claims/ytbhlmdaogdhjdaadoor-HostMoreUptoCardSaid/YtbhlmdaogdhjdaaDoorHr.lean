import Derived.Test.YtbhlmdaogdhjdaaDoorHq
import Derived.Test.YtbhlmdaogdhjdaaDoorHk
/-! The plain laws of the chapter: what is read, its text, its site. -/
namespace Go.Proofs.YtbhlmdaogdhjdaaDoor.H
open Go.RowKit Go.Proofs.YtbhlmdaogdhjdaaDoorW.PrintWords
set_option linter.unusedVariables false

theorem oct_range (a : Int) (k : Nat) : 0 ≤ a / 2 ^ (24 - 8 * k) % 256 ∧ a / 2 ^ (24 - 8 * k) % 256 < 256 := ⟨Int.emod_nonneg _ (by decide), Int.emod_lt_of_pos _ (by decide)⟩
theorem octB_ok (a : Int) (k : Nat) : numB (octB a k) = (a / 2 ^ (24 - 8 * k) % 256, true) ∧ labelB (octB a k) = true ∧ fitsB digitB (octB a k) = true ∧ (46 : UInt8) ∉ (octB a k).data.toList ∧ lowerB (octB a k) = octB a k := by
  have h := oct_range a k
  have h2 := itoa_ok ⟨(a / 2 ^ (24 - 8 * k) % 256).toNat, by omega⟩
  simp only [Int.toNat_of_nonneg h.1] at h2
  exact ⟨h2.1, h2.2.1, h2.2.2.1, by simpa [octB] using h2.2.2.2.1, h2.2.2.2.2⟩
theorem lower_list (s : ByteArray) : (lowerB s).data.toList = s.data.toList.map fun c => UInt8.ofNat (lowI (c.toNat : Int)).toNat := by
  simp [lowerB, strOfNums, bytesOf, List.map_map, Function.comp_def]
theorem low_low : ∀ c : Fin 256, lowI ((UInt8.ofNat (lowI ((UInt8.ofNat c.val).toNat : Int)).toNat).toNat : Int) = lowI ((UInt8.ofNat c.val).toNat : Int) := by decide +kernel
theorem low_u8 (c : UInt8) : UInt8.ofNat (lowI ((UInt8.ofNat (lowI (c.toNat : Int)).toNat).toNat : Int)).toNat = UInt8.ofNat (lowI (c.toNat : Int)).toNat := by
  have h := low_low ⟨c.toNat, c.toNat_lt⟩
  simp only [UInt8.ofNat_toNat] at h
  rw [h]
theorem lower_lower (s : ByteArray) : lowerB (lowerB s) = lowerB s := by
  apply ba_ext
  rw [lower_list, lower_list, List.map_map]
  apply List.map_congr_left
  intro c _
  exact low_u8 c
theorem lower_point (a b : ByteArray) : lowerB (a ++ ⟨#[46]⟩ ++ b) = lowerB a ++ ⟨#[46]⟩ ++ lowerB b := by
  apply ba_ext
  have hp : (UInt8.ofNat (lowI ((46 : UInt8).toNat : Int)).toNat) = 46 := by decide
  rw [lower_list]
  simp only [ByteArray.data_append, Array.toList_append, List.map_append, lower_list, List.map_cons, List.map_nil, hp]
theorem split_point (a b : ByteArray) : splitB (a ++ ⟨#[46]⟩ ++ b) 46 = splitB a 46 ++ splitB b 46 := by
  apply map_inj
  rw [List.map_append, splitB_lists, splitB_lists, splitB_lists]
  simp only [ByteArray.data_append, Array.toList_append, List.append_assoc]
  exact splitL_dot _ _
theorem split_text (a : Int) : splitB (textB a) 46 = [octB a 0, octB a 1, octB a 2, octB a 3] := by
  apply map_inj
  rw [splitB_lists]
  show splitL (Lib.join ([octB a 0, octB a 1, octB a 2, octB a 3].map (·.data.toList)) [46]) = _
  refine split_join _ (by simp) (fun x hx => ?_)
  simp only [List.map_cons, List.map_nil, List.mem_cons, List.not_mem_nil, or_false] at hx
  rcases hx with rfl | rfl | rfl | rfl
  · exact (octB_ok a 0).2.2.2.1
  · exact (octB_ok a 1).2.2.2.1
  · exact (octB_ok a 2).2.2.2.1
  · exact (octB_ok a 3).2.2.2.1
theorem text_list (a : Int) : (textB a).data.toList = (octB a 0).data.toList ++ 46 :: ((octB a 1).data.toList ++ 46 :: ((octB a 2).data.toList ++ 46 :: (octB a 3).data.toList)) := by
  show Lib.join ([octB a 0, octB a 1, octB a 2, octB a 3].map (·.data.toList)) [46] = _
  simp only [List.map_cons, List.map_nil]
  rw [join_two _ _ (by simp), join_two _ _ (by simp), join_two _ _ (by simp), Lib.join_one]
theorem lower_text (a : Int) : lowerB (textB a) = textB a := by
  apply ba_ext
  have hp : (UInt8.ofNat (lowI ((46 : UInt8).toNat : Int)).toNat) = 46 := by decide
  have h : ∀ k, (octB a k).data.toList.map (fun c => UInt8.ofNat (lowI (c.toNat : Int)).toNat) = (octB a k).data.toList := fun k => by
    rw [← lower_list, (octB_ok a k).2.2.2.2]
  rw [lower_list, text_list]
  simp only [List.map_append, List.map_cons, h, hp]
theorem text_size (a : Int) : (textB a).size ≤ 15 ∧ 0 < (textB a).size := by
  have h := congrArg List.length (text_list a)
  rw [data_length] at h
  simp only [List.length_append, List.length_cons] at h
  have h0 := octB_len a 0
  have h1 := octB_len a 1
  have h2 := octB_len a 2
  have h3 := octB_len a 3
  omega
theorem addr_parts (a : Int) (h0 : 0 ≤ a) (h1 : a ≤ 4294967295) : addrStep (addrStep (addrStep (addrStep 0 (a / 2 ^ (24 - 8 * 0) % 256)) (a / 2 ^ (24 - 8 * 1) % 256)) (a / 2 ^ (24 - 8 * 2) % 256)) (a / 2 ^ (24 - 8 * 3) % 256) = a := by
  unfold addrStep
  simp only [Nat.reduceMul, Nat.reduceSub, Int.reducePow]
  omega
theorem text_parse (a : Int) (h0 : 0 ≤ a) (h1 : a ≤ 4294967295) : parseB (textB a) = ⟨⟨#[]⟩, true, a, 0⟩ := by
  have hs := parseB_labels (textB a) [octB a 0, octB a 1, octB a 2] (octB a 3) (split_text a)
  have hz := text_size a
  rw [hs, if_neg (by simp [(octB_ok a 0).2.1, (octB_ok a 1).2.1, (octB_ok a 2).2.1, (octB_ok a 3).2.1]), if_neg (by omega), if_neg (by simp [(octB_ok a 3).2.2.1]), if_neg (by simp)]
  have hf : ([octB a 0, octB a 1, octB a 2] ++ [octB a 3]).foldl numStep (some 0) = some a := by
    simp only [List.cons_append, List.nil_append, List.foldl_cons, List.foldl_nil, numStep, Option.bind_some, (octB_ok a 0).1, (octB_ok a 1).1, (octB_ok a 2).1, (octB_ok a 3).1, if_true]
    rw [addr_parts a h0 h1]
  rw [hf]
theorem step_some {o : Option Int} {z : ByteArray} {b : Int} (h : numStep o z = some b) : ∃ a n, o = some a ∧ numB z = (n, true) ∧ b = addrStep a n := by
  unfold numStep at h
  cases o with
  | none => simp at h
  | some a =>
    simp only [Option.bind_some] at h
    split at h
    · rename_i hb
      refine ⟨a, (numB z).1, rfl, ?_, by simpa using h.symm⟩
      rw [← hb]
    · cases h
/-- What a text may read as. -/
theorem parse_cases (t : ByteArray) : parseB t = bad ∨ (parseB t = ⟨t, false, 0, 0⟩ ∧ (splitB t 46).all labelB = true ∧ t.size ≤ 253) ∨ ∃ a, 0 ≤ a ∧ a ≤ 4294967295 ∧ parseB t = ⟨⟨#[]⟩, true, a, 0⟩ ∧ textB a = t := by
  obtain ⟨xs, z, hs⟩ := splitB_last t
  have hp := parseB_labels t xs z hs
  rw [hp]
  by_cases c1 : (xs ++ [z]).all labelB = false
  · rw [if_pos c1]; exact .inl rfl
  rw [if_neg c1]
  by_cases c2 : t.size > 253
  · rw [if_pos c2]; exact .inl rfl
  rw [if_neg c2]
  by_cases c3 : fitsB digitB z = false
  · rw [if_pos c3, hs]; exact .inr (.inl ⟨rfl, by simpa using c1, by omega⟩)
  rw [if_neg c3]
  by_cases c4 : xs.length ≠ 3
  · rw [if_pos c4]; exact .inl rfl
  rw [if_neg c4]
  cases hf : (xs ++ [z]).foldl numStep (some 0) with
  | none => exact .inl rfl
  | some a =>
    refine .inr (.inr ⟨a, ?_⟩)
    match xs, Classical.not_not.1 c4, hs, hf with
    | [x0, x1, x2], _, hs, hf =>
      simp only [List.cons_append, List.nil_append, List.foldl_cons, List.foldl_nil] at hf
      obtain ⟨a3, n3, e3, m3, rfl⟩ := step_some hf
      obtain ⟨a2, n2, e2, m2, rfl⟩ := step_some e3
      obtain ⟨a1, n1, e1, m1, rfl⟩ := step_some e2
      obtain ⟨a0, n0, e0, m0, rfl⟩ := step_some e1
      obtain rfl : (0 : Int) = a0 := by simpa using e0
      obtain ⟨k0, b0, d0⟩ := num_canon x0 n0 m0
      obtain ⟨k1, b1, d1⟩ := num_canon x1 n1 m1
      obtain ⟨k2, b2, d2⟩ := num_canon x2 n2 m2
      obtain ⟨k3, b3, d3⟩ := num_canon z n3 m3
      have hA : addrStep (addrStep (addrStep (addrStep 0 n0) n1) n2) n3 = ((n0 * 256 + n1) * 256 + n2) * 256 + n3 := by unfold addrStep; omega
      rw [hA]
      refine ⟨by omega, by omega, rfl, ?_⟩
      apply ba_ext
      rw [← join_split t.data.toList, ← splitB_lists, hs]
      show Lib.join ([octB _ 0, octB _ 1, octB _ 2, octB _ 3].map (·.data.toList)) [46] = Lib.join ([x0, x1, x2, z].map (·.data.toList)) [46]
      simp only [List.map_cons, List.map_nil, k0, k1, k2, k3, octB, Nat.reduceMul, Nat.reduceSub, Int.reducePow]
      rw [show (((n0 * 256 + n1) * 256 + n2) * 256 + n3) / 16777216 % 256 = n0 by omega, show (((n0 * 256 + n1) * 256 + n2) * 256 + n3) / 65536 % 256 = n1 by omega, show (((n0 * 256 + n1) * 256 + n2) * 256 + n3) / 256 % 256 = n2 by omega, show (((n0 * 256 + n1) * 256 + n2) * 256 + n3) / 1 % 256 = n3 by omega]
/-- Sites. -/
theorem ends_drop (zs ss : List ByteArray) (k : Nat) (h : ss.length + k ≤ zs.length) : endsB (zs.drop k) ss = endsB zs ss := by
  unfold endsB
  rw [List.drop_drop, List.length_drop, show k + (zs.length - k - ss.length) = zs.length - ss.length by omega, decide_eq_true (show ss.length ≤ zs.length - k by omega), decide_eq_true (show ss.length ≤ zs.length by omega)]
theorem best_max (zs : List ByteArray) (l : List ByteArray) : ∀ x ∈ l, valB zs x ≤ bestB zs l := fun x hx => (fold_ge zs l 0 (Int.le_refl _)).2 x hx
theorem best_same (zs zs' l : List ByteArray) (h : ∀ x ∈ l, valB zs x = valB zs' x) : bestB zs l = bestB zs' l := by
  have : ∀ (l : List ByteArray) (b : Int), 0 ≤ b → (∀ x ∈ l, valB zs x = valB zs' x) → l.foldl (tryB zs) b = l.foldl (tryB zs') b := by
    intro l
    induction l with
    | nil => intro b _ _; rfl
    | cons x l ih =>
      intro b hb h
      simp only [List.foldl_cons]
      rw [tryB_eq zs b x hb, tryB_eq zs' b x hb, h x (by simp)]
      exact ih _ (by omega) (fun y hy => h y (by simp [hy]))
  exact this l 0 (Int.le_refl _) h
theorem from_lt (zs sfx : List ByteArray) (h : 0 < zs.length) : fromB zs sfx < zs.length := by
  have := best_bound zs sfx
  unfold fromB
  omega
theorem site_split (nm : ByteArray) (sfx : List ByteArray) : splitB (siteB nm sfx) 46 = (splitB nm 46).drop (fromB (splitB nm 46) sfx) := by
  apply map_inj
  rw [splitB_lists]
  have hlt := from_lt (splitB nm 46) sfx (splitB_length nm 46).2
  show splitL (Lib.join (((splitB nm 46).drop (fromB (splitB nm 46) sfx)).map (·.data.toList)) [46]) = _
  refine split_join _ ?_ (fun x hx => ?_)
  · intro e
    have := congrArg List.length e
    simp at this
    omega
  · rw [List.map_drop, splitB_lists] at hx
    exact split_free _ x (List.mem_of_mem_drop hx)
/-- A site's site is the site. -/
theorem site_site (nm : ByteArray) (sfx : List ByteArray) : siteB (siteB nm sfx) sfx = siteB nm sfx := by
  obtain ⟨zs, hz⟩ : ∃ zs, zs = splitB nm 46 := ⟨_, rfl⟩
  have hs := site_split nm sfx
  have hb : bestB (zs.drop (fromB zs sfx)) sfx = bestB zs sfx := by
    apply best_same
    intro x hx
    unfold valB
    by_cases hk : (splitB x 46).length + fromB zs sfx ≤ zs.length
    · rw [ends_drop _ _ _ hk]
    · have hv := best_max zs sfx x hx
      have hfl : fromB zs sfx ≤ zs.length := by unfold fromB; omega
      have e1 : endsB (zs.drop (fromB zs sfx)) (splitB x 46) = false := by
        unfold endsB
        rw [List.length_drop, decide_eq_false (by omega), Bool.false_and]
      have e2 : endsB zs (splitB x 46) = false := by
        cases he : endsB zs (splitB x 46) with
        | false => rfl
        | true =>
          exfalso
          unfold valB at hv
          rw [if_pos he] at hv
          unfold endsB at he
          have hle : (splitB x 46).length ≤ zs.length := by
            simp only [Bool.and_eq_true, decide_eq_true_eq] at he; exact he.1
          unfold fromB at hk
          omega
      rw [e1, e2]
  have hf : fromB (zs.drop (fromB zs sfx)) sfx = 0 := by
    have hbb := best_bound zs sfx
    unfold fromB at hb ⊢
    rw [hb, List.length_drop]
    omega
  rw [siteB, hs, ← hz, hf, List.drop_zero, siteB, ← hz]
/-- A site is the end of the name, behind a point or all of it. -/
theorem site_end (nm : ByteArray) (sfx : List ByteArray) : siteB nm sfx = nm ∨ ∃ p : List UInt8, nm.data.toList = p ++ 46 :: (siteB nm sfx).data.toList := by
  obtain ⟨k, hk⟩ : ∃ k, k = fromB (splitB nm 46) sfx := ⟨_, rfl⟩
  have hlt := from_lt (splitB nm 46) sfx (splitB_length nm 46).2
  have hj : Lib.join ((splitB nm 46).map (·.data.toList)) [46] = nm.data.toList := by rw [splitB_lists, join_split]
  have hsl : (siteB nm sfx).data.toList = Lib.join (((splitB nm 46).drop k).map (·.data.toList)) [46] := by rw [hk]; rfl
  rw [← hk] at hlt
  by_cases h0 : k = 0
  · left
    apply ba_ext
    rw [hsl, h0, List.drop_zero, hj]
  · right
    refine ⟨Lib.join (((splitB nm 46).take k).map (·.data.toList)) [46], ?_⟩
    rw [hsl, ← join_append _ _ (by intro e; have := congrArg List.length e; simp only [List.length_map, List.length_take, List.length_nil] at this; omega) (by intro e; have := congrArg List.length e; simp only [List.length_map, List.length_drop, List.length_nil] at this; omega), ← List.map_append, List.take_append_drop, hj]
/-- A label ahead changes no site, where suffixes are shorter than the name. -/
theorem site_more (nm nm' : ByteArray) (l0 : ByteArray) (sfx : List ByteArray) (hz : splitB nm' 46 = l0 :: splitB nm 46) (hw : ∀ x ∈ sfx, (splitB x 46).length < (splitB nm 46).length) (h2 : 2 ≤ (splitB nm 46).length) : siteB nm' sfx = siteB nm sfx := by
  obtain ⟨zs, hzs⟩ : ∃ zs, zs = splitB nm 46 := ⟨_, rfl⟩
  rw [← hzs] at hz hw h2
  have hb : bestB (l0 :: zs) sfx = bestB zs sfx := by
    apply best_same
    intro x hx
    unfold valB
    have := hw x hx
    have he := ends_drop (l0 :: zs) (splitB x 46) 1 (by simp; omega)
    rw [List.drop_one, List.tail_cons] at he
    rw [he]
  have hB : bestB zs sfx < zs.length := by
    have : ∀ (l : List ByteArray) (b : Int), 0 ≤ b → b < zs.length → (∀ x ∈ l, (splitB x 46).length < zs.length) → l.foldl (tryB zs) b < zs.length := by
      intro l
      induction l with
      | nil => intro b _ h _; exact h
      | cons x l ih =>
        intro b hb h hw
        simp only [List.foldl_cons]
        have := hw x (by simp)
        refine ih _ ?_ ?_ (fun y hy => hw y (by simp [hy]))
        · rw [tryB_eq zs b x hb]; omega
        · unfold tryB; split <;> omega
    exact this sfx 0 (Int.le_refl _) (by omega) hw
  have hf : fromB (l0 :: zs) sfx = fromB zs sfx + 1 := by
    unfold fromB
    rw [hb, List.length_cons]
    omega
  rw [siteB, siteB, hz, ← hzs, hf, List.drop_succ_cons]
end Go.Proofs.YtbhlmdaogdhjdaaDoor.H
