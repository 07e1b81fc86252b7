import Derived.Test.YtbhlmdaogdhjdaaDoorHj
import Derived.Test.YtbhlmdaogdhjdaaDoorPl
/-! The chapter's functions on texts, told over lists of bytes. -/
namespace Go.Proofs.YtbhlmdaogdhjdaaDoor.H
open Go.RowKit Go.Proofs.YtbhlmdaogdhjdaaDoorW.PrintWords
set_option linter.unusedVariables false

theorem bt_get (s : ByteArray) (i : Nat) (h : i < s.size) : bt s i = ((s.data.toList[i]'(by rw [data_length]; exact h)).toNat : Int) := by
  rw [← bt_at s i h]; rfl
theorem extract_list (s : ByteArray) (f i : Nat) : (s.extract f i).data.toList = (s.data.toList.drop f).take (i - f) := by
  rw [ByteArray.data_extract, Array.toList_extract]
theorem extract_self (s : ByteArray) (i : Nat) : (s.extract i i).data.toList = [] := by
  rw [extract_list, Nat.sub_self, List.take_zero]
theorem extract_snoc (s : ByteArray) (f i : Nat) (h1 : f ≤ i) (h2 : i < s.size) : (s.extract f (i + 1)).data.toList = (s.extract f i).data.toList ++ [s.data.toList[i]'(by rw [data_length]; exact h2)] := by
  rw [extract_list, extract_list, show i + 1 - f = (i - f) + 1 by omega, List.take_succ_eq_append_getElem (by rw [List.length_drop, data_length]; omega)]
  simp [Nat.add_sub_cancel' h1]
theorem cutN_split (s : ByteArray) : ∀ i, i ≤ s.size → splitL (s.data.toList.take i) = (cutN s 46 i).1.map (·.data.toList) ++ [(s.extract (cutN s 46 i).2 i).data.toList]
  | 0, _ => by rw [List.take_zero]; show _ = [] ++ [(s.extract 0 0).data.toList]; rw [extract_self]; rfl
  | i + 1, h => by
    have ih := cutN_split s i (by omega)
    have hl := (cutN_le s 46 i).1
    have hi : i < s.data.toList.length := by rw [data_length]; omega
    rw [List.take_succ_eq_append_getElem hi, cutN]
    by_cases hc : bt s i = 46
    · rw [if_pos hc]
      have hc' : s.data.toList[i] = 46 := by
        rw [bt_get s i (by omega)] at hc
        exact UInt8.toNat_inj.1 (by show (s.data.toList[i]).toNat = 46; omega)
      rw [hc', splitL_dot, ih]
      simp only [List.map_append, List.map_cons, List.map_nil, extract_self]
      rfl
    · rw [if_neg hc]
      have hc' : s.data.toList[i] ≠ 46 := by
        rw [bt_get s i (by omega)] at hc
        exact fun e => hc (by rw [e]; rfl)
      rw [splitL_snoc _ hc' _ _ _ ih, extract_snoc s _ i hl (by omega)]
theorem splitB_lists (s : ByteArray) : (splitB s 46).map (·.data.toList) = splitL s.data.toList := by
  have h := cutN_split s s.size (Nat.le_refl _)
  rw [List.take_of_length_le (by rw [data_length]; exact Nat.le_refl _)] at h
  rw [h, splitB, List.map_append]
  rfl
theorem ba_ext {a b : ByteArray} (h : a.data.toList = b.data.toList) : a = b := by
  cases a; cases b; simp only [ByteArray.mk.injEq]; exact Array.toList_inj.1 h
theorem map_inj {l m : List ByteArray} (h : l.map (·.data.toList) = m.map (·.data.toList)) : l = m := by
  induction l generalizing m with
  | nil => cases m with
    | nil => rfl
    | cons y ys => simp at h
  | cons x xs ih => cases m with
    | nil => simp at h
    | cons y ys =>
      simp only [List.map_cons, List.cons.injEq] at h
      rw [ba_ext h.1, ih h.2]
theorem fitsB_list (p : Int → Bool) (s : ByteArray) : fitsB p s = s.data.toList.all fun c => p (c.toNat : Int) := by
  unfold fitsB
  rw [Bool.eq_iff_iff, List.all_eq_true, List.all_eq_true]
  constructor
  · intro h c hc
    obtain ⟨i, hi, rfl⟩ := List.mem_iff_getElem.1 hc
    rw [data_length] at hi
    have := h i (List.mem_range.2 hi)
    rw [bt_get s i hi] at this
    exact this
  · intro h i hi
    have hi' := List.mem_range.1 hi
    rw [bt_get s i hi']
    exact h _ (List.getElem_mem _)
/-- parseB over the labels. -/
theorem all_upto (zs : List ByteArray) : allLabels (upto zs zs.length) = zs.all labelB := by
  unfold allLabels upto
  rw [Bool.eq_iff_iff, List.all_eq_true, List.all_eq_true]
  constructor
  · intro h z hz
    obtain ⟨i, hi, rfl⟩ := List.mem_iff_getElem.1 hz
    have := h (i, zs[i]?.getD ByteArray.empty) (List.mem_map.2 ⟨i, List.mem_range.2 hi, rfl⟩)
    simpa [hi] using this
  · intro h x hx
    obtain ⟨i, hi, rfl⟩ := List.mem_map.1 hx
    have hi' := List.mem_range.1 hi
    simp only [List.getElem?_eq_getElem hi', Option.getD_some]
    exact h _ (List.getElem_mem _)
theorem last_upto (zs : List ByteArray) (z : ByteArray) : lastOf (upto (zs ++ [z]) (zs ++ [z]).length) = z := by
  rw [List.length_append, List.length_singleton, upto_succ, lastOf_snoc]
  simp
def numStep (o : Option Int) (z : ByteArray) : Option Int := o.bind fun a => if (numB z).2 = true then some (addrStep a (numB z).1) else none
theorem addrL_fold (zs : List ByteArray) : addrL zs (List.range zs.length) = zs.foldl numStep (some 0) := by
  have : ∀ k, k ≤ zs.length → addrL zs (List.range k) = (zs.take k).foldl numStep (some 0) := by
    intro k
    induction k with
    | zero => intro _; rfl
    | succ k ih =>
      intro hk
      have hk' : k < zs.length := by omega
      rw [List.range_succ, addrL_snoc, ih (by omega), List.take_succ_eq_append_getElem hk', List.foldl_append]
      unfold addrNext
      rw [List.getElem?_eq_getElem hk']
      rfl
  have h := this zs.length (Nat.le_refl _)
  rwa [List.take_length] at h
theorem splitB_last (t : ByteArray) : ∃ xs z, splitB t 46 = xs ++ [z] := by
  unfold splitB
  exact ⟨_, _, rfl⟩
/-- What reading a text makes of it, told by its labels. -/
theorem parseB_labels (t : ByteArray) (xs : List ByteArray) (z : ByteArray) (h : splitB t 46 = xs ++ [z]) : parseB t =
    if (xs ++ [z]).all labelB = false then bad else if t.size > 253 then bad else if fitsB digitB z = false then ⟨t, false, 0, 0⟩ else if xs.length ≠ 3 then bad else
    match (xs ++ [z]).foldl numStep (some 0) with
    | none => bad
    | some a => ⟨⟨#[]⟩, true, a, 0⟩ := by
  have hl : (upto (xs ++ [z]) (xs ++ [z]).length).length ≠ 4 ↔ xs.length ≠ 3 := by rw [upto_length]; simp
  have h1 := all_upto (xs ++ [z])
  have h2 := last_upto xs z
  have h3 := addrL_fold (xs ++ [z])
  unfold parseB
  simp only [h]
  rw [h1, h2, h3]
  simp only [hl]
  rfl
end Go.Proofs.YtbhlmdaogdhjdaaDoor.H
