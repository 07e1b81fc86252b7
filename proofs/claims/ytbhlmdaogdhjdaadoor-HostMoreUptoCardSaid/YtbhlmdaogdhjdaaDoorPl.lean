import Derived.Lib.Join
import Derived.Lib.ItoaNum
/-! Lists of bytes, cut at points and joined again: no program in sight. -/
namespace Go.Proofs.YtbhlmdaogdhjdaaDoor.H

def splitL : List UInt8 → List (List UInt8)
  | [] => [[]]
  | c :: t => if c = 46 then [] :: splitL t else match splitL t with
    | [] => [[c]]
    | x :: xs => (c :: x) :: xs
theorem splitL_ne : ∀ l, splitL l ≠ []
  | [] => by simp [splitL]
  | c :: t => by
    unfold splitL
    split
    · simp
    · split <;> simp
theorem splitL_dot : ∀ a b, splitL (a ++ 46 :: b) = splitL a ++ splitL b
  | [], b => by simp [splitL]
  | c :: t, b => by
    have ih := splitL_dot t b
    rw [List.cons_append, splitL, splitL]
    by_cases h : c = 46
    · rw [if_pos h, if_pos h, ih]; rfl
    · rw [if_neg h, if_neg h, ih]
      cases hs : splitL t with
      | nil => exact absurd hs (splitL_ne t)
      | cons x xs => rfl
theorem splitL_one : ∀ a : List UInt8, 46 ∉ a → splitL a = [a]
  | [], _ => rfl
  | c :: t, h => by
    have ih := splitL_one t (fun hm => h (List.mem_cons_of_mem _ hm))
    have hc : c ≠ 46 := fun e => h (by rw [e]; exact List.mem_cons_self)
    rw [splitL, if_neg hc, ih]
theorem splitL_snoc (c : UInt8) (hc : c ≠ 46) : ∀ l xs y, splitL l = xs ++ [y] → splitL (l ++ [c]) = xs ++ [y ++ [c]]
  | [], xs, y, h => by
    have h' : [[]] = xs ++ [y] := h
    cases xs with
    | nil =>
      simp only [List.nil_append, List.cons.injEq, and_true] at h'
      subst h'
      exact splitL_one [c] (by simpa using fun e => hc e.symm)
    | cons x xs => simp at h'
  | d :: t, xs, y, h => by
    rw [List.cons_append, splitL]
    rw [splitL] at h
    by_cases hd : d = 46
    · rw [if_pos hd] at h ⊢
      cases xs with
      | nil =>
        simp only [List.nil_append, List.cons.injEq] at h
        exact absurd h.2 (splitL_ne t)
      | cons x xs =>
        simp only [List.cons_append, List.cons.injEq] at h
        rw [splitL_snoc c hc t xs y h.2, ← h.1]
        rfl
    · rw [if_neg hd] at h ⊢
      cases hs : splitL t with
      | nil => exact absurd hs (splitL_ne t)
      | cons z zs =>
        rw [hs] at h
        cases xs with
        | nil =>
          simp only [List.nil_append, List.cons.injEq] at h
          obtain ⟨rfl, rfl⟩ := h
          rw [splitL_snoc c hc t [] z hs]
          rfl
        | cons x xs =>
          simp only [List.cons_append, List.cons.injEq] at h
          obtain ⟨rfl, rfl⟩ := h
          rw [splitL_snoc c hc t (z :: xs) y hs]
          rfl
theorem join_two (x : List UInt8) (r : List (List UInt8)) (hr : r ≠ []) : Lib.join (x :: r) [46] = x ++ 46 :: Lib.join r [46] := by
  cases r with
  | nil => exact absurd rfl hr
  | cons y r => rw [Lib.join_cons, Lib.join_cons]; simp [Lib.joinTail]
theorem join_split : ∀ l, Lib.join (splitL l) [46] = l
  | [] => by simp [splitL, Lib.join_one]
  | c :: t => by
    have ih := join_split t
    rw [splitL]
    by_cases h : c = 46
    · rw [if_pos h, join_two _ _ (splitL_ne t), ih, h]; rfl
    · rw [if_neg h]
      cases hs : splitL t with
      | nil => exact absurd hs (splitL_ne t)
      | cons x xs =>
        rw [hs] at ih
        cases xs with
        | nil => rw [Lib.join_one] at ih; simp only; rw [Lib.join_one, ih]
        | cons y ys =>
          rw [join_two _ _ (by simp)] at ih
          simp only
          rw [join_two _ _ (by simp), List.cons_append, ih]
theorem join_append : ∀ a b : List (List UInt8), a ≠ [] → b ≠ [] → Lib.join (a ++ b) [46] = Lib.join a [46] ++ 46 :: Lib.join b [46]
  | [], b, h, _ => absurd rfl h
  | [x], b, _, hb => by rw [List.singleton_append, join_two _ _ hb, Lib.join_one]
  | x :: y :: r, b, _, hb => by
    rw [List.cons_append, join_two _ _ (by simp), join_two x (y :: r) (by simp), join_append (y :: r) b (by simp) hb]
    simp
theorem split_join : ∀ ls : List (List UInt8), ls ≠ [] → (∀ x ∈ ls, 46 ∉ x) → splitL (Lib.join ls [46]) = ls
  | [], h, _ => absurd rfl h
  | [x], _, h => by rw [Lib.join_one]; exact splitL_one x (h x (by simp))
  | x :: y :: r, _, h => by
    rw [join_two _ _ (by simp), splitL_dot, splitL_one x (h x (by simp)), split_join (y :: r) (by simp) (fun z hz => h z (List.mem_cons_of_mem _ hz))]
    rfl
theorem split_free : ∀ l, ∀ x ∈ splitL l, 46 ∉ x
  | [], x, h => by simp [splitL] at h; subst h; simp
  | c :: t, x, h => by
    have ih := split_free t
    rw [splitL] at h
    by_cases hc : c = 46
    · rw [if_pos hc] at h
      rcases List.mem_cons.1 h with rfl | h
      · simp
      · exact ih x h
    · rw [if_neg hc] at h
      cases hs : splitL t with
      | nil => exact absurd hs (splitL_ne t)
      | cons z zs =>
        rw [hs] at h ih
        rcases List.mem_cons.1 h with rfl | h
        · intro hm
          rcases List.mem_cons.1 hm with e | hm
          · exact hc e.symm
          · exact ih z (by simp) hm
        · exact ih x (by simp [h])
end Go.Proofs.YtbhlmdaogdhjdaaDoor.H
