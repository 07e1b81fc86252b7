import Derived.Test.YtdccplnfnjpfpaaPb
namespace Go.Proofs.Ytdccplnfnjpfpaa.X
open Go.RowKit Go.Proofs.YtdccplnfnjpfpaaW.PrintWords Go.Proofs.YtdccplnfnjpfpaaW.PrintLast Go.Proofs.YtdccplnfnjpfpaaW.PrintMore

theorem union_enc (l m : List ByteArray) : Ev (fun k => glacisref12_Union.f k (encOf l) (encOf m)) (Go.bits .or .i64 (encOf l) (encOf m)) := by
  obtain ⟨a, ha⟩ := encOf_fin l
  obtain ⟨b, hb⟩ := encOf_fin m
  rw [← ha, ← hb]
  exact union_ev a b
theorem allOf_fin (l : List S32) : ∀ m : Fin 64, ∃ q : Fin 64, (q.val : Int) = allOf l (m.val : Int) := by
  induction l with
  | nil => exact fun m => ⟨m, rfl⟩
  | cons p l ih =>
    intro m
    by_cases h : p.f2 = true
    · obtain ⟨b, hb⟩ := encOf_fin p.f3
      obtain ⟨q, hq⟩ := or_fin m b
      obtain ⟨r, hr⟩ := ih q
      exact ⟨r, by unfold allOf; rw [List.foldl_cons, if_pos h, ← hb, ← hq]; exact hr⟩
    · obtain ⟨r, hr⟩ := ih m
      exact ⟨r, by unfold allOf; rw [List.foldl_cons, if_neg h]; exact hr⟩
theorem more_words (l : List ByteArray) (s : ByteArray) : Go.bits .or .i64 (encOf l) (encOf (l ++ [s])) = encOf l := by
  have : ∀ b0 b1 b2 b3 b4 b5 c0 c1 c2 c3 c4 c5 : Bool, Go.bits .or .i64 (enc b0 b1 b2 b3 b4 b5) (enc (b0 || c0) (b1 || c1) (b2 || c2) (b3 || c3) (b4 || c4) (b5 || c5)) = enc b0 b1 b2 b3 b4 b5 := by decide +kernel
  unfold encOf
  simp only [hasW, List.any_append]
  exact this _ _ _ _ _ _ _ _ _ _ _ _
theorem any_order (l : List ByteArray) (s : ByteArray) : encOf (l ++ [s]) = encOf ([s] ++ l) := by
  unfold encOf
  simp only [hasW, List.any_append, Bool.or_comm]
theorem more_pols : ∀ a b : Fin 64, Go.bits .or .i64 (a.val : Int) (Go.bits .or .i64 (a.val : Int) (b.val : Int)) = Go.bits .or .i64 (a.val : Int) (b.val : Int) := by decide +kernel
theorem or_self : ∀ a : Fin 64, Go.bits .or .i64 (a.val : Int) (a.val : Int) = (a.val : Int) := by decide +kernel
theorem allOf_more (l : List S32) (p : S32) : ∃ a e : Fin 64, (a.val : Int) = allOf l 0 ∧ (e.val : Int) = allOf (l ++ [p]) 0 ∧ Go.bits .or .i64 (a.val : Int) (e.val : Int) = (e.val : Int) := by
  obtain ⟨a, ha⟩ := allOf_fin l ⟨0, by omega⟩
  have ha' : (a.val : Int) = allOf l 0 := ha
  by_cases h : p.f2 = true
  · obtain ⟨b, hb⟩ := encOf_fin p.f3
    obtain ⟨q, hq⟩ := or_fin a b
    refine ⟨a, q, ha', ?_, ?_⟩
    · rw [hq, ha', hb]
      unfold allOf
      rw [List.foldl_append, List.foldl_cons, List.foldl_nil, if_pos h]
    · rw [hq]; exact more_pols a b
  · refine ⟨a, a, ha', ?_, or_self a⟩
    rw [ha']
    unfold allOf
    rw [List.foldl_append, List.foldl_cons, List.foldl_nil, if_neg h]
/-- What is asked behind all. -/
theorem SandboxMore_end (l0 : List ByteArray) (a1 : ByteArray) (l2 : List S32) (p : S32) (hw : okL (l0 ++ [a1])) (hl0 : l0.length ≤ 100) (hl2 : l2.length ≤ 50) (hp : shortB p.f3 = true) : ∀ (d : Nat) (x : Int), 0 ≤ x → x + d = (l2.length : Int) → (∀ q ∈ l2.take x.toNat, shortB q.f3 = true) →
    Ev (fun k => glacislaw12_SandboxMore.l0 k l0 a1 l2 true x p.f0 p.f1 p.f2 p.f3) true := by
  intro d
  induction d with
  | zero =>
    intro x h0 hd hq
    have hok : okP l2 := fun q h => by
      have := okL_of_short (hq q (by rw [List.take_of_length_le (by omega)]; exact h))
      exact ⟨this.1, by omega⟩
    have hok2 : okP (l2 ++ [p]) := fun q h => by
      rcases List.mem_append.1 h with h | h
      · exact hok q h
      · rw [List.mem_singleton.1 h]
        have := okL_of_short hp
        exact ⟨this.1, by omega⟩
    have hw0 : okL l0 := fun s hs => hw s (List.mem_append_left _ hs)
    have hw1 : okL ([a1] ++ l0) := fun s hs => by
      rcases List.mem_append.1 hs with h | h
      · exact hw s (List.mem_append_right _ h)
      · exact hw0 s h
    obtain ⟨a, e, ha, he, hor⟩ := allOf_more l2 p
    obtain ⟨m, hm⟩ := encOf_fin l0
    refine Ev.step (f := fun k => (sandbox_All.f k l2).bind fun t219 => (sandbox_All.f k (l2 ++ [p])).bind fun t232 => (glacisref12_Union.f k (encOf l0) (encOf (l0 ++ [a1]))).bind fun t233 => if t233 = encOf l0 then (glacisref12_Union.f k t219 t232).bind fun t234 => if t234 = t232 then some (decide (t232 ≤ 63)) else none else none) (fun k => ?_) ?_
    · simp only [glacislaw12_SandboxMore.l0]
      rw [if_neg (by omega), flags_f _ hw0]
      simp only [Option.bind_some, List.nil_append, List.length_nil, List.length_cons, Nat.zero_add]
      rw [if_pos (by omega), if_pos (by omega), flags_f _ hw]
      simp only [Option.bind_some]
      rw [if_pos (by omega), flags_f _ hw1]
      simp only [Option.bind_some]
      have c1 : l2.length < 2199023255552 := by omega
      have c2 : l2.length + 1 < 2199023255552 := by omega
      have c3 : encOf l0 ≥ 0 := by omega
      have c4 : encOf l0 ≤ 63 := by omega
      simp only [c1, c2, c3, c4, ← any_order l0 a1, if_true]
    · refine Ev.bind (all_ev l2 hok (by omega)) (Ev.bind (all_ev (l2 ++ [p]) hok2 (by rw [List.length_append, List.length_singleton]; omega)) (Ev.bind (union_enc _ _) (Ev.iteT (more_words l0 a1) ?_)))
      rw [← ha, ← he]
      refine Ev.bind (union_ev a e) (Ev.iteT hor (Ev.const ?_))
      rw [decide_eq_true (by omega)]
  | succ d ih =>
    intro x h0 hd hq
    have hlt : x.toNat < l2.length := by omega
    have hrd : rd_T32 l2 x = l2[x.toNat] := by unfold rd_T32; rw [List.getD_eq_getElem?_getD, List.getElem?_eq_getElem hlt]; rfl
    have hw : wrap64 (x + 1) = x + 1 := w64 (by omega) (by omega)
    refine Ev.step (f := fun k => (glacislaw12_short.f k (l2[x.toNat]).f3).bind fun t197 => if t197 = true then glacislaw12_SandboxMore.l0 k l0 a1 l2 true (x + 1) p.f0 p.f1 p.f2 p.f3 else some true) (fun k => ?_) (Ev.bind (short_ev _) ?_)
    · simp only [glacislaw12_SandboxMore.l0]
      rw [if_pos (by omega), if_pos h0, hrd, hw]
    · by_cases hs : shortB (l2[x.toNat]).f3 = true
      · refine Ev.iteT hs (ih (x + 1) (by omega) (by omega) ?_)
        rw [show (x + 1).toNat = x.toNat + 1 by omega, List.take_succ_eq_append_getElem hlt]
        intro q hq2
        rcases List.mem_append.1 hq2 with h | h
        · exact hq q h
        · rw [List.mem_singleton.1 h]; exact hs
      · exact Ev.iteF hs (Ev.now _)
theorem SandboxMore_pure (l0 : List ByteArray) (a1 : ByteArray) (l2 : List S32) (p : S32) (h0 : l0.length * 16 ≤ 140737488351232) : ∃ k, glacislaw12_SandboxMore.f k l0 a1 l2 p.f0 p.f1 p.f2 p.f3 = some true := by
  apply Ev.rounds
  unfold glacislaw12_SandboxMore.f
  refine Ev.bind awake_ev ?_
  simp only [Option.bind_some, List.nil_append, List.length_nil, List.length_cons, Nat.zero_add]
  have hj : ∀ b, b = true → Ev (fun k => glacislaw12_SandboxMore.j0 k l0 a1 l2 true b p.f0 p.f1 p.f2 p.f3) true := fun b hb =>
    Ev.step (f := fun _ => some true) (fun k => by simp only [glacislaw12_SandboxMore.j0]; rw [if_pos hb]) (Ev.now _)
  refine Ev.iteT (by omega) (Ev.iteT (by omega) (Ev.bind (short_ev _) (Ev.bind (short_ev _) ?_)))
  by_cases h1 : shortB (l0 ++ [a1]) = true
  · refine Ev.iteT h1 ?_
    by_cases h2 : shortB p.f3 = true
    · refine Ev.iteT h2 ?_
      by_cases h3 : (l0.length : Int) > 100
      · exact Ev.iteT h3 (hj true rfl)
      · refine Ev.iteF h3 ?_
        by_cases h4 : (l2.length : Int) > 50
        · exact hj _ (decide_eq_true h4)
        · refine Ev.step (f := fun k => glacislaw12_SandboxMore.l0 k l0 a1 l2 true 0 p.f0 p.f1 p.f2 p.f3) (fun k => by simp only [glacislaw12_SandboxMore.j0]; rw [if_neg (by simpa using h4)])
            (SandboxMore_end l0 a1 l2 p (okL_of_short h1).1 (by omega) (by omega) h2 l2.length 0 (by omega) (by omega) (by simp))
    · exact Ev.iteF h2 (hj true rfl)
  · exact Ev.iteF h1 (hj true rfl)
end Go.Proofs.Ytdccplnfnjpfpaa.X
