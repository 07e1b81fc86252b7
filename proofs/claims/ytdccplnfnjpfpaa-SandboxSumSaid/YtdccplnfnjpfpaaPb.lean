import Derived.Test.YtdccplnfnjpfpaaPa
namespace Go.Proofs.Ytdccplnfnjpfpaa.X
open Go.RowKit Go.Proofs.YtdccplnfnjpfpaaW.PrintWords Go.Proofs.YtdccplnfnjpfpaaW.PrintLast Go.Proofs.YtdccplnfnjpfpaaW.PrintMore

theorem awake_ev : Ev (fun k => glacislaw12_awake.f k) true := Ev.of glacislaw12_awake.mono (k := 20) (by decide +kernel)
theorem Ev.iteT {α : Type} {c : Prop} [Decidable c] {g f : Nat → Option α} {r : α} (h : c) (k : Ev g r) : Ev (fun n => if c then g n else f n) r := Ev.congr (fun _ => if_pos h) k
theorem Ev.iteF {α : Type} {c : Prop} [Decidable c] {g f : Nat → Option α} {r : α} (h : ¬ c) (k : Ev f r) : Ev (fun n => if c then g n else f n) r := Ev.congr (fun _ => if_neg h) k
theorem Ev.const {α : Type} {o : Option α} {r : α} (h : o = some r) : Ev (fun _ => o) r := ⟨0, fun _ _ => h⟩

/-! ### short lists of short words -/
def shortB (l : List ByteArray) : Bool := decide (l.length ≤ 200) && l.all (fun s => decide (s.size ≤ 200))
theorem short_loop (l : List ByteArray) (hl : l.length ≤ 200) : ∀ (d : Nat) (x : Int), 0 ≤ x → x + d = (l.length : Int) → Ev (fun k => glacislaw12_short.l0 k l x) ((l.drop x.toNat).all (fun s => decide (s.size ≤ 200))) := by
  intro d
  induction d with
  | zero =>
    intro x h0 hd
    rw [List.drop_of_length_le (by omega)]
    exact Ev.step (fun k => by simp only [glacislaw12_short.l0]; rw [if_neg (by omega)]; rfl) (Ev.now _)
  | succ d ih =>
    intro x h0 hd
    have hlt : x.toNat < l.length := by omega
    have hrd : rdOf ByteArray.empty l x = l[x.toNat] := by rw [rdOf_eq, List.getD_eq_getElem?_getD, List.getElem?_eq_getElem hlt]; rfl
    have hw : wrap64 (x + 1) = x + 1 := w64 (by omega) (by omega)
    have hdrop : l.drop x.toNat = l[x.toNat] :: l.drop (x + 1).toNat := by
      rw [show (x + 1).toNat = x.toNat + 1 by omega]; exact List.drop_eq_getElem_cons hlt
    rw [hdrop, List.all_cons]
    refine Ev.step (f := fun k => if ((l[x.toNat]).size : Int) > 200 then some false else glacislaw12_short.l0 k l (x + 1)) (fun k => ?_) ?_
    · simp only [glacislaw12_short.l0]
      rw [if_pos (by omega), if_pos h0, hrd, hw]
    · by_cases hs : ((l[x.toNat]).size : Int) > 200
      · rw [decide_eq_false (by omega), Bool.false_and]
        exact Ev.iteT hs (Ev.now _)
      · rw [decide_eq_true (by omega), Bool.true_and]
        exact Ev.iteF hs (ih (x + 1) (by omega) (by omega))
theorem short_ev (l : List ByteArray) : Ev (fun k => glacislaw12_short.f k l) (shortB l) := by
  unfold glacislaw12_short.f shortB
  by_cases h : (l.length : Int) > 200
  · rw [decide_eq_false (by omega), Bool.false_and]
    exact Ev.iteT h (Ev.now _)
  · rw [decide_eq_true (by omega), Bool.true_and]
    have := short_loop l (by omega) l.length 0 (by omega) (by omega)
    exact Ev.iteF h (by simpa using this)
theorem okL_of_short {l : List ByteArray} (h : shortB l = true) : okL l ∧ l.length ≤ 200 := by
  unfold shortB at h
  simp only [Bool.and_eq_true, decide_eq_true_eq, List.all_eq_true] at h
  exact ⟨fun s hs => by have := h.2 s hs; omega, h.1⟩

/-! ### texts -/
theorem texts_loop (l : List ByteArray) (hl : l.length ≤ 1000) : ∀ (d : Nat) (x : Int), 0 ≤ x → x + d = (l.length : Int) → Ev (fun k => glacisref01_Texts.l0 k l l x) true := by
  intro d
  induction d with
  | zero =>
    intro x h0 hd
    exact Ev.step (fun k => by simp only [glacisref01_Texts.l0]; rw [if_neg (by omega)]) (Ev.now _)
  | succ d ih =>
    intro x h0 hd
    have hw : wrap64 (x + 1) = x + 1 := w64 (by omega) (by omega)
    refine Ev.step (fun k => ?_) (ih (x + 1) (by omega) (by omega))
    simp only [glacisref01_Texts.l0]
    rw [if_pos (by omega), if_pos h0, if_pos (by omega), if_pos trivial, hw]
theorem texts_ev (l : List ByteArray) (hl : l.length ≤ 1000) : Ev (fun k => glacisref01_Texts.f k l l) true := by
  unfold glacisref01_Texts.f
  exact Ev.iteT rfl (texts_loop l hl l.length 0 (by omega) (by omega))

theorem popup_same (a : Int) : sandbox_Popup.f a = glacisref12_Popup.f a := by
  obtain ⟨m, hm⟩ := part_fin a
  have h1 : sandbox_Popup.f a = sandbox_Popup.f (a % 64) := by
    unfold sandbox_Popup.f
    rw [and_part a 16 (by decide), and63, and63, Int.emod_emod_of_dvd a (Int.dvd_refl 64)]
  have h2 : glacisref12_Popup.f a = glacisref12_Popup.f (a % 64) := by
    unfold glacisref12_Popup.f glacisref12_Within.f
    rw [and63, and63, Int.emod_emod_of_dvd a (Int.dvd_refl 64)]
  have : ∀ m : Fin 64, sandbox_Popup.f (m.val : Int) = glacisref12_Popup.f (m.val : Int) := by decide +kernel
  rw [h1, h2, ← hm]
  exact this m
theorem popup_some (a : Int) : ∃ p, sandbox_Popup.f a = some p := by
  unfold sandbox_Popup.f; split <;> exact ⟨_, rfl⟩
theorem wordsM_len : ∀ m : Fin 64, (wordsM m.val).length ≤ 1000 := by decide +kernel

theorem SandboxTells_pure (l : List ByteArray) (a : Int) : ∃ k, glacislaw12_SandboxTells.f k l a = some true := by
  apply Ev.rounds
  unfold glacislaw12_SandboxTells.f
  refine Ev.bind awake_ev (Ev.bind (short_ev l) ?_)
  by_cases hs : shortB l = true
  · obtain ⟨hok, hlen⟩ := okL_of_short hs
    obtain ⟨m, hm⟩ := part_fin a
    obtain ⟨p, hp⟩ := popup_some a
    refine Ev.iteT hs (Ev.bind (words_ev a hm) (Ev.bind (refwords_ev a hm) (Ev.bind (texts_ev _ (wordsM_len m)) (Ev.iteT rfl (Ev.iteT rfl (Ev.bind (Ev.const (flags_f l hok)) (Ev.bind (refflags_ev l hok (by omega)) (Ev.iteT rfl (Ev.bind (Ev.const hp) (Ev.bind (Ev.const ((popup_same a).symm.trans hp)) (Ev.const ?_)))))))))))
    simp
  · exact Ev.iteF hs (Ev.now _)

theorem SandboxNames_pure : ∃ k, glacislaw12_SandboxNames.f k = some true := ⟨20, by decide +kernel⟩

theorem SandboxBack_pure (a : Int) : ∃ k, glacislaw12_SandboxBack.f k a = some true := by
  obtain ⟨m, hm⟩ := part_fin a
  apply Ev.rounds
  unfold glacislaw12_SandboxBack.f
  have hpop : sandbox_Popup.f a = sandbox_Popup.f (m.val : Int) := by
    rw [hm]
    unfold sandbox_Popup.f
    rw [and_part a 16 (by decide), and63, and63, Int.emod_emod_of_dvd a (Int.dvd_refl 64)]
  have hok : ∀ m : Fin 64, (wordsM m.val).all (fun s => decide (s.size ≤ 9223372036854775807)) = true := by decide +kernel
  have hfl : ∀ m : Fin 64, encOf (wordsM m.val) = (m.val : Int) := by decide +kernel
  have hend : ∀ m : Fin 64, ((sandbox_Popup.f (m.val : Int)).bind fun t240 => (if (Int.tmod (wrap64 (Int.tdiv (m.val : Int) 16)) 2) = 0 then (if t240 = 0 then ((sandbox_Popup.f t240).bind fun t241 => (some (t241 == t240))) else none) else (if t240 = (m.val : Int) then ((sandbox_Popup.f t240).bind fun t242 => (some (t242 == t240))) else none))) = some true := by decide +kernel
  refine Ev.bind awake_ev (Ev.bind (words_ev a hm) (Ev.bind (Ev.const (flags_f _ (fun s hs => of_decide_eq_true (List.all_eq_true.mp (hok m) s hs)))) ?_))
  rw [and63, ← hm, hfl m, hpop]
  refine Ev.const ?_
  simp only [if_true]
  exact hend m

/-! ### policies -/
def allOf (l : List S32) (o : Int) : Int := l.foldl (fun o p => if p.f2 = true then Go.bits .or .i64 o (encOf p.f3) else o) o
def okP (l : List S32) : Prop := ∀ p ∈ l, okL p.f3 ∧ p.f3.length ≤ 9223372036854775806
theorem all_loop (l : List S32) (hok : okP l) (hl : l.length ≤ 9223372036854775806) : ∀ (d : Nat) (o x : Int), 0 ≤ x → x + d = (l.length : Int) → Ev (fun k => sandbox_All.l0 k o l (l.length : Int) x) (allOf (l.drop x.toNat) o) := by
  intro d
  induction d with
  | zero =>
    intro o x h0 hd
    rw [List.drop_of_length_le (by omega)]
    exact Ev.step (fun k => by simp only [sandbox_All.l0]; rw [if_neg (by omega)]; rfl) (Ev.now _)
  | succ d ih =>
    intro o x h0 hd
    have hlt : x.toNat < l.length := by omega
    have hrd : rd_T32 l x = l[x.toNat] := by unfold rd_T32; rw [List.getD_eq_getElem?_getD, List.getElem?_eq_getElem hlt]; rfl
    have hw : wrap64 (x + 1) = x + 1 := w64 (by omega) (by omega)
    have hdrop : l.drop x.toNat = l[x.toNat] :: l.drop (x + 1).toNat := by
      rw [show (x + 1).toNat = x.toNat + 1 by omega]; exact List.drop_eq_getElem_cons hlt
    rw [hdrop]
    refine Ev.step (f := fun k => sandbox_All.l0 k (if (l[x.toNat]).f2 = true then Go.bits .or .i64 o (encOf (l[x.toNat]).f3) else o) l (l.length : Int) (x + 1)) (fun k => ?_) (ih _ (x + 1) (by omega) (by omega))
    simp only [sandbox_All.l0]
    rw [if_pos (by omega), if_pos h0, if_pos (by omega), hrd, hw]
    by_cases hb : (l[x.toNat]).f2 = true
    · rw [if_pos hb, if_pos hb, flags_f _ (hok _ (List.getElem_mem hlt)).1]; rfl
    · rw [if_neg hb, if_neg hb]
theorem all_ev (l : List S32) (hok : okP l) (hl : l.length ≤ 9223372036854775806) : Ev (fun k => sandbox_All.f k l) (allOf l 0) := by
  unfold sandbox_All.f
  have := all_loop l hok hl l.length 0 0 (by omega) (by omega)
  simpa using this
theorem union_same : ∀ a b : Fin 64, glacisref12_Union.f 10 (a.val : Int) (b.val : Int) = some (Go.bits .or .i64 (a.val : Int) (b.val : Int)) := by decide +kernel
theorem or_fin (a b : Fin 64) : ∃ m : Fin 64, (m.val : Int) = Go.bits .or .i64 (a.val : Int) (b.val : Int) := by
  have : ∀ a b : Fin 64, 0 ≤ Go.bits .or .i64 (a.val : Int) (b.val : Int) ∧ Go.bits .or .i64 (a.val : Int) (b.val : Int) < 64 := by decide +kernel
  obtain ⟨h0, h1⟩ := this a b
  exact ⟨⟨(Go.bits .or .i64 (a.val : Int) (b.val : Int)).toNat, by omega⟩, by simp only; omega⟩
theorem union_ev (a b : Fin 64) : Ev (fun k => glacisref12_Union.f k (a.val : Int) (b.val : Int)) (Go.bits .or .i64 (a.val : Int) (b.val : Int)) := Ev.of (glacisref12_Union.mono _ _) (union_same a b)
theorem refall_loop (l : List S32) (hok : okP l) (hl : l.length ≤ 9223372036854775806) : ∀ (d : Nat) (m : Fin 64) (x : Int), 0 ≤ x → x + d = (l.length : Int) → Ev (fun k => glacisref12_All.l0 k l (m.val : Int) x) (allOf (l.drop x.toNat) (m.val : Int)) := by
  intro d
  induction d with
  | zero =>
    intro o x h0 hd
    rw [List.drop_of_length_le (by omega)]
    exact Ev.step (fun k => by simp only [glacisref12_All.l0]; rw [if_neg (by omega)]; rfl) (Ev.now _)
  | succ d ih =>
    intro m x h0 hd
    have hlt : x.toNat < l.length := by omega
    have hrd : rd_T32 l x = l[x.toNat] := by unfold rd_T32; rw [List.getD_eq_getElem?_getD, List.getElem?_eq_getElem hlt]; rfl
    have hw : wrap64 (x + 1) = x + 1 := w64 (by omega) (by omega)
    have hdrop : l.drop x.toNat = l[x.toNat] :: l.drop (x + 1).toNat := by
      rw [show (x + 1).toNat = x.toNat + 1 by omega]; exact List.drop_eq_getElem_cons hlt
    rw [hdrop]
    obtain ⟨hp1, hp2⟩ := hok _ (List.getElem_mem hlt)
    by_cases hb : (l[x.toNat]).f2 = true
    · obtain ⟨b, hbm⟩ := encOf_fin (l[x.toNat]).f3
      obtain ⟨q, hq⟩ := or_fin m b
      have e : allOf (l[x.toNat] :: l.drop (x + 1).toNat) (m.val : Int) = allOf (l.drop (x + 1).toNat) (q.val : Int) := by
        unfold allOf; rw [List.foldl_cons, if_pos hb, ← hbm, hq]
      rw [e]
      refine Ev.step (f := fun k => (glacisref12_Flags.f k (l[x.toNat]).f3).bind fun t173 => (glacisref12_Union.f k (m.val : Int) t173).bind fun t174 => glacisref12_All.l0 k l t174 (x + 1)) (fun k => ?_) (Ev.bind (refflags_ev _ hp1 hp2) ?_)
      · simp only [glacisref12_All.l0]
        rw [if_pos (by omega), if_pos h0, hrd, hw, if_pos hb]
      · rw [← hbm]
        refine Ev.bind (union_ev m b) ?_
        rw [← hq]
        exact ih q (x + 1) (by omega) (by omega)
    · have e : allOf (l[x.toNat] :: l.drop (x + 1).toNat) (m.val : Int) = allOf (l.drop (x + 1).toNat) (m.val : Int) := by
        unfold allOf; rw [List.foldl_cons, if_neg hb]
      rw [e]
      refine Ev.step (f := fun k => glacisref12_All.l0 k l (m.val : Int) (x + 1)) (fun k => ?_) (ih m (x + 1) (by omega) (by omega))
      simp only [glacisref12_All.l0]
      rw [if_pos (by omega), if_pos h0, hrd, hw, if_neg hb]
theorem refall_ev (l : List S32) (hok : okP l) (hl : l.length ≤ 9223372036854775806) : Ev (fun k => glacisref12_All.f k l) (allOf l 0) := by
  unfold glacisref12_All.f
  have := refall_loop l hok hl l.length 0 0 (by omega) (by omega)
  simpa using this
theorem SandboxAll_loop (l : List S32) (hl : l.length ≤ 50) : ∀ (d : Nat) (x : Int), 0 ≤ x → x + d = (l.length : Int) → (∀ p ∈ l.take x.toNat, shortB p.f3 = true) → Ev (fun k => glacislaw12_SandboxAll.l0 k l true x) true := by
  intro d
  induction d with
  | zero =>
    intro x h0 hd hp
    have hok : okP l := fun p h => by
      have := okL_of_short (hp p (by rw [List.take_of_length_le (by omega)]; exact h))
      exact ⟨this.1, by omega⟩
    refine Ev.step (f := fun k => (sandbox_All.f k l).bind fun t178 => (glacisref12_All.f k l).bind fun t179 => some (t178 == t179)) (fun k => ?_) (Ev.bind (all_ev l hok (by omega)) (Ev.bind (refall_ev l hok (by omega)) (Ev.const (by simp))))
    simp only [glacislaw12_SandboxAll.l0]
    rw [if_neg (by omega), if_pos trivial]
  | succ d ih =>
    intro x h0 hd hp
    have hlt : x.toNat < l.length := by omega
    have hrd : rd_T32 l x = l[x.toNat] := by unfold rd_T32; rw [List.getD_eq_getElem?_getD, List.getElem?_eq_getElem hlt]; rfl
    have hw : wrap64 (x + 1) = x + 1 := w64 (by omega) (by omega)
    refine Ev.step (f := fun k => (glacislaw12_short.f k (l[x.toNat]).f3).bind fun t177 => if t177 = true then glacislaw12_SandboxAll.l0 k l true (x + 1) else some true) (fun k => ?_) (Ev.bind (short_ev _) ?_)
    · simp only [glacislaw12_SandboxAll.l0]
      rw [if_pos (by omega), if_pos h0, hrd, hw]
    · by_cases hs : shortB (l[x.toNat]).f3 = true
      · refine Ev.iteT hs (ih (x + 1) (by omega) (by omega) ?_)
        rw [show (x + 1).toNat = x.toNat + 1 by omega, List.take_succ_eq_append_getElem hlt]
        intro p hp2
        rcases List.mem_append.1 hp2 with h | h
        · exact hp p h
        · rw [List.mem_singleton.1 h]; exact hs
      · exact Ev.iteF hs (Ev.now _)
theorem SandboxAll_pure (l : List S32) : ∃ k, glacislaw12_SandboxAll.f k l = some true := by
  apply Ev.rounds
  unfold glacislaw12_SandboxAll.f
  refine Ev.bind awake_ev ?_
  by_cases h : (l.length : Int) > 50
  · exact Ev.iteT h (Ev.now _)
  · exact Ev.iteF h (SandboxAll_loop l (by omega) l.length 0 (by omega) (by omega) (by simp))

/-! ### the sum -/
theorem and_one (s : ByteArray) : ∀ b0 b1 b2 b3 b4 b5 : Bool, Go.bits .and .i64 (enc b0 b1 b2 b3 b4 b5) (encOf [s]) = enc (b0 || hasW 0 [s]) (b1 || hasW 1 [s]) (b2 || hasW 2 [s]) (b3 || hasW 3 [s]) (b4 || hasW 4 [s]) (b5 || hasW 5 [s]) := by
  have : ∀ b0 b1 b2 b3 b4 b5 c0 c1 c2 c3 c4 c5 : Bool, Go.bits .and .i64 (enc b0 b1 b2 b3 b4 b5) (enc c0 c1 c2 c3 c4 c5) = enc (b0 || c0) (b1 || c1) (b2 || c2) (b3 || c3) (b4 || c4) (b5 || c5) := by decide +kernel
  intros
  exact this _ _ _ _ _ _ _ _ _ _ _ _
theorem and_take (l : List ByteArray) (n : Nat) (hn : n < l.length) : Go.bits .and .i64 (encOf (l.take n)) (encOf [l[n]]) = encOf (l.take (n + 1)) := by
  unfold encOf
  have h := and_one l[n] (hasW 0 (l.take n)) (hasW 1 (l.take n)) (hasW 2 (l.take n)) (hasW 3 (l.take n)) (hasW 4 (l.take n)) (hasW 5 (l.take n))
  unfold encOf at h
  rw [h, List.take_succ_eq_append_getElem hn]
  simp only [hasW, List.any_append]
theorem or_zero (l : List ByteArray) : Go.bits .or .i64 0 (encOf l) = encOf l := by
  obtain ⟨m, hm⟩ := encOf_fin l
  have : ∀ m : Fin 64, Go.bits .or .i64 0 (m.val : Int) = (m.val : Int) := by decide +kernel
  rw [← hm]; exact this m
theorem SandboxSum_loop (l : List ByteArray) (hok : okL l) (hl : l.length ≤ 60) : ∀ (d : Nat) (x : Int), 0 ≤ x → x + d = (l.length : Int) → Ev (fun k => glacislaw12_SandboxSum.l0 k l true (encOf (l.take x.toNat)) x) true := by
  intro d
  induction d with
  | zero =>
    intro x h0 hd
    rw [List.take_of_length_le (by omega)]
    have hokP : okP [(⟨false, ([] : List ByteArray), true, l⟩ : S32), (⟨false, ([] : List ByteArray), false, l⟩ : S32)] := by
      intro p hp
      simp only [List.mem_cons, List.not_mem_nil, or_false] at hp
      rcases hp with rfl | rfl
      · exact ⟨hok, by simp only; omega⟩
      · exact ⟨hok, by simp only; omega⟩
    have ha : allOf [(⟨false, ([] : List ByteArray), true, l⟩ : S32), (⟨false, ([] : List ByteArray), false, l⟩ : S32)] 0 = encOf l := by
      simp only [allOf, List.foldl_cons, List.foldl_nil]
      rw [if_neg (by decide), if_pos trivial, or_zero]
    refine Ev.step (f := fun k => (sandbox_All.f k [(⟨false, ([] : List ByteArray), true, l⟩ : S32), (⟨false, ([] : List ByteArray), false, l⟩ : S32)]).bind fun t254 => (sandbox_Flags.f l).bind fun t255 => if t255 = encOf l then some (t254 == encOf l) else none) (fun k => ?_) (Ev.bind (all_ev _ hokP (by simp)) (Ev.bind (Ev.const (flags_f l hok)) (Ev.iteT rfl (Ev.const ?_))))
    · simp only [glacislaw12_SandboxSum.l0]
      rw [if_neg (by omega)]
      simp only [if_true]
    · rw [ha]; simp
  | succ d ih =>
    intro x h0 hd
    have hlt : x.toNat < l.length := by omega
    have hw : wrap64 (x + 1) = x + 1 := w64 (by omega) (by omega)
    have hone : (l.take (x + 1).toNat).drop x.toNat = [l[x.toNat]] := by
      rw [show (x + 1).toNat = x.toNat + 1 by omega, List.take_succ_eq_append_getElem hlt, List.drop_append_of_le_length (by rw [List.length_take]; omega), List.drop_of_length_le (by rw [List.length_take]; omega)]
      rfl
    have h1 := ih (x + 1) (by omega) (by omega)
    rw [show (x + 1).toNat = x.toNat + 1 by omega, ← and_take l x.toNat hlt] at h1
    refine Ev.step (fun k => ?_) h1
    simp only [glacislaw12_SandboxSum.l0]
    rw [if_pos (by omega), if_pos h0, hw, if_pos (by omega), if_pos (by omega), hone, flags_f _ (fun s hs => by rw [List.mem_singleton.1 hs]; exact hok _ (List.getElem_mem hlt))]
    rfl
theorem SandboxSum_pure (l : List ByteArray) : ∃ k, glacislaw12_SandboxSum.f k l = some true := by
  apply Ev.rounds
  unfold glacislaw12_SandboxSum.f
  refine Ev.bind awake_ev (Ev.bind (short_ev l) ?_)
  by_cases hs : shortB l = true
  · obtain ⟨hok, hlen⟩ := okL_of_short hs
    refine Ev.iteT hs ?_
    by_cases h60 : (l.length : Int) > 60
    · rw [decide_eq_true h60]
      exact Ev.step (f := fun _ => some true) (fun k => by simp only [glacislaw12_SandboxSum.j0, if_true]) (Ev.now _)
    · rw [decide_eq_false h60]
      have h := SandboxSum_loop l hok (by omega) l.length 0 (by omega) (by omega)
      exact Ev.step (fun k => by simp [glacislaw12_SandboxSum.j0]; rfl) h
  · exact Ev.iteF hs (Ev.step (f := fun _ => some true) (fun k => by simp only [glacislaw12_SandboxSum.j0, if_true]) (Ev.now _))
end Go.Proofs.Ytdccplnfnjpfpaa.X
