import Derived.Test.YtbkahblcabmdkaaFb
/-! What adding, setting and removing make of a tree's list: no walk. -/
namespace Go.Proofs.Ytbkahblcabmdkaa.F
open Go.RowKit Go.Proofs.YtbkahblcabmdkaaW.PrintWords Go.Proofs.Ytbkahblcabmdkaa.X
set_option linter.unusedVariables false

theorem chain_same (F G : List Fr) (P : Int → Prop) (h : ∀ a, P a → a ≠ 0 → parF G a = parF F a ∧ P (parF F a)) : ∀ (n : Nat) (a : Int), P a → chain G n a = chain F n a
  | 0, a, _ => rfl
  | n + 1, a, ha => by
    unfold chain
    by_cases hz : a = 0
    · rw [if_pos hz, if_pos hz]
    · rw [if_neg hz, if_neg hz, (h a ha hz).1, chain_same F G P h n _ (h a ha hz).2]
theorem getF_find (F : List Fr) (k : Int) : getF F k = F.find? (fun f => f.f0 == k) := by
  unfold getF look prs
  rw [List.find?_map]
  cases h : F.find? ((fun f => f.1 == k) ∘ fun f => (f.f0, f)) with
  | none => simp only [Option.map_none]; exact h.symm
  | some f => simp only [Option.map_some]; exact h.symm
theorem par_ok {s : Tr} (h : s.fine) (a : Int) (ha : a = 0 ∨ (getF s.F a).isSome = true) (hz : a ≠ 0) : parF s.F a = 0 ∨ (getF s.F (parF s.F a)).isSome = true := by
  obtain ⟨f, hf⟩ := Option.isSome_iff_exists.1 (ha.resolve_left hz)
  have hp : parF s.F a = f.f1 := by unfold parF; rw [hf]; rfl
  rw [hp]
  exact (h.par f (getF_mem hf).1).elim .inl (fun h => .inr h.2.2)
theorem getF_zero {s : Tr} (h : s.fine) : getF s.F 0 = none := by
  cases hg : getF s.F 0 with
  | none => rfl
  | some f =>
    obtain ⟨hm, he⟩ := getF_mem hg
    have := h.ids f hm
    omega
/-! ### Set -/
def setF (F : List Fr) (k d : Int) : List Fr := F.map fun f => if f.f0 == k then ⟨f.f0, f.f1, d⟩ else f
theorem setF_id (k d : Int) (f : Fr) : (if f.f0 == k then (⟨f.f0, f.f1, d⟩ : Fr) else f).f0 = f.f0 := by split <;> rfl
theorem setF_par (k d : Int) (f : Fr) : (if f.f0 == k then (⟨f.f0, f.f1, d⟩ : Fr) else f).f1 = f.f1 := by split <;> rfl
theorem getF_setF (F : List Fr) (k d a : Int) : getF (setF F k d) a = (getF F a).map fun f => if f.f0 == k then ⟨f.f0, f.f1, d⟩ else f := by
  rw [getF_find, getF_find, setF, List.find?_map]
  congr 1
  congr 1
  funext f
  simp only [Function.comp, setF_id]
theorem setF_fine {s : Tr} (h : s.fine) (k d : Int) : (⟨s.most, s.last, setF s.F k d⟩ : Tr).fine := by
  have hpar : ∀ a, parF (setF s.F k d) a = parF s.F a := by
    intro a
    unfold parF
    rw [getF_setF]
    cases getF s.F a with
    | none => rfl
    | some f => simp only [Option.map_some, Option.getD_some, setF_par]
  have hanc : ∀ a, anc (setF s.F k d) a = anc s.F a := fun a => chain_same s.F (setF s.F k d) (fun _ => True) (fun a _ _ => ⟨hpar a, trivial⟩) _ a trivial
  refine ⟨h.m0, h.m1, h.l0, h.l1, ?_, ?_, ?_, ?_, ?_⟩
  · show (setF s.F k d).Pairwise _
    unfold setF
    rw [List.pairwise_map]
    exact h.rise.imp (fun {a b} hab => by rw [setF_id, setF_id]; exact hab)
  · intro f hf
    obtain ⟨g, hg, rfl⟩ := List.mem_map.1 hf
    rw [setF_id]; exact h.ids g hg
  · intro f hf
    obtain ⟨g, hg, rfl⟩ := List.mem_map.1 hf
    rw [setF_id, setF_par]
    rcases h.par g hg with h1 | ⟨h1, h2, h3⟩
    · exact .inl h1
    · refine .inr ⟨h1, h2, ?_⟩
      show (getF (setF s.F k d) g.f1).isSome = true
      rw [getF_setF, Option.isSome_map]; exact h3
  · show ((setF s.F k d).length : Int) ≤ _
    unfold setF; rw [List.length_map]; exact h.room
  · intro f hf
    obtain ⟨g, hg, rfl⟩ := List.mem_map.1 hf
    show (anc (setF s.F k d) _).length ≤ 15
    rw [setF_par, hanc]; exact h.deep g hg
theorem set_perm (k d : Int) : ∀ {F : List Fr}, F.Pairwise (fun a b => a.f0 < b.f0) → ∀ {f : Fr}, f ∈ F → f.f0 = k → ((prs F).filter (fun x => !(x.1 == k)) ++ [(k, (⟨f.f0, f.f1, d⟩ : Fr))]).Perm (prs (setF F k d))
  | [], _, _, hf, _ => by cases hf
  | x :: xs, hn, f, hf, he => by
    rw [List.pairwise_cons] at hn
    by_cases hx : x.f0 = k
    · have hfx : f = x := by
        rcases List.mem_cons.1 hf with e | hf
        · exact e
        · have := hn.1 f hf; omega
      have hrest : ∀ y ∈ xs, (y.f0 == k) = false := fun y hy => by have := hn.1 y hy; simp; omega
      have e1 : (prs xs).filter (fun x => !(x.1 == k)) = prs xs := by
        rw [List.filter_eq_self]
        intro y hy
        obtain ⟨z, hz, rfl⟩ := List.mem_map.1 hy
        simp [hrest z hz]
      have e2 : setF xs k d = xs := by
        unfold setF
        rw [List.map_congr_left (g := id) (fun y hy => by rw [hrest y hy]; rfl), List.map_id]
      have hb : (x.f0 == k) = true := by simpa using hx
      subst hfx
      have g1 : (prs (f :: xs)).filter (fun x => !(x.1 == k)) = prs xs := by
        show List.filter _ ((f.f0, f) :: prs xs) = _
        rw [List.filter_cons_of_neg (by simp [hb]), e1]
      have g2 : prs (setF (f :: xs) k d) = (k, (⟨f.f0, f.f1, d⟩ : Fr)) :: prs xs := by
        show prs ((if f.f0 == k then (⟨f.f0, f.f1, d⟩ : Fr) else f) :: setF xs k d) = _
        rw [if_pos hb, e2]
        show ((_, _) :: _ : List (Int × Fr)) = _
        rw [show (⟨f.f0, f.f1, d⟩ : Fr).f0 = k from hx]
        rfl
      rw [g1, g2]
      exact List.perm_append_singleton _ _
    · have hb : (x.f0 == k) = false := by simpa using hx
      have hf' : f ∈ xs := by
        rcases List.mem_cons.1 hf with e | hf
        · exact absurd (by rw [← e]; exact he) hx
        · exact hf
      have ih := set_perm k d hn.2 hf' he
      have g1 : (prs (x :: xs)).filter (fun x => !(x.1 == k)) = (x.f0, x) :: (prs xs).filter (fun x => !(x.1 == k)) := by
        show List.filter _ ((x.f0, x) :: prs xs) = _
        rw [List.filter_cons_of_pos (by simp [hb])]
      have g2 : prs (setF (x :: xs) k d) = (x.f0, x) :: prs (setF xs k d) := by
        show prs ((if x.f0 == k then (⟨x.f0, x.f1, d⟩ : Fr) else x) :: setF xs k d) = _
        rw [if_neg (by simp [hb])]
        rfl
      rw [g1, g2, List.cons_append]
      exact ih.cons _
/-! ### Add -/
def depthF (s : Tr) (p : Int) : Int := if p = 0 then 1 else ((ancF s p).1.length : Int) + 2
def addF (s : Tr) (p : Int) : Int × Int × Tr :=
  if p ≠ 0 ∧ getF s.F p = none then (0, 161, s)
  else if (s.F.length : Int) ≥ s.most ∨ depthF s p > 16 then (0, 160, s)
  else (s.last + 1, 0, ⟨s.most, s.last + 1, s.F ++ [⟨s.last + 1, p, 0⟩]⟩)
theorem getF_app {s : Tr} (h : s.fine) (n : Fr) (hn : n.f0 = s.last + 1) (a : Int) (ha : a ≤ s.last) : getF (s.F ++ [n]) a = getF s.F a := by
  rw [getF_find, getF_find, List.find?_append]
  have : [n].find? (fun f => f.f0 == a) = none := by
    rw [List.find?_cons_of_neg (by simp; omega)]; rfl
  rw [this, Option.or_none]
theorem some_le {s : Tr} (h : s.fine) {a : Int} (ha : (getF s.F a).isSome = true) : 1 ≤ a ∧ a ≤ s.last := by
  obtain ⟨f, hf⟩ := Option.isSome_iff_exists.1 ha
  obtain ⟨hm, he⟩ := getF_mem hf
  have := h.ids f hm
  omega
theorem add_fine {s : Tr} (h : s.fine) (p : Int) (hp : p = 0 ∨ (getF s.F p).isSome = true) (hr : (s.F.length : Int) < s.most) (hd : depthF s p ≤ 16) (hl : s.last < 4611686018427387904) : (⟨s.most, s.last + 1, s.F ++ [⟨s.last + 1, p, 0⟩]⟩ : Tr).fine := by
  have hget : ∀ a, a ≤ s.last → getF (s.F ++ [⟨s.last + 1, p, 0⟩]) a = getF s.F a := fun a ha => getF_app h _ rfl a ha
  have hle : ∀ a, (a = 0 ∨ (getF s.F a).isSome = true) → a ≤ s.last := fun a ha => by
    rcases ha with rfl | ha
    · exact h.l0
    · exact (some_le h ha).2
  have hanc : ∀ a, (a = 0 ∨ (getF s.F a).isSome = true) → anc (s.F ++ [⟨s.last + 1, p, 0⟩]) a = anc s.F a := fun a ha =>
    chain_same s.F _ (fun a => a = 0 ∨ (getF s.F a).isSome = true) (fun a ha hz => ⟨by unfold parF; rw [hget a (hle a ha)], par_ok h a ha hz⟩) _ a ha
  refine ⟨h.m0, h.m1, by have := h.l0; show 0 ≤ s.last + 1; omega, by show s.last + 1 ≤ _; omega, ?_, ?_, ?_, ?_, ?_⟩
  · show (s.F ++ [_]).Pairwise _
    rw [List.pairwise_append]
    refine ⟨h.rise, List.pairwise_singleton _ _, fun a ha b hb => ?_⟩
    rw [List.mem_singleton] at hb
    subst hb
    have := (h.ids a ha).2
    show a.f0 < s.last + 1
    omega
  · intro f hf
    rcases List.mem_append.1 hf with hf | hf
    · have := h.ids f hf; show 1 ≤ f.f0 ∧ f.f0 ≤ s.last + 1; omega
    · rw [List.mem_singleton] at hf; subst hf; have := h.l0; show 1 ≤ s.last + 1 ∧ s.last + 1 ≤ s.last + 1; omega
  · intro f hf
    show f.f1 = 0 ∨ 1 ≤ f.f1 ∧ f.f1 < f.f0 ∧ (getF (s.F ++ [⟨s.last + 1, p, 0⟩]) f.f1).isSome = true
    rcases List.mem_append.1 hf with hf | hf
    · rcases h.par f hf with h1 | ⟨h1, h2, h3⟩
      · exact .inl h1
      · exact .inr ⟨h1, h2, by rw [hget _ (some_le h h3).2]; exact h3⟩
    · rw [List.mem_singleton] at hf
      subst hf
      rcases hp with h1 | h1
      · exact .inl h1
      · have := some_le h h1
        refine .inr ⟨this.1, ?_, ?_⟩
        · show p < s.last + 1; omega
        · show (getF _ p).isSome = true; rw [hget _ this.2]; exact h1
  · show ((s.F ++ [_]).length : Int) ≤ s.most
    rw [List.length_append, List.length_singleton]; omega
  · intro f hf
    show (anc (s.F ++ [⟨s.last + 1, p, 0⟩]) f.f1).length ≤ 15
    rcases List.mem_append.1 hf with hf | hf
    · rw [hanc _ ((h.par f hf).elim .inl (fun h => .inr h.2.2))]; exact h.deep f hf
    · rw [List.mem_singleton] at hf
      subst hf
      show (anc _ p).length ≤ 15
      rw [hanc p hp]
      rcases hp with rfl | h1
      · simp [anc_zero]
      · obtain ⟨q, hq⟩ := Option.isSome_iff_exists.1 h1
        rw [anc_step h hq, List.length_cons]
        have hz : p ≠ 0 := by have := some_le h h1; omega
        unfold depthF ancF at hd
        rw [if_neg hz, hq] at hd
        simp only at hd
        omega
theorem add_prs {s : Tr} (h : s.fine) (p : Int) : (prs s.F).filter (fun x => !(x.1 == s.last + 1)) ++ [(s.last + 1, (⟨s.last + 1, p, 0⟩ : Fr))] = prs (s.F ++ [⟨s.last + 1, p, 0⟩]) := by
  have : (prs s.F).filter (fun x => !(x.1 == s.last + 1)) = prs s.F := by
    rw [List.filter_eq_self]
    intro y hy
    obtain ⟨z, hz, rfl⟩ := List.mem_map.1 hy
    have := (h.ids z hz).2
    simp; omega
  rw [this]
  simp [prs]
/-! ### Below, Remove -/
def belStep (id : Int) (out : List Int) (f : Fr) : List Int := if (id :: out).contains f.f0 || (id :: out).contains f.f1 then out ++ [f.f0] else out
def belL (F : List Fr) (id : Int) : List Int := F.foldl (belStep id) []
def belF (s : Tr) (id : Int) : List Int × Int := match getF s.F id with
  | none => ([], 161)
  | some _ => (belL s.F id, 0)
def remL (F : List Fr) (gone : List Int) : List Fr := F.filter fun f => !(gone.contains f.f0)
def remF (s : Tr) (id : Int) : List Int × Int × Tr := ((belF s id).1, (belF s id).2, ⟨s.most, s.last, remL s.F (belF s id).1⟩)
theorem bel_mono (id : Int) : ∀ (F : List Fr) (out : List Int), ∀ x ∈ out, x ∈ F.foldl (belStep id) out
  | [], out, x, h => h
  | f :: F, out, x, h => bel_mono id F _ x (by unfold belStep; split; exact List.mem_append_left _ h; exact h)
theorem bel_new (id : Int) : ∀ (F : List Fr) (out : List Int), ∀ x ∈ F.foldl (belStep id) out, x ∈ out ∨ ∃ f ∈ F, f.f0 = x
  | [], out, x, h => .inl h
  | f :: F, out, x, h => by
    rcases bel_new id F _ x h with h | ⟨g, hg, e⟩
    · unfold belStep at h
      split at h
      · rcases List.mem_append.1 h with h | h
        · exact .inl h
        · exact .inr ⟨f, by simp, (List.mem_singleton.1 h).symm⟩
      · exact .inl h
    · exact .inr ⟨g, by simp [hg], e⟩
/-- Whatever lies in what goes, goes. -/
theorem bel_par {id : Int} : ∀ (F : List Fr) (out : List Int), F.Pairwise (fun a b => a.f0 < b.f0) → ∀ f ∈ F, (f.f0 = id ∨ f.f1 = id ∨ f.f1 ∈ out ∨ ∃ g ∈ F, g.f0 = f.f1 ∧ g.f0 < f.f0 ∧ g.f0 ∈ F.foldl (belStep id) out) → (∀ x ∈ out, ∀ h ∈ F, x ≠ h.f0) → f.f0 ∈ F.foldl (belStep id) out
  | [], _, _, f, hf, _, _ => by cases hf
  | y :: F, out, hn, f, hf, h, ho => by
    rw [List.pairwise_cons] at hn
    have hyn : ∀ x ∈ belStep id out y, ∀ h ∈ F, x ≠ h.f0 := by
      intro x hx h hh
      unfold belStep at hx
      split at hx
      · rcases List.mem_append.1 hx with hx | hx
        · exact ho x hx h (by simp [hh])
        · have := hn.1 h hh
          rw [List.mem_singleton] at hx
          omega
      · exact ho x hx h (by simp [hh])
    rcases List.mem_cons.1 hf with rfl | hf
    · show f.f0 ∈ F.foldl (belStep id) (belStep id out f)
      apply bel_mono
      have hc : ((id :: out).contains f.f0 || (id :: out).contains f.f1) = true := by
        rcases h with h | h | h | ⟨g, hg, e1, e2, e3⟩
        · simp [h]
        · simp [h]
        · simp [h]
        · exfalso
          rcases List.mem_cons.1 hg with rfl | hg
          · omega
          · have := hn.1 g hg; omega
      unfold belStep
      rw [if_pos hc]
      simp
    · refine bel_par F _ hn.2 f hf ?_ hyn
      rcases h with h | h | h | ⟨g, hg, e1, e2, e3⟩
      · exact .inl h
      · exact .inr (.inl h)
      · exact .inr (.inr (.inl (by unfold belStep; split; exact List.mem_append_left _ h; exact h)))
      · rcases List.mem_cons.1 hg with rfl | hg
        · right; right; left
          rcases bel_new id F _ g.f0 e3 with h3 | ⟨k, hk, e4⟩
          · rw [← e1]; exact h3
          · have := hn.1 k hk; omega
        · exact .inr (.inr (.inr ⟨g, hg, e1, e2, e3⟩))
theorem getF_rem (F : List Fr) (gone : List Int) (a : Int) (ha : gone.contains a = false) : getF (remL F gone) a = getF F a := by
  rw [getF_find, getF_find, remL, List.find?_filter]
  congr 1
  funext f
  by_cases h : f.f0 = a
  · have hm : gone.contains f.f0 = false := by rw [h]; exact ha
    simp [h]
    simpa using ha
  · simp [h]
/-- A list of numbers that takes with it what lies within them. -/
def Shut (F : List Fr) (gone : List Int) : Prop := ∀ f ∈ F, gone.contains f.f0 = false → f.f1 = 0 ∨ gone.contains f.f1 = false
theorem rem_fine {s : Tr} (h : s.fine) (gone : List Int) (hg : Shut s.F gone) (h0 : gone.contains 0 = false) : (⟨s.most, s.last, remL s.F gone⟩ : Tr).fine := by
  have hmem : ∀ f ∈ remL s.F gone, f ∈ s.F ∧ gone.contains f.f0 = false := fun f hf => by
    have := List.mem_filter.1 hf
    exact ⟨this.1, by simpa using this.2⟩
  have hanc : ∀ a, (a = 0 ∨ (getF s.F a).isSome = true) ∧ gone.contains a = false → anc (remL s.F gone) a = anc s.F a := fun a ha =>
    chain_same s.F _ (fun a => (a = 0 ∨ (getF s.F a).isSome = true) ∧ gone.contains a = false) (fun a ha hz => by
      refine ⟨by unfold parF; rw [getF_rem _ _ _ ha.2], par_ok h a ha.1 hz, ?_⟩
      obtain ⟨f, hf⟩ := Option.isSome_iff_exists.1 (ha.1.resolve_left hz)
      have hp : parF s.F a = f.f1 := by unfold parF; rw [hf]; rfl
      rw [hp]
      obtain ⟨hm, he⟩ := getF_mem hf
      rcases hg f hm (by rw [he]; exact ha.2) with h1 | h1
      · rw [h1]; exact h0
      · exact h1) _ a ha
  refine ⟨h.m0, h.m1, h.l0, h.l1, h.rise.filter _, fun f hf => h.ids f (hmem f hf).1, ?_, ?_, ?_⟩
  · intro f hf
    obtain ⟨hf1, hf2⟩ := hmem f hf
    show f.f1 = 0 ∨ 1 ≤ f.f1 ∧ f.f1 < f.f0 ∧ (getF (remL s.F gone) f.f1).isSome = true
    rcases h.par f hf1 with h1 | ⟨h1, h2, h3⟩
    · exact .inl h1
    · rcases hg f hf1 hf2 with h4 | h4
      · omega
      · exact .inr ⟨h1, h2, by rw [getF_rem _ _ _ h4]; exact h3⟩
  · have := List.length_filter_le (fun f : Fr => !(gone.contains f.f0)) s.F
    have := h.room
    show ((remL s.F gone).length : Int) ≤ s.most
    unfold remL
    omega
  · intro f hf
    obtain ⟨hf1, hf2⟩ := hmem f hf
    show (anc (remL s.F gone) f.f1).length ≤ 15
    rw [hanc f.f1 ⟨(h.par f hf1).elim .inl (fun h => .inr h.2.2), ?_⟩]
    · exact h.deep f hf1
    · rcases hg f hf1 hf2 with h4 | h4
      · rw [h4]; exact h0
      · exact h4
theorem bel_shut {s : Tr} (h : s.fine) (id : Int) : Shut s.F (belL s.F id) := by
  intro f hf hc
  by_cases hz : f.f1 = 0
  · exact .inl hz
  · right
    rcases h.par f hf with h1 | ⟨h1, h2, h3⟩
    · exact absurd h1 hz
    · obtain ⟨g, hg⟩ := Option.isSome_iff_exists.1 h3
      obtain ⟨hgm, hge⟩ := getF_mem hg
      cases hc2 : (belL s.F id).contains f.f1 with
      | false => rfl
      | true =>
        exfalso
        have hin : f.f1 ∈ belL s.F id := by simpa using hc2
        have := bel_par s.F [] h.rise f hf (.inr (.inr (.inr ⟨g, hgm, hge, by omega, by rw [hge]; exact hin⟩))) (fun x hx => by cases hx)
        have h5 : f.f0 ∉ belL s.F id := by simpa using hc
        exact h5 this
theorem bel_zero {s : Tr} (h : s.fine) (id : Int) : (belL s.F id).contains 0 = false := by
  cases hc : (belL s.F id).contains 0 with
  | false => rfl
  | true =>
    have hin : (0 : Int) ∈ belL s.F id := by simpa using hc
    rcases bel_new id s.F [] 0 hin with h1 | ⟨f, hf, e⟩
    · cases h1
    · have := h.ids f hf; omega
theorem remF_fine {s : Tr} (h : s.fine) (id : Int) : (remF s id).2.2.fine := by
  unfold remF belF
  cases getF s.F id with
  | none =>
    have : remL s.F [] = s.F := by unfold remL; rw [List.filter_eq_self]; intro a _; rfl
    simp only [this]
    exact h
  | some f => exact rem_fine h _ (bel_shut h id) (bel_zero h id)
end Go.Proofs.Ytbkahblcabmdkaa.F
