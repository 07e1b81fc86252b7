import Derived.Test.YtbkahblcabmdkaaFq
/-! The reference's tree: Top, Below. -/
namespace Go.Proofs.Ytbkahblcabmdkaa.F
open Go.RowKit Go.Proofs.YtbkahblcabmdkaaW.PrintWords Go.Proofs.Ytbkahblcabmdkaa.X
set_option linter.unusedVariables false

set_option maxRecDepth 100000 in
theorem ref_top (g b : Nat) (S : Nat → Prop) (s : Tr) (k : Int) (w : World) (h : RefIn w b S g s) :
    Calls Try.prog 34 #[.pointer (some ⟨g, 0, none⟩), .int .i64 k] w fun e w' => e = .returned (.tuple #[.int .i64 (topF s k).1, .int .i64 (topF s k).2]) ∧ Below w.heap.size w w' := by
  have HA := Lib.hid (ref_anc g b S s k w h)
  have hfine := h.1
  clear h
  unfold ancF at HA
  unfold topF
  cases hg : getF s.F k with
  | none =>
    rw [hg] at HA
    simp only at HA ⊢
    go_enter Try.func34, Try.ntmps34
    go_wp2_with fail
    refine HA.out.mono ?_
    rintro e w1 ⟨v, rfl, hR, hb⟩
    have HB := Lib.hid hb
    clear hR hb
    go_wp2
    go_ret2
    exact ⟨rfl, HB.out⟩
  | some f =>
    rw [hg] at HA
    simp only at HA ⊢
    have hl := anc_len hfine hg
    obtain ⟨l, hl'⟩ : ∃ l, l = anc s.F f.f1 := ⟨_, rfl⟩
    rw [← hl'] at HA hl ⊢
    clear hl' hg
    go_enter Try.func34, Try.ntmps34
    go_wp2_with fail
    refine HA.out.mono ?_
    rintro e w1 ⟨v, rfl, hR, hb⟩
    have HB := Lib.hid hb
    obtain ⟨A, c, rfl⟩ := Kd.R_slice hR
    have hC := (Kd.R_reads' hR).2.2
    by_cases hz : l.length = 0
    · have hd : ((l.length : Int) == 0) = true := by simpa using hz
      have hd2 : (l.length == 0) = true := by simpa using hz
      have e1 : l.getLast?.getD k = k := by rw [List.length_eq_zero_iff.1 hz]; rfl
      have HE := Lib.hid e1
      clear hR hb hC hz e1
      go_wp2
      go_ret2
      exact ⟨by rw [HE.out]; rfl, HB.out⟩
    · have hd : ((l.length : Int) == 0) = false := by simp; intro e; rw [e] at hz; exact hz rfl
      have hd2 : (l.length == 0) = false := by simp; intro e; rw [e] at hz; exact hz rfl
      have hge := getLast_at l k (by omega)
      obtain ⟨ad, e1, hc⟩ := Kd.at_int hC ((l.length : Int) - 1) (by omega) (by omega)
      subst e1
      obtain ⟨x, hx⟩ : ∃ x, x = rd l ((l.length : Int) - 1) := ⟨_, rfl⟩
      rw [← hx] at hc hge
      have HE := Lib.hid hge
      have hln : 1 ≤ l.length := by omega
      have hc2 : w1.cell? (ad.add (l.length - 1)) = some (.int .i64 x) := by rw [show l.length - 1 = ((l.length : Int) - 1).toNat by omega]; exact hc
      clear hR hb hC hz hx hge
      go_wp2
      go_ret2
      exact ⟨by rw [HE.out]; rfl, HB.out⟩

theorem RefIn.cells {w : World} {b g : Nat} {S : Nat → Prop} {s : Tr} (h : RefIn w b S g s) : ∃ A c, ∀ w1, Below w.heap.size w w1 → w1.cell? ⟨g, 0, none⟩ = some (.slice A s.F.length c) ∧ Kd.C kFr w1 A s.F.length s.F := by
  obtain ⟨hfine, hS, hg, v, hb, hr⟩ := h
  obtain ⟨A, c, rfl⟩ := Kd.R_slice hr
  refine ⟨A, c, fun w1 h1 => ⟨blk_cell ((h1.block g (blk_lt hb)).trans hb) 0, Kd.C_below (Kd.R_reads' hr).2.2 h1⟩⟩
/-- What the reference looks at. -/
def refP (s : Tr) (id : Int) (f : Fr) : Bool := (anc s.F f.f1).contains id || f.f0 == id
theorem early {s : Tr} (h : s.fine) {k : Nat} (hk : k < s.F.length) {g : Fr} (hg : g ∈ s.F) (hl : g.f0 < s.F[k].f0) : g ∈ s.F.take k := by
  obtain ⟨j, hj, e⟩ := List.mem_iff_getElem.1 hg
  by_cases hjk : j < k
  · rw [← e]
    exact List.mem_iff_getElem.2 ⟨j, by simp; omega, by simp⟩
  · exfalso
    rcases Nat.lt_or_eq_of_le (Nat.le_of_not_lt hjk) with h1 | h1
    · have := List.pairwise_iff_getElem.1 h.rise k j hk hj h1
      rw [e] at this
      omega
    · subst h1
      rw [e] at hl
      omega
theorem late {s : Tr} (h : s.fine) {k : Nat} (hk : k < s.F.length) {g : Fr} (hg : g ∈ s.F.take k) : g.f0 < s.F[k].f0 := by
  obtain ⟨j, hj, e⟩ := List.mem_iff_getElem.1 hg
  have hj2 : j < k ∧ j < s.F.length := by simp at hj; omega
  have := List.pairwise_iff_getElem.1 h.rise j k hj2.2 hk hj2.1
  rw [List.getElem_take] at e
  rw [← e]; exact this
theorem step_ref {s : Tr} (h : s.fine) {id : Int} (hid : (getF s.F id).isSome = true) {k : Nat} (hk : k < s.F.length) :
    ((id :: ((s.F.take k).filter (refP s id)).map (·.f0)).contains s.F[k].f0 || (id :: ((s.F.take k).filter (refP s id)).map (·.f0)).contains s.F[k].f1) = refP s id s.F[k] := by
  have hib := some_le h hid
  have hfm := List.getElem_mem hk
  obtain ⟨f, hf⟩ : ∃ f, f = s.F[k] := ⟨_, rfl⟩
  have hlate : ∀ g ∈ s.F.take k, g.f0 < f.f0 := fun g hg => by rw [hf]; exact late h hk hg
  have hearly : ∀ g ∈ s.F, g.f0 < f.f0 → g ∈ s.F.take k := fun g hg hl => early h hk hg (by rw [← hf]; exact hl)
  rw [← hf] at hfm ⊢
  have hin : ∀ a, a ∈ ((s.F.take k).filter (refP s id)).map (·.f0) ↔ ∃ g ∈ s.F.take k, refP s id g = true ∧ g.f0 = a := by
    intro a
    simp only [List.mem_map, List.mem_filter, and_assoc]
  have hPt : ∀ g, refP s id g = true ↔ id ∈ anc s.F g.f1 ∨ g.f0 = id := by
    intro g
    unfold refP
    simp
  rw [Bool.eq_iff_iff, Bool.or_eq_true, List.contains_iff_mem, List.contains_iff_mem, List.mem_cons, List.mem_cons, hin, hin, hPt]
  constructor
  · rintro ((e | ⟨g, hg, hp, e⟩) | (e | ⟨g, hg, hp, e⟩))
    · exact .inr e
    · have := hlate g hg; omega
    · left
      have h1 : (getF s.F f.f1).isSome = true := by rw [e]; exact hid
      obtain ⟨q, hq⟩ := Option.isSome_iff_exists.1 h1
      rw [anc_step h hq, e]
      simp
    · left
      have hgm := List.mem_of_mem_take hg
      have hq := getF_of_mem h hgm
      rw [e] at hq
      rw [anc_step h hq]
      rcases (hPt g).1 hp with h1 | h1
      · exact List.mem_cons_of_mem _ h1
      · rw [← e, h1]; simp
  · rintro (h1 | h1)
    · right
      rcases h.par f hfm with h2 | ⟨h2, h3, h4⟩
      · rw [h2, anc_zero] at h1; cases h1
      · obtain ⟨q, hq⟩ := Option.isSome_iff_exists.1 h4
        rw [anc_step h hq] at h1
        obtain ⟨hqm, hqe⟩ := getF_mem hq
        rcases List.mem_cons.1 h1 with h1 | h1
        · exact .inl h1.symm
        · exact .inr ⟨q, hearly q hqm (by omega), (hPt q).2 (.inl h1), hqe⟩
    · exact .inl (.inl h1)
theorem ref_take (s : Tr) (id : Int) {k : Nat} (hk : k < s.F.length) : ((s.F.take (k + 1)).filter (refP s id)).map (·.f0) = if refP s id s.F[k] = true then ((s.F.take k).filter (refP s id)).map (·.f0) ++ [s.F[k].f0] else ((s.F.take k).filter (refP s id)).map (·.f0) := by
  rw [List.take_succ_eq_append_getElem hk, List.filter_append, List.map_append]
  split
  · rename_i h; simp [h]
  · rename_i h; simp [h]
theorem bel_ref {s : Tr} (h : s.fine) {id : Int} (hid : (getF s.F id).isSome = true) : ∀ k, k ≤ s.F.length → (s.F.take k).foldl (belStep id) [] = ((s.F.take k).filter (refP s id)).map (·.f0)
  | 0, _ => by simp
  | k + 1, hk => by
    rw [List.take_succ_eq_append_getElem (by omega), List.foldl_append, bel_ref h hid k (by omega), ← List.take_succ_eq_append_getElem (by omega), ref_take s id (by omega)]
    show belStep id _ _ = _
    unfold belStep
    rw [step_ref h hid (by omega)]
end Go.Proofs.Ytbkahblcabmdkaa.F
