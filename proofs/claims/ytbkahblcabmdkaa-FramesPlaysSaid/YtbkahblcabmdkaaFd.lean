import Derived.Test.YtbkahblcabmdkaaFc
import Derived.StillTailTactics
/-! The tree: New, Top, Set, Add. -/
namespace Go.Proofs.Ytbkahblcabmdkaa.F
open Go.RowKit Go.Proofs.YtbkahblcabmdkaaW.PrintWords Go.Proofs.Ytbkahblcabmdkaa.X
set_option linter.unusedVariables false

theorem ownsMap_fit {w : World} {b n : Nat} {D : DataW Unit} {R : Value → Option (DataW Unit × List MemPlace)} (h : w.ownsMap Try.prog 3 R b n D) : w.ownsMap Try.prog 3 R b (Maps.size D) D := by
  obtain ⟨es, clock, hb, F, hs, rfl⟩ := h
  exact ⟨es, clock, hb, F, by simp [Maps.size, length_sorted], rfl⟩
def fresh (m : Int) : Tr := ⟨m, 0, []⟩
theorem fresh_fine (m : Int) (h0 : 1 ≤ m) (h1 : m ≤ 200) : (fresh m).fine := ⟨h0, h1, Int.le_refl _, by show (0 : Int) ≤ _; omega, List.Pairwise.nil, (fun f h => by cases h), (fun f h => by cases h), (by show (0 : Int) ≤ m; omega), (fun f h => by cases h)⟩
set_option maxRecDepth 100000 in
theorem new_bad (m : Int) (hm : m < 1 ∨ 200 < m) (w : World) : Calls Try.prog 19 #[.int .i64 m] w fun e w' => e = .returned (.tuple #[.pointer none, .int .i64 1]) ∧ w = w' := by
  by_cases h0 : m < 1
  · go_enter Try.func19, Try.ntmps19
    go_wp2
    go_ret2
    exact ⟨rfl, rfl⟩
  · have h1 : 200 < m := by omega
    go_enter Try.func19, Try.ntmps19
    go_wp2
    go_ret2
    exact ⟨rfl, rfl⟩
set_option maxRecDepth 100000 in
theorem new_good (m : Int) (h0 : 1 ≤ m) (h1 : m ≤ 200) (w : World) : Calls Try.prog 19 #[.int .i64 m] w fun e w' => e = .returned (.tuple #[.pointer (some ⟨w.heap.size + 1, 0, none⟩), .int .i64 0]) ∧ TreeIn w' (w.heap.size + 1) w.heap.size (fresh m) ∧ Below w.heap.size w w' := by
  have hu := Try.underlying68
  have hmm := @run_makeMap Try.prog
  go_enter Try.func19, Try.ntmps19
  go_wp2
  go_ret2
  have hz : (w.alloc (.map #[] 0)).heap.size = w.heap.size + 1 := by simp
  refine ⟨rfl, ⟨fresh_fine m h0 h1, ?_, 0, _, (World.ownsMap_made w Try.prog 3 frElem).alloc _, MapIs.nil _⟩, below_alloc (below_alloc (Below.refl _ _) _) _⟩
  rw [← hz]; exact (MapKept.heap_alloc _ _).1
/-- What Top answers. -/
def topF (s : Tr) (k : Int) : Int × Int := match getF s.F k with
  | none => (0, 161)
  | some f => ((anc s.F f.f1).getLast?.getD k, 0)
theorem getLast_at (l : List Int) (k : Int) (h : 0 < l.length) : l.getLast?.getD k = rd l ((l.length : Int) - 1) := by
  cases hl : l.getLast? with
  | none => rw [List.getLast?_eq_none_iff] at hl; subst hl; simp at h
  | some x =>
    rw [List.getLast?_eq_getElem?] at hl
    unfold rd
    rw [show ((l.length : Int) - 1).toNat = l.length - 1 by omega, List.getD_eq_getElem?_getD, hl]
    rfl
set_option maxRecDepth 100000 in
theorem top_calls (g bm : Nat) (s : Tr) (k : Int) (h0 : -9223372036854775808 ≤ k) (h1 : k ≤ 9223372036854775807) (w : World) (h : TreeIn w g bm s) :
    Calls Try.prog 24 #[.pointer (some ⟨g, 0, none⟩), .int .i64 k] w fun e w' => e = .returned (.tuple #[.int .i64 (topF s k).1, .int .i64 (topF s k).2]) ∧ Below w.heap.size w w' := by
  have HA := Lib.hid (ancestors_calls g bm s k h0 h1 w h)
  have hfine := h.fine
  clear h
  unfold ancF at HA
  unfold topF
  cases hg : getF s.F k with
  | none =>
    rw [hg] at HA
    simp only at HA ⊢
    go_enter Try.func24, Try.ntmps24
    go_wp2_with fail
    refine HA.out.mono ?_
    rintro e w1 ⟨v, rfl, hR, hb⟩
    have HB := Lib.hid hb
    clear hR hb
    go_wp2
    go_ret2
    exact ⟨rfl, HB.out⟩
  | some f =>
    rw [hg] at HA
    simp only at HA ⊢
    have hl := anc_len hfine hg
    obtain ⟨l, hl'⟩ : ∃ l, l = anc s.F f.f1 := ⟨_, rfl⟩
    rw [← hl'] at HA hl ⊢
    clear hl' hg
    go_enter Try.func24, Try.ntmps24
    go_wp2_with fail
    refine HA.out.mono ?_
    rintro e w1 ⟨v, rfl, hR, hb⟩
    have HB := Lib.hid hb
    obtain ⟨A, c, rfl⟩ := Kd.R_slice hR
    have hC := (Kd.R_reads' hR).2.2
    by_cases hz : l.length = 0
    · have hd : decide ((0 : Int) < (l.length : Int)) = false := decide_eq_false (by omega)
      have hd2 : decide (0 < l.length) = false := decide_eq_false (by omega)
      have e1 : l.getLast?.getD k = k := by rw [List.length_eq_zero_iff.1 hz]; rfl
      have HE := Lib.hid e1
      clear hR hb hC hz e1
      go_wp2
      go_ret2
      exact ⟨by rw [HE.out]; rfl, HB.out⟩
    · have hd : decide ((0 : Int) < (l.length : Int)) = true := decide_eq_true (by omega)
      have hd2 : decide (0 < l.length) = true := decide_eq_true (by omega)
      have hge := getLast_at l k (by omega)
      obtain ⟨ad, e1, hc⟩ := Kd.at_int hC ((l.length : Int) - 1) (by omega) (by omega)
      subst e1
      obtain ⟨x, hx⟩ : ∃ x, x = rd l ((l.length : Int) - 1) := ⟨_, rfl⟩
      rw [← hx] at hc hge
      have HE := Lib.hid hge
      have hln : 1 ≤ l.length := by omega
      have hc2 : w1.cell? (ad.add (l.length - 1)) = some (.int .i64 x) := by rw [show l.length - 1 = ((l.length : Int) - 1).toNat by omega]; exact hc
      clear hR hb hC hz hx hge
      go_wp2
      go_ret2
      exact ⟨by rw [HE.out]; rfl, HB.out⟩
set_option maxRecDepth 100000 in
set_option maxHeartbeats 1000000 in
theorem set_calls (g bm : Nat) (s : Tr) (k d : Int) (h0 : -9223372036854775808 ≤ k) (h1 : k ≤ 9223372036854775807) (w : World) (h : TreeIn w g bm s) :
    Calls Try.prog 25 #[.pointer (some ⟨g, 0, none⟩), .int .i64 k, .int .i64 d] w fun e w' => e = .returned (.int .i64 (if (getF s.F k).isSome = true then 0 else 161)) ∧ TreeIn w' g bm ⟨s.most, s.last, setF s.F k d⟩ ∧ Turn (fun i => i = bm) w w' := by
  have HG := Lib.hid (get_calls g bm s k h0 h1 w h)
  have HT := Lib.hid h
  clear h
  cases hg : getF s.F k with
  | none =>
    rw [hg] at HG
    have e1 : setF s.F k d = s.F := by
      unfold setF
      rw [List.map_congr_left (g := id) (fun f hf => ?_), List.map_id]
      rw [if_neg]
      · rfl
      · intro e
        have e2 : f.f0 = k := by simpa using e
        have := getF_of_mem HT.out.fine hf
        rw [e2, hg] at this
        cases this
    rw [e1]
    clear hg e1
    dsimp only [Option.isSome, Option.getD, frV] at HG
    go_enter Try.func25, Try.ntmps25
    go_wp2_with fail
    refine HG.out.mono ?_
    rintro e w1 ⟨rfl, hb⟩
    have HB := Lib.hid hb
    clear hb
    go_wp2
    go_ret
    exact ⟨rfl, HT.out.below (below_alloc HB.out _), Turn.of_below (below_alloc HB.out _)⟩
  | some f =>
    rw [hg] at HG
    dsimp only [Option.isSome, Option.getD, frV] at HG
    have HF := Lib.hid hg
    clear hg
    go_enter Try.func25, Try.ntmps25
    go_wp2_with fail
    refine HG.out.mono ?_
    rintro e w1 ⟨rfl, hb⟩
    have HB := Lib.hid hb
    have HT1 := Lib.hid (HT.out.below hb)
    clear hb
    go_wp2_with fail
    have hb2 := below_alloc HB.out (.cells #[.int .i64 f.f0, .int .i64 f.f1, .int .i64 d] 36)
    have ht2 := HT.out.below hb2
    have hn2 := blk_new w1 (.cells #[.int .i64 f.f0, .int .i64 f.f1, .int .i64 d] 36)
    obtain ⟨bf, hbf⟩ : ∃ k, k = w1.heap.size := ⟨_, rfl⟩
    rw [← hbf] at hn2 ⊢
    obtain ⟨w2, hw2⟩ : ∃ x, x = w1.alloc (.cells #[.int .i64 f.f0, .int .i64 f.f1, .int .i64 d] 36) := ⟨_, rfl⟩
    rw [← hw2] at hb2 ht2 hn2 ⊢
    have c2 : w2.cell? ⟨g, 2, none⟩ = some (.map (some bm)) := blk_cell ht2.t 2
    have k0 : w2.cell? ⟨bf, 0, none⟩ = some (.int .i64 f.f0) := blk_cell hn2 0
    have k1 : w2.cell? ⟨bf, 1, none⟩ = some (.int .i64 f.f1) := blk_cell hn2 1
    have k2 : w2.cell? ⟨bf, 2, none⟩ = some (.int .i64 d) := blk_cell hn2 2
    obtain ⟨n, D, hown0, hM⟩ := ht2.m
    have hown := ownsMap_fit hown0
    have hsz := hM.size
    have hlen : (prs s.F).length = s.F.length := by simp [prs]
    have hroom := HT.out.fine.room
    have hm1 := HT.out.fine.m1
    have HOWN := Lib.hid hown
    have HM := Lib.hid hM
    have HB2 := Lib.hid hb2
    have HT2 := Lib.hid ht2
    have hmax : Maps.size D < maxLen := by unfold maxLen; omega
    have HMAX := Lib.hid hmax
    clear hown0 hown hM hsz hlen hroom hm1 hb2 ht2 hn2 hw2 hbf HB HT1 hmax
    go_still_tail 6, (by kernel_rfl)
    refine Go.wpList_mapUpdate_own _ rfl _ _ _ 61 rfl 3 36 intLaw Try.underlying61 frElem bm (Maps.size D) D rfl (show World.ownsMap w2.drew _ _ _ _ _ _ from HOWN.out) HMAX.out (.int .i64 k) (.agg #[.int .i64 f.f0, .int .i64 f.f1, .int .i64 d]) (key k) rfl rfl (keyOf_mk h0 h1) (frD ⟨f.f0, f.f1, d⟩) [] rfl ?_
    intro w3 hown3 hg3
    have hf := HF.out
    have hm3 : MapIs frD (D.put (key k) (frD ⟨f.f0, f.f1, d⟩)) (prs (setF s.F k d)) := (HM.out.put_del k _).perm (set_perm k d HT.out.fine.rise (getF_mem hf).1 (getF_mem hf).2)
    have HT3 := Lib.hid (show TreeIn w3 g bm ⟨s.most, s.last, setF s.F k d⟩ from ⟨setF_fine HT.out.fine k d, blk_grown (w := w2.drew) HT2.out.t hg3 (by intro e; cases e; exact HT2.out.ne rfl), _, _, hown3, hm3⟩)
    have HU3 := Lib.hid (show Turn (fun i => i = bm) w w3 from ((Turn.of_below HB2.out).drew).grown hg3 (fun k e => by cases e; exact .inl rfl))
    clear hown3 hg3 hf hm3
    go_wp2
    go_ret
    exact ⟨rfl, HT3.out, HU3.out⟩
end Go.Proofs.Ytbkahblcabmdkaa.F
