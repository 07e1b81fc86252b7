import Derived.Test.YtbkahblcabmdkaaFg
/-! The tree: Remove; what calls on none answer. -/
namespace Go.Proofs.Ytbkahblcabmdkaa.F
open Go.RowKit Go.Proofs.YtbkahblcabmdkaaW.PrintWords Go.Proofs.Ytbkahblcabmdkaa.X
set_option linter.unusedVariables false

theorem rem_snoc (F : List Fr) (l : List Int) (x : Int) : prs (remL F (l ++ [x])) = (prs (remL F l)).filter fun f => !(f.1 == x) := by
  unfold prs remL
  rw [List.filter_map, List.filter_filter]
  congr 1
  apply List.filter_congr
  intro f _
  simp only [Function.comp, List.contains_append]
  have e : decide (f.f0 = x) = (f.f0 == x) := by rw [Bool.eq_iff_iff]; simp
  cases l.contains f.f0 <;> simp [e]
/-- Between two rounds. -/
structure DSt (w : World) (g bm : Nat) (s : Tr) (gone : List Int) (l : List Int) (v : Value) (wr : World) : Prop where
  t : wr.heap[g]? = some (.cells #[.int .i64 s.most, .int .i64 s.last, .map (some bm)] 68 (0, 0))
  m : ∃ n D, wr.ownsMap Try.prog 3 frElem bm n D ∧ MapIs frD D (prs (remL s.F l))
  r : Kd.R (Kd.int .i64) 3 wr w.heap.size (fun k => w.heap.size ≤ k) v gone
  turn : Turn (fun i => i = bm) w wr
theorem bel_ids {s : Tr} (h : s.fine) (id : Int) : ∀ x ∈ (belF s id).1, 1 ≤ x ∧ x ≤ 4611686018427387904 := by
  intro x hx
  unfold belF at hx
  split at hx
  · cases hx
  · rcases bel_new id s.F [] x hx with h1 | ⟨f, hf, e⟩
    · cases h1
    · have := id_bounds h hf; omega
theorem bel_len2 {s : Tr} (h : s.fine) (id : Int) : (belF s id).1.length ≤ 200 := by
  have := bel_len id s.F []
  have := h.room
  have := h.m1
  unfold belF belL
  split <;> simp at * <;> omega
set_option maxRecDepth 100000 in
set_option maxHeartbeats 1000000 in
theorem remove_calls (g bm : Nat) (s : Tr) (id : Int) (h0 : -9223372036854775808 ≤ id) (h1 : id ≤ 9223372036854775807) (w : World) (h : TreeIn w g bm s) :
    Calls Try.prog 13 #[.pointer (some ⟨g, 0, none⟩), .int .i64 id] w fun e w' => ∃ v, e = .returned (.tuple #[v, .int .i64 (remF s id).2.1]) ∧ Kd.R (Kd.int .i64) 3 w' w.heap.size (fun _ => True) v (remF s id).1 ∧ TreeIn w' g bm (remF s id).2.2 ∧ Turn (fun i => i = bm) w w' := by
  have HBC := Lib.hid (below_calls g bm s id h0 h1 w h)
  have HT := Lib.hid h
  have hfine := h.fine
  have HFN := Lib.hid (remF_fine hfine id)
  have HIDS := Lib.hid (bel_ids hfine id)
  have hgl := bel_len2 hfine id
  clear h
  unfold remF at HFN ⊢
  simp only at HFN ⊢
  obtain ⟨gone, hgone⟩ : ∃ l, l = (belF s id).1 := ⟨_, rfl⟩
  obtain ⟨er, her⟩ : ∃ l, l = (belF s id).2 := ⟨_, rfl⟩
  rw [← hgone] at HBC HFN HIDS hgl ⊢
  rw [← her] at HBC ⊢
  clear hgone her
  go_enter Try.func13, Try.ntmps13
  go_wp2_with fail
  refine HBC.out.mono ?_
  rintro e w1 ⟨v, rfl, hR, hb⟩
  obtain ⟨A, c, rfl⟩ := Kd.R_slice hR
  have hT1 := HT.out.below hb
  have HL := Lib.hid (show DSt w g bm s gone [] (.slice A gone.length c) w1 from ⟨hT1.t, by
    have : remL s.F [] = s.F := by unfold remL; rw [List.filter_eq_self]; intro a _; rfl
    rw [this]; exact hT1.m, Kd.R_mono (Kd.R_bound hR) (fun k hk => hk.2.1), Turn.of_below hb⟩)
  have hbm := HT.out.lt
  have hne := HT.out.ne
  have HBM := Lib.hid hbm
  have HNE := Lib.hid hne
  clear hR hb hT1 hbm hne HBC
  go_wp2_with fail
  go_loopw [18] (fun i wr => ∃ k : Nat, k ≤ gone.length ∧ i = .int .i64 k ∧ Hid (DSt w g bm s gone (gone.take k) (.slice A gone.length c) wr)) (fun i _ => gone.length - (RowKit.intOf i).toNat)
  case atStart => exact ⟨0, Nat.zero_le _, rfl, HL.out⟩
  case round =>
    clear HL
    obtain ⟨k, hk, rfl, HL⟩ := hrel
    by_cases hlt : k < gone.length
    · obtain ⟨ad, e1, hc⟩ := Kd.at_int (Kd.R_reads' HL.out.r).2.2 (k : Int) (by omega) (by omega)
      subst e1
      have hcast : (k : Int).toNat = k := by omega
      rw [hcast] at hc
      have hx : rd gone (k : Int) = gone[k] := by unfold rd; simp [hlt]
      rw [hx] at hc
      have hib := HIDS.out _ (List.getElem_mem hlt)
      have HTK : Hid (gone.take (k + 1) = gone.take k ++ [gone[k]]) := Lib.hid (List.take_succ_eq_append_getElem hlt)
      obtain ⟨x, hx2⟩ : ∃ x, x = gone[k] := ⟨_, rfl⟩
      rw [← hx2] at hc hib HTK
      have c2 : wr.cell? ⟨g, 2, none⟩ = some (.map (some bm)) := blk_cell HL.out.t 2
      obtain ⟨n, D, hown, hM⟩ := HL.out.m
      obtain ⟨w3, hrun3, hown3, htu3⟩ := hown.drop (t := 61) (e := 36) intLaw Try.underlying61 (keyOf_mk (k := x) (by omega) (by omega)) 0
      have hg3 := htu3.grown
      have HL3 := Lib.hid (show DSt w g bm s gone (gone.take k ++ [x]) (.slice (some ad) gone.length c) w3 from ⟨blk_grown HL.out.t hg3 (by intro e; cases e; exact HNE.out rfl), ⟨_, _, hown3, by rw [rem_snoc]; exact hM.del x⟩, Kd.R_grown HL.out.r hg3 (fun k hk e => by cases e; have := HBM.out.2; omega), HL.out.turn.grown hg3 (fun k e => by cases e; exact .inl rfl)⟩)
      clear hown hM hown3 htu3 hg3 hx hx2 hcast
      go_wp2
      go_roundw
      case rel => exact ⟨k + 1, by omega, by simp, by rw [HTK.out]; exact HL3.out⟩
      case measure => simp [RowKit.intOf]; omega
    · obtain rfl : k = gone.length := by omega
      rw [List.take_length] at HL
      go_wp2
      go_ret2
      exact ⟨_, rfl, Kd.R_mono HL.out.r (fun _ _ => trivial), ⟨HFN.out, HL.out.t, HL.out.m⟩, HL.out.turn⟩
/-! ### calls on none -/
set_option maxRecDepth 100000 in
theorem ancestors_nil (k : Int) (w : World) : Calls Try.prog 23 #[.pointer none, .int .i64 k] w fun e w' => e = .returned (.tuple #[.slice none 0 0, .int .i64 1]) ∧ Below w.heap.size w w' := by
  have HG := Lib.hid (get_nil k w)
  go_enter Try.func23, Try.ntmps23
  go_wp2_with fail
  refine HG.out.mono ?_
  rintro e w1 ⟨rfl, hb⟩
  have HB := Lib.hid hb
  clear hb
  dsimp only [frV, z0]
  go_wp2
  go_ret2
  exact ⟨rfl, below_alloc HB.out _⟩
set_option maxRecDepth 100000 in
theorem below_nil (k : Int) (w : World) : Calls Try.prog 12 #[.pointer none, .int .i64 k] w fun e w' => e = .returned (.tuple #[.slice none 0 0, .int .i64 1]) ∧ Below w.heap.size w w' := by
  have HG := Lib.hid (get_nil k w)
  go_enter Try.func12, Try.ntmps12
  go_wp2_with fail
  refine HG.out.mono ?_
  rintro e w1 ⟨rfl, hb⟩
  have HB := Lib.hid hb
  clear hb
  dsimp only [frV, z0]
  go_wp2
  go_ret2
  exact ⟨rfl, below_alloc HB.out _⟩
set_option maxRecDepth 100000 in
theorem remove_nil (k : Int) (w : World) : Calls Try.prog 13 #[.pointer none, .int .i64 k] w fun e w' => e = .returned (.tuple #[.slice none 0 0, .int .i64 1]) ∧ Below w.heap.size w w' := by
  have HG := Lib.hid (below_nil k w)
  go_enter Try.func13, Try.ntmps13
  go_wp2_with fail
  refine HG.out.mono ?_
  rintro e w1 ⟨rfl, hb⟩
  have HB := Lib.hid hb
  clear hb
  go_wp2_with fail
  go_loopw [18] (fun i wr => i = .int .i64 0 ∧ Hid (Below w.heap.size w wr)) (fun _ _ => 0)
  case atStart => exact ⟨rfl, HB.out⟩
  case round =>
    clear HB
    obtain ⟨rfl, HB⟩ := hrel
    go_wp2
    go_ret2
    exact ⟨rfl, HB.out⟩
set_option maxRecDepth 100000 in
theorem top_nil (k : Int) (w : World) : Calls Try.prog 24 #[.pointer none, .int .i64 k] w fun e w' => e = .returned (.tuple #[.int .i64 0, .int .i64 1]) ∧ Below w.heap.size w w' := by
  have HG := Lib.hid (ancestors_nil k w)
  go_enter Try.func24, Try.ntmps24
  go_wp2_with fail
  refine HG.out.mono ?_
  rintro e w1 ⟨rfl, hb⟩
  have HB := Lib.hid hb
  clear hb
  go_wp2
  go_ret2
  exact ⟨rfl, HB.out⟩
set_option maxRecDepth 100000 in
theorem set_nil (k d : Int) (w : World) : Calls Try.prog 25 #[.pointer none, .int .i64 k, .int .i64 d] w fun e w' => e = .returned (.int .i64 1) ∧ Below w.heap.size w w' := by
  have HG := Lib.hid (get_nil k w)
  go_enter Try.func25, Try.ntmps25
  go_wp2_with fail
  refine HG.out.mono ?_
  rintro e w1 ⟨rfl, hb⟩
  have HB := Lib.hid hb
  clear hb
  dsimp only [frV, z0]
  go_wp2
  go_ret
  exact ⟨rfl, below_alloc HB.out _⟩
end Go.Proofs.Ytbkahblcabmdkaa.F
