import Derived.Test.YtbkahblcabmdkaaFp
/-! The reference's tree: Ancestors, Top. -/
namespace Go.Proofs.Ytbkahblcabmdkaa.F
open Go.RowKit Go.Proofs.YtbkahblcabmdkaaW.PrintWords Go.Proofs.Ytbkahblcabmdkaa.X
set_option linter.unusedVariables false

def sln : Value → Nat
  | .slice _ n _ => n
  | _ => 0
/-- Between two rounds. -/
structure QSt (w : World) (bq : Nat) (v : Value) (out : List Int) (q : Fr) (wr : World) : Prop where
  blk : wr.heap[bq]? = some (.cells #[.int .i64 q.f0, .int .i64 q.f1, .int .i64 q.f2] 36 (0, 0))
  out : Kd.R (Kd.int .i64) 3 wr w.heap.size (fun i => i ≠ bq) v out
  below : Below w.heap.size w wr
set_option maxRecDepth 100000 in
set_option maxHeartbeats 1000000 in
theorem ref_anc (g b : Nat) (S : Nat → Prop) (s : Tr) (k : Int) (w : World) (h : RefIn w b S g s) :
    Calls Try.prog 33 #[.pointer (some ⟨g, 0, none⟩), .int .i64 k] w fun e w' => ∃ v, e = .returned (.tuple #[v, .int .i64 (ancF s k).2]) ∧ Kd.R (Kd.int .i64) 3 w' w.heap.size (fun _ => True) v (ancF s k).1 ∧ Below w.heap.size w w' := by
  have HG := Lib.hid (ref_get g b S s k w h)
  have HT := Lib.hid h
  clear h
  cases hf : getF s.F k with
  | none =>
    rw [hf] at HG
    have e : ancF s k = ([], 161) := by unfold ancF; rw [hf]
    rw [e]
    clear e hf
    go_enter Try.func33, Try.ntmps33
    go_wp2_with fail
    refine HG.out.mono ?_
    rintro e w1 ⟨rfl, hb⟩
    have HB := Lib.hid hb
    clear hb
    dsimp only [Option.isSome, Option.getD, frV]
    go_wp2
    go_ret2
    exact ⟨_, rfl, Kd.R_nil _ _ _ _ _, below_alloc HB.out _⟩
  | some f =>
    rw [hf] at HG
    have e : ancF s k = (anc s.F f.f1, 0) := by unfold ancF; rw [hf]
    have hfm := (getF_mem hf).1
    have hfine := HT.out.1
    have hlen := anc_len hfine hf
    have hpar := hfine.par f hfm
    rw [e]
    clear e hf
    go_enter Try.func33, Try.ntmps33
    go_wp2_with fail
    refine HG.out.mono ?_
    rintro e w1 ⟨rfl, hb⟩
    have HB := Lib.hid hb
    clear hb
    dsimp only [Option.isSome, Option.getD, frV]
    go_wp2_with fail
    have hsome : f.f1 = 0 ∨ (getF s.F f.f1).isSome = true := hpar.elim .inl (fun h => .inr h.2.2)
    have hb1 : 0 ≤ f.f1 ∧ f.f1 ≤ 4611686018427387904 := by have := hfine.ids f hfm; have := hfine.l1; rcases hpar with h | h <;> omega
    have hn1 := blk_new w1 (.cells #[.int .i64 f.f0, .int .i64 f.f1, .int .i64 f.f2] 36)
    have hbw := HB.out.size
    obtain ⟨bq, hbq⟩ : ∃ x, x = w1.heap.size := ⟨_, rfl⟩
    rw [← hbq] at hn1 ⊢
    have HBQ : Hid (w.heap.size ≤ bq) := Lib.hid (by omega)
    have HST := Lib.hid (show QSt w bq (.slice none 0 0) [] f (w1.alloc (.cells #[.int .i64 f.f0, .int .i64 f.f1, .int .i64 f.f2] 36)) from ⟨hn1, Kd.R_nil _ _ _ _ _, below_alloc HB.out _⟩)
    have HS := Lib.hid hsome
    clear hsome HG hn1 hbq hbw
    obtain ⟨w2, hw2⟩ : ∃ x, x = w1.alloc (.cells #[.int .i64 f.f0, .int .i64 f.f1, .int .i64 f.f2] 36) := ⟨_, rfl⟩
    rw [← hw2] at HST ⊢
    clear hw2
    obtain ⟨p, hp⟩ : ∃ p, p = f.f1 := ⟨_, rfl⟩
    have hq0 : f.f1 = p := hp.symm
    rw [← hp] at HS hb1 hlen
    have HP := Lib.hid hp
    have HQ0 := Lib.hid hq0
    clear hp hpar hq0
    go_loopw [8] (fun v wr => ∃ (out : List Int) (q : Fr), sln v = out.length ∧ 0 ≤ q.f1 ∧ q.f1 ≤ 4611686018427387904 ∧ Hid (q.f1 = 0 ∨ (getF s.F q.f1).isSome = true) ∧ Hid (out ++ anc s.F q.f1 = anc s.F p) ∧ Hid (QSt w bq v out q wr)) (fun v _ => 200 - sln v)
    case atStart => exact ⟨[], f, rfl, by rw [HQ0.out]; exact hb1.1, by rw [HQ0.out]; exact hb1.2, by rw [HQ0.out]; exact HS, by rw [HQ0.out]; exact Lib.hid rfl, HST⟩
    case round =>
      clear HST HS w2
      obtain ⟨out, q, hsl, hx0, hx1, HX, HO, HA⟩ := hrel
      have k1 : wr.cell? ⟨bq, 1, none⟩ = some (.int .i64 q.f1) := blk_cell HA.out.blk 1
      obtain ⟨A, c, e1⟩ := Kd.R_slice HA.out.out
      subst e1
      by_cases hz : q.f1 = 0
      · rw [hz] at k1 HO
        go_wp2
        go_ret2
        refine ⟨_, rfl, ?_, HA.out.below⟩
        have := HO.out
        rw [anc_zero, List.append_nil] at this
        rw [← HP.out, ← this]
        exact Kd.R_mono HA.out.out (fun _ _ => trivial)
      · obtain ⟨q2, hq⟩ := Option.isSome_iff_exists.1 (HX.out.resolve_left hz)
        have hst := anc_step hfine hq
        have HQ := Lib.hid hq
        have hqp := hfine.par q2 (getF_mem hq).1
        have hqx : q2.f0 = q.f1 := (getF_mem hq).2
        have hqb : 0 ≤ q2.f1 ∧ q2.f1 < q.f1 := by rcases hqp with h | h <;> omega
        have HQS : Hid (q2.f1 = 0 ∨ (getF s.F q2.f1).isSome = true) := Lib.hid (hqp.elim .inl (fun h => .inr h.2.2))
        have hol : out.length ≤ 15 := by
          have := congrArg List.length HO.out
          rw [List.length_append] at this
          omega
        have HST2 := Lib.hid hst
        have hd : (q.f1 != 0) = true := by simpa using hz
        have hd2 : decide ((out.length : Int) < 200) = true := decide_eq_true (by omega)
        have hd3 : decide (out.length < 200) = true := decide_eq_true (by omega)
        obtain ⟨x, hx⟩ : ∃ x, x = q.f1 := ⟨_, rfl⟩
        rw [← hx] at k1 hd hx0 hx1 hqb HX HO HQ HST2 hz
        have HQX := Lib.hid hx
        clear hst hq hqp hqx hx
        go_wp2_with ((with_reducible refine gate_builtin (b := .append) (xs := #[.tmp 28, .tmp 31]) rfl ?_); at_builtin; refine Kd.R_append (Kd.int .i64) (w0 := w) w.heap.size rfl (.tmp 28) (.tmp 31) 25 3 (.int .i64 0) 8 rfl Try.underlying25 infoI rfl (by decide) (by omega) (.slice A out.length c) out x [.int .i64 x] (fun i => i ≠ bq) (fun _ => False) rfl rfl ?aP (fun _ hk => hk.elim) ?aF ?aO ?aB ?aS ?aL ?_; (case aP => exact rfl); (case aF => exact fun i hi => by have := blk_lt HA.out.blk; omega); (case aO => exact HA.out.out); (case aB => exact HA.out.below); (case aS => exact HA.out.below.size); (case aL => omega); intro v3 w3 hown hb3 hg3 hat3; obtain ⟨A3, c3, rfl⟩ := Kd.R_slice hown; have hk3 := blk_grown HA.out.blk hg3 (fun e => HA.out.out.1 bq e.symm rfl); have HA3 := Lib.hid (show QSt w bq _ (out ++ [x]) q w3 from ⟨hk3, hown, hb3⟩); have k1 : w3.cell? ⟨bq, 1, none⟩ = some (.int .i64 x) := (blk_cell hk3 1).trans (by rw [HQX.out]; rfl); have HGC := Lib.hid (ref_get g b S s x w3 (HT.out.below hb3)); clear hown hg3 hb3 hat3 hk3)
        refine HGC.out.mono ?_
        rintro e w4 ⟨rfl, hb⟩
        rw [HQ.out]
        dsimp only [Option.isSome, Option.getD, frV]
        have hk4 := (hb.block bq (blk_lt HA3.out.blk)).trans HA3.out.blk
        have HK4 := Lib.hid hk4
        have HO4 := Lib.hid (Kd.R_below HA3.out.out hb)
        have HB4 := Lib.hid (below_then HA3.out.below HA3.out.below.size hb)
        have hka := blk_alloc hk4 (.cells #[.int .i64 q2.f0, .int .i64 q2.f1, .int .i64 q2.f2] 36)
        have j0 := blk_cell hka 0
        have j1 := blk_cell hka 1
        have j2 := blk_cell hka 2
        have f0 := blk_frozen hka 0
        have f1 := blk_frozen hka 1
        have f2 := blk_frozen hka 2
        have HKA := Lib.hid hka
        clear hb hk4 hka HGC HA3 HA
        go_wp2
        go_roundw
        case rel =>
          refine ⟨out ++ [x], q2, by simp [sln], hqb.1, by omega, HQS, Lib.hid (by rw [List.append_assoc, List.singleton_append, ← HST2.out]; exact HO.out), Lib.hid ⟨?_, ?_, ?_⟩⟩
          · have := blk_set (blk_set (blk_set HKA.out 0 (.int .i64 q2.f0)) 1 (.int .i64 q2.f1)) 2 (.int .i64 q2.f2)
            simpa using this
          · have h5 := HO4.out
            rw [List.length_append, List.length_singleton] at h5
            exact Kd.R_far (p := ⟨bq, 2, none⟩) (Kd.R_far (p := ⟨bq, 1, none⟩) (Kd.R_far (p := ⟨bq, 0, none⟩) (Kd.R_below h5 (below_alloc (Below.refl _ _) _)) (fun k hk => hk) _) (fun k hk => hk) _) (fun k hk => hk) _
          · exact below_set (below_set (below_set (below_alloc HB4.out _) HBQ.out) HBQ.out) HBQ.out
        case measure => simp [sln]; omega
end Go.Proofs.Ytbkahblcabmdkaa.F
