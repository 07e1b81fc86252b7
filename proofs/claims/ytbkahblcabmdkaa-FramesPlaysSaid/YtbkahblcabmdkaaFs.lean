import Derived.Test.YtbkahblcabmdkaaFr
/-! The reference's tree: Below, Remove. -/
namespace Go.Proofs.Ytbkahblcabmdkaa.F
open Go.RowKit Go.Proofs.YtbkahblcabmdkaaW.PrintWords Go.Proofs.Ytbkahblcabmdkaa.X
set_option linter.unusedVariables false

/-- Between two rounds. -/
structure NSt (wS : World) (out : List Int) (v : Value) (wr : World) : Prop where
  out : Kd.R (Kd.int .i64) 3 wr wS.heap.size (fun _ => True) v out
  below : Below wS.heap.size wS wr
theorem NSt.after {wS wr w1 : World} {out : List Int} {v : Value} (h : NSt wS out v wr) (hb : Below wr.heap.size wr w1) : NSt wS out v w1 := ⟨Kd.R_below h.out hb, below_then h.below h.below.size hb⟩
set_option maxRecDepth 100000 in
set_option maxHeartbeats 2000000 in
theorem ref_below (g b : Nat) (S : Nat → Prop) (s : Tr) (id : Int) (w : World) (h : RefIn w b S g s) :
    Calls Try.prog 35 #[.pointer (some ⟨g, 0, none⟩), .int .i64 id] w fun e w' => ∃ v, e = .returned (.tuple #[v, .int .i64 (belF s id).2]) ∧ Kd.R (Kd.int .i64) 3 w' w.heap.size (fun _ => True) v (belF s id).1 ∧ Below w.heap.size w w' := by
  have HG := Lib.hid (ref_get g b S s id w h)
  have HT := Lib.hid h
  obtain ⟨A, c, hcells⟩ := h.cells
  have HCL := Lib.hid hcells
  have hfine := h.1
  have hFl : s.F.length ≤ 200 := by have := hfine.room; have := hfine.m1; omega
  clear h hcells
  cases hf : getF s.F id with
  | none =>
    rw [hf] at HG
    have e : belF s id = ([], 161) := by unfold belF; rw [hf]
    rw [e]
    clear e hf
    go_enter Try.func35, Try.ntmps35
    go_wp2_with fail
    refine HG.out.mono ?_
    rintro e w1 ⟨rfl, hb⟩
    have HB := Lib.hid hb
    clear hb
    dsimp only [Option.isSome, Option.getD, frV]
    go_wp2
    go_ret2
    exact ⟨_, rfl, Kd.R_nil _ _ _ _ _, below_alloc HB.out _⟩
  | some f0 =>
    rw [hf] at HG
    have e : belF s id = (belL s.F id, 0) := by unfold belF; rw [hf]
    have HBR := Lib.hid (bel_ref hfine (id := id) (by rw [hf]; rfl))
    rw [e]
    clear e hf
    go_enter Try.func35, Try.ntmps35
    go_wp2_with fail
    refine HG.out.mono ?_
    rintro e w1 ⟨rfl, hb⟩
    have HB1 := Lib.hid (below_alloc hb (.cells #[.int .i64 f0.f0, .int .i64 f0.f1, .int .i64 f0.f2] 36))
    clear hb HG
    dsimp only [Option.isSome, Option.getD, frV]
    go_wp2_with fail
    obtain ⟨b6, hb6⟩ : ∃ x, x = w1.heap.size := ⟨_, rfl⟩
    obtain ⟨w2, hw2⟩ : ∃ x, x = w1.alloc (.cells #[.int .i64 f0.f0, .int .i64 f0.f1, .int .i64 f0.f2] 36) := ⟨_, rfl⟩
    rw [← hb6, ← hw2]
    rw [← hw2] at HB1
    clear hb6 hw2
    have HL := Lib.hid (show NSt w [] (.slice none 0 0) w2 from ⟨Kd.R_nil _ _ _ _ _, HB1.out⟩)
    clear HB1
    go_loopw [8, 9] (fun v i wr => ∃ k : Nat, k ≤ s.F.length ∧ i = .int .i64 k ∧ Hid (NSt w (((s.F.take k).filter (refP s id)).map (·.f0)) v wr)) (fun _ i _ => s.F.length - (RowKit.intOf i).toNat)
    case atStart => exact ⟨0, Nat.zero_le _, rfl, HL⟩
    case round =>
      clear HL
      obtain ⟨k, hk, rfl, HL⟩ := hrel
      obtain ⟨c0, hC⟩ := HCL.out wr HL.out.below
      by_cases hlt : k < s.F.length
      · obtain ⟨ad, e1, q0, q1, q2⟩ := at_T36 hC (k : Int) (by omega) (by omega)
        subst e1
        have hcast : (k : Int).toNat = k := by omega
        rw [hcast, rd_Fr _ _ hlt] at q0 q1 q2
        have HNX := Lib.hid (ref_take s id hlt)
        have hget := getF_of_mem hfine (List.getElem_mem hlt)
        have hal := anc_len hfine hget
        have hae : ancF s s.F[k].f0 = (anc s.F s.F[k].f1, 0) := by unfold ancF; rw [hget]
        have hra := ref_anc g b S s s.F[k].f0 wr (HT.out.below HL.out.below)
        rw [hae] at hra
        have HP : Hid (refP s id s.F[k] = ((anc s.F s.F[k].f1).contains id || s.F[k].f0 == id)) := Lib.hid rfl
        have hol : (((s.F.take k).filter (refP s id)).map (·.f0)).length ≤ 200 := by
          have := List.length_filter_le (refP s id) (s.F.take k)
          simp only [List.length_map, List.length_take] at this ⊢
          omega
        obtain ⟨f, hf⟩ : ∃ f, f = s.F[k] := ⟨_, rfl⟩
        rw [← hf] at q0 q1 q2 HNX hal hra HP
        obtain ⟨l, hl⟩ : ∃ l, l = anc s.F f.f1 := ⟨_, rfl⟩
        rw [← hl] at hal hra HP
        obtain ⟨out, hout⟩ : ∃ out, out = ((s.F.take k).filter (refP s id)).map (·.f0) := ⟨_, rfl⟩
        rw [← hout] at HL HNX hol
        have HRA := Lib.hid hra
        have HFK : Hid (rd_T36 s.F (k : Int) = f) := Lib.hid (by rw [rd_Fr _ _ hlt, hf])
        clear hcast hget hae hra hf hl hout hC
        go_wp2_with fail
        refine HRA.out.mono ?_
        rintro e w5 ⟨v5, rfl, hR, hb⟩
        have HL5 := Lib.hid (HL.out.after hb)
        obtain ⟨A5, c5, e5⟩ := Kd.R_slice hR
        subst e5
        have HHC := Lib.hid (has_calls A5 c5 l id (by omega) w5 (Kd.R_reads' hR).2.2 (formed_le hR))
        clear hR hb HRA HL c0 q0 q1 q2
        go_wp2_with fail
        refine HHC.out.mono ?_
        rintro e w6 ⟨rfl, hb⟩
        have HL6 := Lib.hid (HL5.out.after hb)
        clear hb HHC HL5
        obtain ⟨c0, hC⟩ := HCL.out w6 HL6.out.below
        obtain ⟨ad2, e1, q0, q1, q2⟩ := at_T36 hC (k : Int) (by omega) (by omega)
        obtain rfl : ad = ad2 := by injection e1
        have hcast : (k : Int).toNat = k := by omega
        rw [HFK.out, hcast] at q0 q1 q2
        obtain ⟨A6, c6, e6⟩ := Kd.R_slice HL6.out.out
        subst e6
        clear hcast hC e1
        obtain ⟨bi, hbi⟩ : ∃ x, x = l.contains id := ⟨_, rfl⟩
        obtain ⟨be, hbe⟩ : ∃ x, x = (f.f0 == id) := ⟨_, rfl⟩
        rw [← hbi, ← hbe] at HP
        rw [← hbi]
        have hbe2 := hbe.symm
        clear hbi hbe
        cases hbb : (bi || be)
        · have HS2 : Hid (((s.F.take (k + 1)).filter (refP s id)).map (·.f0) = out) := Lib.hid (by rw [HNX.out, if_neg (by rw [HP.out, hbb]; simp)])
          obtain ⟨rfl, rfl⟩ : bi = false ∧ be = false := by simpa using hbb
          clear HNX HP hbb
          go_wp2
          go_roundw
          case rel => exact ⟨k + 1, by omega, by simp, by rw [HS2.out]; exact HL6⟩
          case measure => simp [RowKit.intOf]; omega
        · have HS2 : Hid (((s.F.take (k + 1)).filter (refP s id)).map (·.f0) = out ++ [f.f0]) := Lib.hid (by rw [HNX.out, if_pos (by rw [HP.out, hbb])])
          clear HNX HP
          have hb12 : bi = true ∨ (bi = false ∧ be = true) := by
            revert hbb; cases bi <;> cases be <;> simp
          clear hbb
          rcases hb12 with rfl | ⟨rfl, rfl⟩
          all_goals
            go_wp2_with ((with_reducible refine gate_builtin (b := .append) (xs := #[.tmp 60, .tmp 69]) rfl ?_); at_builtin; refine Kd.R_append (Kd.int .i64) (w0 := w) w.heap.size rfl (.tmp 60) (.tmp 69) 25 3 (.int .i64 0) 8 rfl Try.underlying25 infoI rfl (by decide) (by omega) (.slice A6 out.length c6) out f.f0 [.int .i64 f.f0] (fun _ => True) (fun _ => False) rfl rfl ?aP (fun _ hk => hk.elim) ?aF ?aO ?aB ?aS ?aL ?_; (case aP => exact rfl); (case aF => exact fun _ _ => trivial); (case aO => exact HL6.out.out); (case aB => exact HL6.out.below); (case aS => exact HL6.out.below.size); (case aL => omega); intro v8 w8 hown hb8 hg8 hat8; have HL8 := Lib.hid (show NSt w (out ++ [f.f0]) v8 w8 from ⟨hown, hb8⟩); clear hown hb8 hg8 hat8)
            go_roundw
            case rel => exact ⟨k + 1, by omega, by simp, by rw [HS2.out]; exact HL8⟩
            case measure => simp [RowKit.intOf]; omega
      · obtain rfl : k = s.F.length := by omega
        have HE := Lib.hid (HBR.out _ (Nat.le_refl _))
        clear hC
        go_wp2
        go_ret2
        have h1 := HE.out
        rw [List.take_length] at h1
        have h2 := HL.out.out
        rw [List.take_length, ← h1] at h2
        exact ⟨_, rfl, h2, HL.out.below⟩
end Go.Proofs.Ytbkahblcabmdkaa.F
