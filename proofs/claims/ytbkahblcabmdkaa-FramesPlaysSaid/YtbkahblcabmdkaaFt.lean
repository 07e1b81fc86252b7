import Derived.Test.YtbkahblcabmdkaaFs
/-! The reference's tree: Remove, Set. -/
namespace Go.Proofs.Ytbkahblcabmdkaa.F
open Go.RowKit Go.Proofs.YtbkahblcabmdkaaW.PrintWords Go.Proofs.Ytbkahblcabmdkaa.X
set_option linter.unusedVariables false

theorem RefIn.block {w : World} {b g : Nat} {S : Nat → Prop} {s : Tr} (h : RefIn w b S g s) : ∃ A c, ∀ w1, Below w.heap.size w w1 → w1.heap[g]? = some (.cells #[.slice A s.F.length c, .int .i64 s.most, .int .i64 (s.last + 1)] 54 (0, 0)) ∧ Kd.C kFr w1 A s.F.length s.F := by
  obtain ⟨hfine, hS, hg, v, hb, hr⟩ := h
  obtain ⟨A, c, rfl⟩ := Kd.R_slice hr
  exact ⟨A, c, fun w1 h1 => ⟨(h1.block g (blk_lt hb)).trans hb, Kd.C_below (Kd.R_reads' hr).2.2 h1⟩⟩
theorem VSt.after {wS wr w1 : World} {out : List Fr} {v : Value} (h : VSt wS out v wr) (hb : Below wr.heap.size wr w1) : VSt wS out v w1 := ⟨Kd.R_below h.out hb, below_then h.below h.below.size hb⟩
theorem remL_nil (F : List Fr) : remL F [] = F := by unfold remL; rw [List.filter_eq_self]; intro a _; rfl
theorem RefIn.wide {w w1 : World} {b g : Nat} {S : Nat → Prop} {s : Tr} (h : RefIn w b S g s) (hb : Below w.heap.size w w1) (hbw : b ≤ w.heap.size) : RefIn w1 b (fun k => S k ∨ (w.heap.size ≤ k ∧ k < w1.heap.size)) g s := by
  obtain ⟨hf, hS', hg', v', hb', hr'⟩ := h.below hb
  exact ⟨hf, fun k hk => hk.elim (hS' k) (fun h => ⟨Nat.le_trans hbw h.1, h.2⟩), .inl hg', v', hb', Kd.R_mono hr' (fun k hk => ⟨.inl hk.1, hk.2⟩)⟩
set_option maxRecDepth 100000 in
set_option maxHeartbeats 2000000 in
theorem ref_remove (g b : Nat) (S : Nat → Prop) (s : Tr) (id : Int) (w : World) (hbw : b ≤ w.heap.size) (h : RefIn w b S g s) :
    Calls Try.prog 30 #[.pointer (some ⟨g, 0, none⟩), .int .i64 id] w fun e w' => ∃ v, e = .returned (.tuple #[v, .int .i64 (remF s id).2.1]) ∧ Kd.R (Kd.int .i64) 3 w' w.heap.size (fun _ => True) v (remF s id).1 ∧ RefIn w' b (fun k => S k ∨ (w.heap.size ≤ k ∧ k < w'.heap.size)) g (remF s id).2.2 ∧ Turn S w w' := by
  have HBL := Lib.hid (ref_below g b S s id w h)
  have HT := Lib.hid h
  obtain ⟨A, c, hcells⟩ := h.block
  have HCL := Lib.hid hcells
  have hfine := h.1
  have HFN := Lib.hid (remF_fine hfine id)
  have hFl : s.F.length ≤ 200 := by have := hfine.room; have := hfine.m1; omega
  have hr1 : (remF s id).1 = (belF s id).1 := rfl
  have hr2 : (remF s id).2.1 = (belF s id).2 := rfl
  have hr3 : (remF s id).2.2 = ⟨s.most, s.last, remL s.F (belF s id).1⟩ := rfl
  rw [hr3] at HFN
  rw [hr1, hr2, hr3]
  have hbl := bel_len2 hfine id
  have hber : (belF s id).2 = 0 ∨ ((belF s id).2 = 161 ∧ (belF s id).1 = []) := bel_err s id
  obtain ⟨gone, hgone⟩ : ∃ l, l = (belF s id).1 := ⟨_, rfl⟩
  obtain ⟨er, her⟩ : ∃ l, l = (belF s id).2 := ⟨_, rfl⟩
  rw [← hgone] at HBL HFN hber hbl ⊢
  rw [← her] at HBL hber ⊢
  have HBW := Lib.hid hbw
  clear h hcells hr1 hr2 hr3 hgone her hbw
  rcases hber with rfl | ⟨rfl, rfl⟩
  · go_enter Try.func30, Try.ntmps30
    go_wp2_with fail
    refine HBL.out.mono ?_
    rintro e w1 ⟨v1, rfl, hR, hb⟩
    obtain ⟨B, d, e1⟩ := Kd.R_slice hR
    subst e1
    have HR := Lib.hid hR
    have HL := Lib.hid (show VSt w1 [] (.slice none 0 0) w1 from ⟨Kd.R_nil _ _ _ _ _, Below.refl _ _⟩)
    have HB1 := Lib.hid hb
    clear hR hb HBL
    go_wp2_with fail
    go_loopw [8, 9] (fun v i wr => ∃ k : Nat, k ≤ s.F.length ∧ i = .int .i64 k ∧ Hid (VSt w1 (remL (s.F.take k) gone) v wr)) (fun _ i _ => s.F.length - (RowKit.intOf i).toNat)
    case atStart => exact ⟨0, Nat.zero_le _, rfl, HL⟩
    case round =>
      clear HL
      obtain ⟨k, hk, rfl, HV⟩ := hrel
      have HG := Lib.hid (Kd.R_below HR.out HV.out.below)
      have HBr := Lib.hid (below_then HB1.out HB1.out.size HV.out.below)
      obtain ⟨hblk, hC⟩ := HCL.out wr HBr.out
      have c0 : wr.cell? ⟨g, 0, none⟩ = some (.slice A s.F.length c) := blk_cell hblk 0
      by_cases hlt : k < s.F.length
      · obtain ⟨ad, e1, q0, q1, q2⟩ := at_T36 hC (k : Int) (by omega) (by omega)
        subst e1
        have hcast : (k : Int).toNat = k := by omega
        have HFK : Hid (rd_T36 s.F (k : Int) = s.F[k]) := Lib.hid (rd_Fr _ _ hlt)
        rw [hcast, HFK.out] at q0 q1 q2
        have HNX := Lib.hid (rem_take gone hlt)
        obtain ⟨f, hf⟩ : ∃ f, f = s.F[k] := ⟨_, rfl⟩
        rw [← hf] at q0 q1 q2 HNX HFK
        have HHC := Lib.hid (has_calls B d gone f.f0 (by omega) wr (Kd.R_reads' HG.out).2.2 (formed_le HG.out))
        have hrl := rem_len (s.F.take k) gone
        rw [List.length_take] at hrl
        obtain ⟨out, hout⟩ : ∃ out, out = remL (s.F.take k) gone := ⟨_, rfl⟩
        rw [← hout] at HV HNX hrl
        have hol : out.length ≤ 200 := by omega
        clear hcast hf hout hrl hblk hC
        go_wp2_with fail
        refine HHC.out.mono ?_
        rintro e w7 ⟨rfl, hb⟩
        have HV7 := Lib.hid (HV.out.after hb)
        have HB7 := Lib.hid (below_then HBr.out HBr.out.size hb)
        clear hb c0 q0 q1 q2 HHC HV HG
        obtain ⟨hblk, hC⟩ := HCL.out w7 HB7.out
        have c0 : w7.cell? ⟨g, 0, none⟩ = some (.slice (some ad) s.F.length c) := blk_cell hblk 0
        obtain ⟨ad2, e1, q0, q1, q2⟩ := at_T36 hC (k : Int) (by omega) (by omega)
        obtain rfl : ad = ad2 := by injection e1
        have hcast : (k : Int).toNat = k := by omega
        rw [HFK.out, hcast] at q0 q1 q2
        obtain ⟨A2, c2, e3⟩ := Kd.R_slice HV7.out.out
        subst e3
        clear hblk hC e1 hcast
        cases hin : gone.contains f.f0
        · have HS2 : Hid (remL (s.F.take (k + 1)) gone = out ++ [f]) := Lib.hid (by rw [HNX.out, if_neg (by rw [hin]; simp)])
          clear hin HNX
          go_wp2_with ((with_reducible refine gate_builtin (b := .append) (xs := #[.tmp 41, .tmp 49]) rfl ?_); at_builtin; refine Kd.R_append kFr (w0 := w1) w1.heap.size rfl (.tmp 41) (.tmp 49) 28 36 (.agg #[.int .i64 0, .int .i64 0, .int .i64 0]) 24 rfl Try.underlying28 infoF rfl (by decide) (by omega) (.slice A2 out.length c2) out f [.int .i64 f.f0, .int .i64 f.f1, .int .i64 f.f2] (fun _ => True) (fun _ => False) rfl rfl ?aP (fun _ hk => hk.elim) ?aF ?aO ?aB ?aS ?aL ?_; (case aP => exact k36_mkM _ _ _ _); (case aF => exact fun _ _ => trivial); (case aO => exact HV7.out.out); (case aB => exact HV7.out.below); (case aS => exact HV7.out.below.size); (case aL => omega); intro v8 w8 hown hb8 hg8 hat8; have HV8 := Lib.hid (show VSt w1 (out ++ [f]) v8 w8 from ⟨hown, hb8⟩); clear hown hb8 hg8 hat8)
          go_roundw
          case rel => exact ⟨k + 1, by omega, by simp, by rw [HS2.out]; exact HV8⟩
          case measure => simp [RowKit.intOf]; omega
        · have HS2 : Hid (remL (s.F.take (k + 1)) gone = out) := Lib.hid (by rw [HNX.out, if_pos hin])
          clear hin HNX
          go_wp2
          go_roundw
          case rel => exact ⟨k + 1, by omega, by simp, by rw [HS2.out]; exact HV7⟩
          case measure => simp [RowKit.intOf]; omega
      · obtain rfl : k = s.F.length := by omega
        rw [List.take_length] at HV
        have f0 := blk_frozen hblk 0
        have HBLK := Lib.hid hblk
        clear hC hblk
        obtain ⟨A2, c2, e3⟩ := Kd.R_slice HV.out.out
        subst e3
        go_wp2
        go_ret2
        have hb1s := HB1.out.size
        have hglt := (HT.out.2.1 g HT.out.2.2.1).2
        have hrw := Kd.R_mono (Kd.R_bound HV.out.out) (ok' := fun i => (w.heap.size ≤ i ∧ i < wr.heap.size) ∧ i ≠ g) (fun i hi => ⟨⟨by omega, hi.2.2.1⟩, by omega⟩)
        have hrg := Kd.R_mono (Kd.R_bound HG.out) (ok' := fun i => i ≠ g) (fun i hi => by omega)
        have hbs := HBr.out.size
        refine ⟨_, rfl, Kd.R_mono (Kd.R_far (p := ⟨g, 0, none⟩) hrg (fun k hk => hk) _) (fun _ _ => trivial), ⟨HFN.out, ?_, .inl HT.out.2.2.1, _, blk_set HBLK.out 0 _, ?_⟩, ?_⟩
        · intro i hi
          rw [show ∀ u, (wr.setCell ⟨g, 0, none⟩ u).heap.size = wr.heap.size from fun u => by simp [World.setCell]] at hi ⊢
          rcases hi with hi | hi
          · exact ⟨(HT.out.2.1 i hi).1, Nat.lt_of_lt_of_le (HT.out.2.1 i hi).2 hbs⟩
          · exact ⟨Nat.le_trans HBW.out hi.1, hi.2⟩
        · rw [show ∀ u, (wr.setCell ⟨g, 0, none⟩ u).heap.size = wr.heap.size from fun u => by simp [World.setCell]]
          exact Kd.R_mono (Kd.R_lower (Kd.R_far (p := ⟨g, 0, none⟩) hrw (fun k hk => hk.2) _) (Nat.le_trans HBW.out hb1s)) (fun i hi => ⟨.inr hi.1, hi.2⟩)
        · exact (Turn.of_below (S := S) HBr.out).set_ ⟨g, 0, none⟩ _ (.inl HT.out.2.2.1)
  · go_enter Try.func30, Try.ntmps30
    go_wp2_with fail
    refine HBL.out.mono ?_
    rintro e w1 ⟨v1, rfl, hR, hb⟩
    have HB1 := Lib.hid hb
    clear hR hb HBL
    go_wp2
    go_ret2
    exact ⟨_, rfl, Kd.R_nil _ _ _ _ _, by rw [remL_nil]; exact HT.out.wide HB1.out HBW.out, Turn.of_below HB1.out⟩
end Go.Proofs.Ytbkahblcabmdkaa.F
