import Derived.Test.YtbkahblcabmdkaaFe
import Derived.Test.YtbkahblcabmdkaaFi
/-! The tree: All, Below. -/
namespace Go.Proofs.Ytbkahblcabmdkaa.F
open Go.RowKit Go.Proofs.YtbkahblcabmdkaaW.PrintWords Go.Proofs.Ytbkahblcabmdkaa.X
set_option linter.unusedVariables false

theorem infoF : (Try.prog.info? 36).map (fun i => (i.zero, i.size, i.bytes)) = some (some (.agg #[.int .i64 0, .int .i64 0, .int .i64 0]), 3, 24) := by kernel_rfl
theorem ids_at {F : List Fr} {k : Nat} (hk : k < F.length) : rd (F.map (·.f0)) (k : Int) = F[k].f0 := by
  unfold rd
  simp [hk]
theorem getF_at {s : Tr} (h : s.fine) {k : Nat} (hk : k < s.F.length) : (getF s.F s.F[k].f0).getD z0 = s.F[k] := by
  rw [getF_of_mem h (List.getElem_mem hk)]; rfl
theorem id_bounds {s : Tr} (h : s.fine) {f : Fr} (hf : f ∈ s.F) : 1 ≤ f.f0 ∧ f.f0 ≤ 4611686018427387904 := by
  have := h.ids f hf
  have := h.l1
  omega
structure LSt (w2 : World) (out : List Fr) (v : Value) (wr : World) : Prop where
  out : Kd.R kFr 36 wr w2.heap.size (fun _ => True) v out
  below : Below w2.heap.size w2 wr
set_option maxRecDepth 100000 in
set_option maxHeartbeats 1000000 in
theorem all_calls (g bm : Nat) (s : Tr) (w : World) (h : TreeIn w g bm s) :
    Calls Try.prog 11 #[.pointer (some ⟨g, 0, none⟩)] w fun e w' => ∃ v, e = .returned v ∧ Kd.R kFr 36 w' w.heap.size (fun _ => True) v s.F ∧ Below w.heap.size w w' := by
  have HT := Lib.hid h
  have HS := Lib.hid (sorted_calls g bm s w h)
  have hfine := h.fine
  have hlen : s.F.length ≤ 200 := by have := hfine.room; have := hfine.m1; omega
  have c2 : w.cell? ⟨g, 2, none⟩ = some (.map (some bm)) := blk_cell h.t 2
  clear h
  go_enter Try.func11, Try.ntmps11
  go_wp2_with fail
  refine (keys_calls bm w).mono ?_
  rintro e w1 ⟨rfl, rfl⟩
  go_wp2_with fail
  refine HS.out.mono ?_
  rintro e w2 ⟨A, c, rfl, hR, hb⟩
  have HL := Lib.hid (show LSt w2 [] (.slice none 0 0) w2 from ⟨Kd.R_nil _ _ _ _ _, Below.refl _ _⟩)
  have HR := Lib.hid hR
  have HB2 := Lib.hid hb
  have HT2 := Lib.hid (HT.out.below hb)
  clear hR hb c2 HS
  go_wp2_with fail
  go_loopw [2, 14] (fun v i wr => ∃ k : Nat, k ≤ s.F.length ∧ i = .int .i64 k ∧ Hid (LSt w2 (s.F.take k) v wr)) (fun _ i _ => s.F.length - (RowKit.intOf i).toNat)
  case atStart => exact ⟨0, Nat.zero_le _, rfl, HL.out⟩
  case round =>
    clear HL
    obtain ⟨k, hk, rfl, HL⟩ := hrel
    by_cases hlt : k < s.F.length
    · obtain ⟨ad, e1, hc⟩ := (HR.out.below HL.out.below).at_ (k : Int) (by omega) (by omega)
      subst e1
      rw [ids_at hlt] at hc
      have hib := id_bounds hfine (List.getElem_mem hlt)
      have hT := HT2.out.below HL.out.below
      have c2 : wr.cell? ⟨g, 2, none⟩ = some (.map (some bm)) := blk_cell hT.t 2
      have hl := hT.look (k := s.F[k].f0) (by omega) (by omega) (getF_at hfine hlt)
      have HTK : Hid (s.F.take (k + 1) = s.F.take k ++ [s.F[k]]) := Lib.hid (List.take_succ_eq_append_getElem hlt)
      obtain ⟨f, hf⟩ : ∃ f, f = s.F[k] := ⟨_, rfl⟩
      rw [← hf] at hc hib hl HTK
      have htl : (s.F.take k).length = k := by rw [List.length_take]; omega
      obtain ⟨A1, c1, e2⟩ := Kd.R_slice HL.out.out
      subst e2
      rw [htl] at HL ⊢
      have HTL := Lib.hid htl
      have hcast : (k : Int).toNat = k := by omega
      rw [hcast] at hc
      clear hf hT htl hcast
      go_wp2_with ((with_reducible refine gate_builtin (b := .append) (xs := #[.tmp 18, .tmp 25]) rfl ?_); at_builtin; refine Kd.R_append kFr (w0 := w2) w2.heap.size rfl (.tmp 18) (.tmp 25) 28 36 (.agg #[.int .i64 0, .int .i64 0, .int .i64 0]) 24 rfl Try.underlying28 infoF rfl (by decide) (by omega) (.slice A1 k c1) (s.F.take k) f [.int .i64 f.f0, .int .i64 f.f1, .int .i64 f.f2] (fun _ => True) (fun _ => False) rfl rfl ?aP (fun _ hk => hk.elim) ?aF ?aO ?aB ?aS ?aL ?_; (case aP => exact k36_mkM _ _ _ _); (case aF => exact fun _ _ => trivial); (case aO => exact HL.out.out); (case aB => exact HL.out.below); (case aS => exact HL.out.below.size); (case aL => rw [HTL.out]; omega); intro v3 w3 hown hb3 hg3 hat3; have HL3 := Lib.hid (show LSt w2 (s.F.take k ++ [f]) v3 w3 from ⟨hown, hb3⟩); clear hown hb3 hg3 hat3)
      go_roundw
      case rel => exact ⟨k + 1, by omega, by simp, by rw [HTK.out]; exact HL3.out⟩
      case measure => simp [RowKit.intOf]; omega
    · obtain rfl : k = s.F.length := by omega
      rw [List.take_length] at HL
      go_wp2
      go_ret
      exact ⟨_, rfl, Kd.R_lower HL.out.out HB2.out.size, below_then HB2.out HB2.out.size HL.out.below⟩
theorem all_nil (w : World) : Calls Try.prog 11 #[.pointer none] w fun e w' => e = .returned (.slice none 0 0) ∧ w = w' := by
  go_enter Try.func11, Try.ntmps11
  go_wp2
  go_ret
  exact ⟨rfl, rfl⟩
end Go.Proofs.Ytbkahblcabmdkaa.F
