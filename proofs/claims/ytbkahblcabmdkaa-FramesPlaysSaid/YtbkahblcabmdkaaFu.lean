import Derived.Test.YtbkahblcabmdkaaFt
/-! The reference's tree: Set. -/
namespace Go.Proofs.Ytbkahblcabmdkaa.F
open Go.RowKit Go.Proofs.YtbkahblcabmdkaaW.PrintWords Go.Proofs.Ytbkahblcabmdkaa.X
set_option linter.unusedVariables false

def docF (F : List Fr) (k : Nat) (d : Int) : List Fr := F.set k ⟨(F.getD k z0).f0, (F.getD k z0).f1, d⟩
theorem reps_set {w w1 : World} {b : Nat} {ok ok' : Nat → Prop} {F : List Fr} {inner : List Value} (h : Reps (kFr.M w b ok) 3 F inner) {k : Nat} (hk : k < F.length) (d : Int) : Reps (kFr.M w1 b ok') 3 (docF F k d) (inner.set (k * 3 + 2) (.int .i64 d)) := by
  refine ⟨by rw [List.length_set, docF, List.length_set, h.1], fun j p hp => ?_⟩
  by_cases e : k = j
  · subst e
    have h1 := k36_openM (h.2 k F[k] (List.getElem?_eq_getElem hk))
    have e1 : p = ⟨F[k].f0, F[k].f1, d⟩ := by
      unfold docF at hp
      rw [List.getElem?_set_self hk] at hp
      injection hp with hp
      rw [← hp]
      simp [hk]
    rw [List.drop_set, if_neg (by omega), show k * 3 + 2 - k * 3 = 2 by omega, List.take_set, h1, e1]
    exact k36_mkM _ _ _ _
  · have e1 : F[j]? = some p := by
      unfold docF at hp
      rw [List.getElem?_set_ne e] at hp
      exact hp
    have h1 := k36_openM (h.2 j p e1)
    have e2 : List.take 3 (List.drop (j * 3) (inner.set (k * 3 + 2) (.int .i64 d))) = List.take 3 (List.drop (j * 3) inner) := by
      rw [List.drop_set]
      split
      · rfl
      · rw [List.take_set, List.set_eq_of_length_le (by simp; omega)]
    rw [e2, h1]
    exact k36_mkM _ _ _ _
theorem R_setDoc {e : TypeId} {w : World} {b n : Nat} {ok : Nat → Prop} {g cap : Nat} {F : List Fr} (h : Kd.R kFr e w b ok (.slice (some ⟨g, 0, none⟩) n cap) F) {k : Nat} (hk : k < F.length) (d : Int) :
    Kd.R kFr e (w.setCell ⟨g, k * 3 + 2, none⟩ (.int .i64 d)) b ok (.slice (some ⟨g, 0, none⟩) n cap) (docF F k d) := by
  obtain ⟨h0, inner, ho, hr⟩ := h
  obtain ⟨A, c, hv, _⟩ := (show OwnRow _ e 3 w b _ F from ⟨inner, ho, hr⟩).slice_
  injection hv with _ hn _
  subst hn
  exact ⟨h0, inner.set (k * 3 + 2) (.int .i64 d), by rw [docF, List.length_set]; exact (ho.stored (k * 3 + 2) _).1, reps_set hr hk d⟩
theorem R_head {e : TypeId} {w : World} {b n : Nat} {ok : Nat → Prop} {ad : Addr} {cap : Nat} {F : List Fr} (h : Kd.R kFr e w b ok (.slice (some ad) n cap) F) : (∃ g, ad = ⟨g, 0, none⟩) ∧ ∀ j, w.frozen? ⟨ad.block, j, none⟩ = false := by
  obtain ⟨h0, inner, ho, hr⟩ := h
  obtain ⟨A, c, hv, _⟩ := (show OwnRow _ e 3 w b _ F from ⟨inner, ho, hr⟩).slice_
  injection hv with _ hn _
  subst hn
  have : ∃ g, ad = ⟨g, 0, none⟩ := by
    rcases ho.2 with ⟨h1, _⟩ | ⟨g', cap', cur, h1, _⟩
    · simp at h1
    · injection h1 with h1 _ _
      injection h1 with h1
      exact ⟨g', h1⟩
  obtain ⟨g, rfl⟩ := this
  exact ⟨⟨g, rfl⟩, fun j => ho.frozenAt j⟩
theorem setF_doc {s : Tr} (h : s.fine) {k : Nat} (hk : k < s.F.length) (d : Int) : setF s.F s.F[k].f0 d = docF s.F k d := by
  apply List.ext_getElem
  · simp [setF, docF]
  · intro j h1 h2
    have hj : j < s.F.length := by simpa [setF] using h1
    simp only [setF, docF, List.getElem_map, List.getElem_set]
    by_cases e : k = j
    · subst e; simp [hk]
    · rw [if_neg e, if_neg]
      intro e2
      have e3 : s.F[j].f0 = s.F[k].f0 := by simpa using e2
      rcases Nat.lt_or_gt_of_ne e with h3 | h3
      · have := List.pairwise_iff_getElem.1 h.rise k j hk hj h3; omega
      · have := List.pairwise_iff_getElem.1 h.rise j k hj hk h3; omega
theorem setF_none {F : List Fr} {id : Int} (h : ∀ f ∈ F, f.f0 ≠ id) (d : Int) : setF F id d = F := by
  unfold setF
  rw [List.map_congr_left (g := fun x => x) (fun f hf => if_neg (by simpa using h f hf))]
  simp
theorem add_at (ad : Addr) (n : Nat) : (ad.add n).block = ad.block ∧ (ad.add n).off = ad.off + n := by
  unfold Addr.add
  split
  · rename_i h; subst h; exact ⟨rfl, rfl⟩
  · exact ⟨rfl, rfl⟩
set_option maxRecDepth 100000 in
set_option maxHeartbeats 1000000 in
theorem ref_set (g b : Nat) (S : Nat → Prop) (s : Tr) (id d : Int) (w : World) (h : RefIn w b S g s) :
    Calls Try.prog 31 #[.pointer (some ⟨g, 0, none⟩), .int .i64 id, .int .i64 d] w fun e w' => e = .returned (.int .i64 (if (getF s.F id).isSome = true then 0 else 161)) ∧ RefIn w' b S g ⟨s.most, s.last, setF s.F id d⟩ ∧ Turn S w w' := by
  obtain ⟨hfine, hS, hg, v, hb, hr⟩ := h
  obtain ⟨A, c, rfl⟩ := Kd.R_slice hr
  have hlen : s.F.length ≤ 200 := by have := hfine.room; have := hfine.m1; omega
  have c0 : w.cell? ⟨g, 0, none⟩ = some (.slice A s.F.length c) := blk_cell hb 0
  have HC := Lib.hid (Kd.R_reads' hr).2.2
  have HF := Lib.hid hfine
  have HS := Lib.hid hS
  have HB := Lib.hid hb
  have HR := Lib.hid hr
  have HGS := Lib.hid hg
  have HFN := Lib.hid (setF_fine hfine id d)
  obtain ⟨er, her⟩ : ∃ x : Int, x = (if (getF s.F id).isSome = true then 0 else 161) := ⟨_, rfl⟩
  rw [← her]
  have HER := Lib.hid her
  clear hb hr hfine hS hg her
  go_enter Try.func31, Try.ntmps31
  go_wp2_with fail
  go_loopw [7] (fun i wr => ∃ k : Nat, k ≤ s.F.length ∧ i = .int .i64 k ∧ Hid (∀ f ∈ s.F.take k, f.f0 ≠ id) ∧ Hid (wr = w)) (fun i _ => s.F.length - (RowKit.intOf i).toNat)
  case atStart => exact ⟨0, Nat.zero_le _, rfl, Lib.hid (fun f hf => by simp at hf), Lib.hid rfl⟩
  case round =>
    obtain ⟨k, hk, rfl, HN, HW⟩ := hrel
    obtain rfl := HW.out
    clear HW
    by_cases hlt : k < s.F.length
    · obtain ⟨ad, e1, q0, q1, q2⟩ := at_T36 HC.out (k : Int) (by omega) (by omega)
      subst e1
      have hcast : (k : Int).toNat = k := by omega
      rw [hcast, rd_Fr _ _ hlt] at q0 q1 q2
      obtain ⟨hhead, hfro⟩ := R_head HR.out
      have HHD := Lib.hid hhead
      have HNX : Hid (s.F[k].f0 ≠ id → ∀ f ∈ s.F.take (k + 1), f.f0 ≠ id) := Lib.hid (fun hne f hf => by
        rw [List.take_succ_eq_append_getElem hlt] at hf
        rcases List.mem_append.1 hf with hf | hf
        · exact HN.out f hf
        · rw [List.mem_singleton] at hf; rw [hf]; exact hne)
      have HSD := Lib.hid (setF_doc HF.out hlt d)
      have HGT := Lib.hid (getF_of_mem HF.out (List.getElem_mem hlt))
      obtain ⟨f, hf⟩ : ∃ f, f = s.F[k] := ⟨_, rfl⟩
      rw [← hf] at q0 q1 q2 HNX HSD HGT
      have fz : wr.frozen? ⟨(ad.add (k * 3)).block, (ad.add (k * 3)).off + 2, none⟩ = false := by rw [(add_at ad (k * 3)).1]; exact hfro _
      clear hcast hf HN hhead hfro
      by_cases he : f.f0 = id
      · have hG := HGT.out
        rw [he] at hG HSD
        have HGI := Lib.hid hG
        have hd : (f.f0 == id) = true := by simpa using he
        clear hG HNX HGT
        have HE := Lib.hid he
        clear he
        go_wp2
        go_ret
        obtain ⟨gb, hgb⟩ := HHD.out
        subst hgb
        have hadd : (⟨((⟨gb, 0, none⟩ : Addr).add (k * 3)).block, ((⟨gb, 0, none⟩ : Addr).add (k * 3)).off + 2, none⟩ : Addr) = ⟨gb, k * 3 + 2, none⟩ := by rw [(add_at _ (k * 3)).1, (add_at _ (k * 3)).2]; simp
        have hok := HR.out.1 gb rfl
        have hbl := (Below.heap_setCell wr ⟨gb, k * 3 + 2, none⟩ (.int .i64 d) g (fun e => hok.2 e.symm)).trans HB.out
        have hR2 := R_setDoc HR.out hlt d
        rw [← HSD.out] at hR2
        have hlen2 : (setF s.F id d).length = s.F.length := by simp [setF]
        rw [hadd]
        refine ⟨by rw [HER.out, HGI.out]; rfl, ⟨HFN.out, fun i hi => by have := HS.out i hi; simpa [World.setCell] using this, HGS.out, _, hbl, hR2⟩, ?_⟩
        · exact (Turn.refl S wr).set_ ⟨gb, k * 3 + 2, none⟩ (.int .i64 d) (.inl hok.1)
      · have hd : (f.f0 == id) = false := by simpa using he
        have HN2 := Lib.hid (HNX.out he)
        clear HNX HGT he HSD
        go_wp2
        go_roundw
        case rel => exact ⟨k + 1, by omega, by simp, HN2, Lib.hid trivial⟩
        case measure => simp [RowKit.intOf]; omega
    · obtain rfl : k = s.F.length := by omega
      have hno := HN.out
      rw [List.take_length] at hno
      have HGI := Lib.hid (getF_none hno)
      have HSN := Lib.hid (setF_none hno d)
      clear hno HN
      go_wp2
      go_ret
      exact ⟨by rw [HER.out, HGI.out]; rfl, by rw [HSN.out]; exact ⟨HF.out, HS.out, HGS.out, _, HB.out, HR.out⟩, Turn.refl _ _⟩
end Go.Proofs.Ytbkahblcabmdkaa.F
