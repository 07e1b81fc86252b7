import Derived.Test.YtbhlmdaogdhjdaaDoorHj
import Derived.Deep.RegionHeld3
/-! HostOrder. -/
namespace Go.Proofs.YtbhlmdaogdhjdaaDoor.H
open Go.RowKit Go.Shelf Go.Joins Go.Proofs.YtbhlmdaogdhjdaaDoorW.PrintWords Go.Proofs.YtbhlmdaogdhjdaaDoorW.PrintLast Go.Proofs.YtbhlmdaogdhjdaaDoorW.PrintMore

set_option linter.unusedVariables false
theorem R_emptyS (W : World) (base : Nat) (hb : base ≤ W.heap.size) : Kd.R Kd.string 9 (W.alloc (.cells #[] 9)) base (fun k => k = W.heap.size) (.slice (some ⟨W.heap.size, 0, none⟩) 0 0) [] :=
  ⟨fun k hk => by simpa [Value.ownBlock] using hk.symm, [], ⟨by simp, .inr ⟨W.heap.size, 0, #[], rfl, hb, (MapKept.heap_alloc W _).1, Nat.le_refl _, Nat.zero_le _, by simp, by simp⟩⟩, by simp, fun j p h => by simp at h⟩
theorem site_any (nm : ByteArray) (v4 : Bool) (a : Int) (h0 : 0 ≤ a) (h1 : a ≤ 4294967295) (hnm : nm.size ≤ 1048576) (A : Option Addr) (c : Nat) (sfx : List ByteArray) (w : World) (ht : Tab w) (hC : Kd.C Kd.string w A sfx.length sfx) (hsz : ∀ z ∈ sfx, z.size < 8796093022207) :
    Calls Tryd.prog 16 #[.agg #[.string nm, .bool v4, .int .u32 a], .slice A sfx.length c] w fun e w' => e = .returned (.string (if v4 = true then textB a else siteB nm sfx)) ∧ Below w.heap.size w w' := by
  cases v4
  · exact site_name nm a hnm A c sfx w hC hsz
  · exact site_addr nm a h0 h1 A sfx.length c w ht
def valB (zs : List ByteArray) (x : ByteArray) : Int := if endsB zs (splitB x 46) = true then ((splitB x 46).length : Int) else 0
theorem tryB_eq (zs : List ByteArray) (b : Int) (x : ByteArray) (h : 0 ≤ b) : tryB zs b x = max b (valB zs x) := by
  unfold tryB valB
  split
  · rfl
  · omega
theorem fold_ge (zs : List ByteArray) : ∀ (l : List ByteArray) (b : Int), 0 ≤ b → b ≤ l.foldl (tryB zs) b ∧ ∀ x ∈ l, valB zs x ≤ l.foldl (tryB zs) b
  | [], b, _ => ⟨Int.le_refl _, fun x h => by simp at h⟩
  | y :: l, b, h => by
    have e := tryB_eq zs b y h
    have ih := fold_ge zs l (tryB zs b y) (by rw [e]; omega)
    simp only [List.foldl_cons]
    refine ⟨by have := ih.1; rw [e] at this ⊢; omega, fun x hx => ?_⟩
    rcases List.mem_cons.1 hx with rfl | hx
    · have := ih.1; rw [e] at this ⊢; omega
    · exact ih.2 x hx
theorem fold_stays (zs : List ByteArray) (B : Int) (hB : 0 ≤ B) : ∀ l : List ByteArray, (∀ x ∈ l, valB zs x ≤ B) → l.foldl (tryB zs) B = B
  | [], _ => rfl
  | y :: l, h => by
    have h1 := h y (by simp)
    simp only [List.foldl_cons]
    rw [tryB_eq zs B y hB, Int.max_eq_left h1]
    exact fold_stays zs B hB l (fun x hx => h x (by simp [hx]))
theorem best_turned (zs l : List ByteArray) : bestB zs (l ++ l.reverse) = bestB zs l := by
  unfold bestB
  rw [List.foldl_append]
  have h := fold_ge zs l 0 (Int.le_refl _)
  exact fold_stays zs _ h.1 _ (fun x hx => h.2 x (List.mem_reverse.1 hx))
theorem site_turned (nm : ByteArray) (l : List ByteArray) : siteB nm (l ++ l.reverse) = siteB nm l := by
  unfold siteB fromB
  rw [best_turned]
set_option maxRecDepth 100000 in
set_option maxHeartbeats 1000000 in
theorem order_calls (nm : ByteArray) (v4 : Bool) (a : Int) (h0 : 0 ≤ a) (h1 : a ≤ 4294967295) (A : Option Addr) (c : Nat) (sfx : List ByteArray) (w : World) (ht : Tab w) (hC : Kd.C Kd.string w A sfx.length sfx) (hc : sfx.length ≤ c) (hnm9 : nm.size ≤ 9223372036854775807) (hsz : ∀ z ∈ sfx, z.size ≤ 9223372036854775807) :
    Calls Tryd.prog 9 #[.agg #[.string nm, .bool v4, .int .u32 a], .slice A sfx.length c] w fun e w' => e = .returned (.bool true) ∧ Below w.heap.size w w' := by
  have HT := Lib.hid ht
  have HC := Lib.hid hC
  have hb0 := below_alloc (Below.refl w.heap.size w) (.cells #[.string nm, .bool v4, .int .u32 a] 25)
  have HA := Lib.hid (awake_calls (w.alloc (.cells #[.string nm, .bool v4, .int .u32 a] 25)) (ht.below hb0))
  have HH := Lib.hid (blk_new w (.cells #[.string nm, .bool v4, .int .u32 a] 25))
  clear ht hC hb0
  have hln : sfx.length ≤ 9223372036854775807 := HC.out.2.1
  go_enter Tryd.func9, Tryd.ntmps9
  go_wp2_with fail
  refine HA.out.mono ?_
  rintro e w1 ⟨rfl, hb⟩
  have hH1 := blk_after HH.out hb rfl
  have HB1 := Lib.hid (below_then (below_alloc (Below.refl w.heap.size w) _) (by simp) hb)
  obtain ⟨bh, hbh⟩ : ∃ k, k = w.heap.size := ⟨_, rfl⟩
  rw [← hbh] at hH1 ⊢
  have c0 : w1.cell? ⟨bh, 0, none⟩ = some (.string nm) := blk_cell hH1 0
  have HH1 := Lib.hid hH1
  clear hb hH1 hbh HH HA
  by_cases hn : (1000 : Int) < (nm.size : Int)
  · have hd : decide ((1000 : Int) < (nm.size : Int)) = true := decide_eq_true hn
    go_wp2
    go_ret
    exact ⟨rfl, HB1.out⟩
  · have hd : decide ((1000 : Int) < (nm.size : Int)) = false := decide_eq_false hn
    by_cases hl : (100 : Int) < (sfx.length : Int)
    · have hd2 : decide ((100 : Int) < (sfx.length : Int)) = true := decide_eq_true hl
      have hd3 : decide (100 < sfx.length) = true := decide_eq_true (by omega)
      go_wp2
      go_ret
      exact ⟨rfl, HB1.out⟩
    · have hd2 : decide ((100 : Int) < (sfx.length : Int)) = false := decide_eq_false hl
      have hd3 : decide (100 < sfx.length) = false := decide_eq_false (by omega)
      have HE := Lib.hid (R_emptyS w1 w1.heap.size (Nat.le_refl _))
      have hsm : sfx.length ≤ 100 := by omega
      go_wp2_with ((with_reducible refine gate_builtin (b := .append) (xs := #[.tmp 19, .tmp 20]) rfl ?_); at_builtin; refine Kd.R_append_rows Kd.string (Rr := Kd.string.K (w1.alloc (.cells #[] 9))) (w0 := w1) w1.heap.size rfl (.tmp 19) (.tmp 20) 30 9 (.string ⟨#[]⟩) 16 rfl Tryd.underlying30 infoS rfl (by decide) (by omega) (.slice (some ⟨w1.heap.size, 0, none⟩) 0 0) [] sfx A sfx.length c (fun _ => True) (fun _ => False) rfl rfl ?aO ?aR (fun x cs hx => hx) (fun _ hk => hk.elim) (fun _ _ => trivial) ?aB ?aS ?aL ?_; (case aO => exact Kd.R_mono HE.out (fun _ _ => trivial)); (case aR => exact Kd.C_alloc (Kd.C_below HC.out HB1.out) _); (case aB => exact below_alloc (Below.refl _ _) _); (case aS => simp); (case aL => simp; omega); intro v1 w2 hown hb1 hg1 hat1; rw [List.nil_append] at hown; have HO := Lib.hid hown; have HB2 := Lib.hid hb1; clear hown hg1 hb1 hat1)
      go_loopw [6, 7] (fun tv i wr => ∃ (k : Nat) (x : Int), k ≤ sfx.length ∧ i = .int .i64 x ∧ x + 1 = (k : Int) ∧ Hid (Kd.R Kd.string 9 wr w1.heap.size (fun _ => True) tv (sfx ++ (sfx.drop k).reverse)) ∧ Hid (Below w1.heap.size w1 wr) ∧ Hid (∀ x ∈ sfx.drop k, x.size ≤ 1000)) (fun _ i _ => (intOf i + 1).toNat)
      case atStart => exact ⟨sfx.length, _, Nat.le_refl _, rfl, by omega, by rw [List.drop_length, List.reverse_nil, List.append_nil]; exact HO.out, HB2.out, fun x h => by rw [List.drop_length] at h; simp at h⟩
      case round =>
        clear HO HB2 w2 HE
        obtain ⟨k, x, hk, rfl, hx, HO, HB2, HS⟩ := hrel
        by_cases hk0 : k = 0
        · subst hk0
          obtain rfl : x = -1 := by omega
          clear hx hk
          rw [List.drop_zero] at HO HS
          obtain ⟨A1, c1, e1⟩ := Kd.R_slice HO.out
          subst e1
          have hCt := (Kd.R_reads' HO.out).2.2
          obtain ⟨tl, htl⟩ : ∃ l, l = sfx ++ sfx.reverse := ⟨_, rfl⟩
          rw [← htl] at HO hCt ⊢
          have HBW := Lib.hid (HB1.out.trans (HB2.out.mono HB1.out.size))
          have hbl := blk_after HH1.out HB2.out rfl
          have d0 : wr.cell? ⟨bh, 0, none⟩ = some (.string nm) := blk_cell hbl 0
          have d1 : wr.cell? ⟨bh, 1, none⟩ = some (.bool v4) := blk_cell hbl 1
          have d2 : wr.cell? ⟨bh, 2, none⟩ = some (.int .u32 a) := blk_cell hbl 2
          obtain ⟨out, hout⟩ : ∃ o, o = (if v4 = true then textB a else siteB nm sfx) := ⟨_, rfl⟩
          have HBD : Hid (Below w.heap.size w wr.drew) := HBW.out.drew
          have HS1 := Lib.hid (site_any nm v4 a h0 h1 (by omega) A1 c1 tl wr.drew (HT.out.below HBD.out) (Kd.C_below hCt (Below.refl wr.heap.size wr).drew) (fun z hz => by
            have hz2 : z ∈ sfx := by rw [htl] at hz; simpa using hz
            have := HS.out z hz2; omega))
          rw [show siteB nm tl = siteB nm sfx by rw [htl, site_turned], ← hout] at HS1
          clear htl
          have HBL := Lib.hid (show wr.drew.heap[bh]? = _ from hbl)
          have HOUT := Lib.hid hout
          clear hCt hbl hout
          go_wp2_with fail
          go_region_held3 (fun w' => w'.cell? ⟨bh, 0, none⟩ = some (.string nm) ∧ w'.cell? ⟨bh, 1, none⟩ = some (.bool v4) ∧ w'.cell? ⟨bh, 2, none⟩ = some (.int .u32 a)) (first | exact ⟨d0, d1, d2⟩ | exact ⟨d03, d13, d23⟩ | exact ⟨d04, d14, d24⟩) ((first
            | (go_at_call 16; refine HS1.out.mono ?_; clear HS1; rintro e w3 ⟨rfl, hb⟩; have HB3 := Lib.hid (below_then HBD.out HBD.out.size hb); have hbl3 := blk_after HBL.out hb rfl; have d03 : w3.cell? ⟨bh, 0, none⟩ = some (.string nm) := blk_cell hbl3 0; have d13 : w3.cell? ⟨bh, 1, none⟩ = some (.bool v4) := blk_cell hbl3 1; have d23 : w3.cell? ⟨bh, 2, none⟩ = some (.int .u32 a) := blk_cell hbl3 2; have HL3 := Lib.hid hbl3; have HS2 := Lib.hid (site_any nm v4 a h0 h1 (by omega) A c sfx w3 (HT.out.below HB3.out) (Kd.C_below HC.out HB3.out) (fun z hz => by have := HS.out z hz; omega)); rw [← HOUT.out] at HS2; clear hb hbl3)
            | (go_at_call 16; refine HS2.out.mono ?_; rintro e w4 ⟨rfl, hb⟩; have HB4 := Lib.hid (below_then HB3.out HB3.out.size hb); have hbl4 := blk_after HL3.out hb rfl; have d04 : w4.cell? ⟨bh, 0, none⟩ = some (.string nm) := blk_cell hbl4 0; have d14 : w4.cell? ⟨bh, 1, none⟩ = some (.bool v4) := blk_cell hbl4 1; have d24 : w4.cell? ⟨bh, 2, none⟩ = some (.int .u32 a) := blk_cell hbl4 2; clear hb hbl4)))
          all_goals (go_wp2_with fail)
          go_ret
          exact ⟨rfl, HB4.out⟩
        · obtain ⟨j, rfl⟩ : ∃ j, k = j + 1 := ⟨k - 1, by omega⟩
          obtain rfl : x = (j : Int) := by omega
          have hj : j < sfx.length := by omega
          clear hx hk0
          obtain ⟨ad, eA, hcell⟩ := str_at HC.out j hj
          subst eA
          have ce : wr.cell? (ad.add j) = some (.string sfx[j]) := cell_below ((HB1.out.trans (HB2.out.mono HB1.out.size))) hcell
          clear hcell
          obtain ⟨z, hz⟩ : ∃ z, z = sfx[j] := ⟨_, rfl⟩
          rw [← hz] at ce
          have HZ := Lib.hid hz
          have hzs : z.size ≤ 9223372036854775807 := by rw [hz]; exact hsz _ (List.getElem_mem _)
          clear hz
          by_cases hbig : (1000 : Int) < (z.size : Int)
          · have hdb : decide ((1000 : Int) < (z.size : Int)) = true := decide_eq_true hbig
            go_wp2
            go_ret
            exact ⟨rfl, HB1.out.trans (HB2.out.mono HB1.out.size)⟩
          · have hdb : decide ((1000 : Int) < (z.size : Int)) = false := decide_eq_false hbig
            obtain ⟨A1, c1, e1⟩ := Kd.R_slice HO.out
            subst e1
            have hlen1 : (sfx ++ (sfx.drop (j + 1)).reverse).length ≤ 200 := by simp; omega
            obtain ⟨tl, htl⟩ : ∃ l, l = sfx ++ (sfx.drop (j + 1)).reverse := ⟨_, rfl⟩
            rw [← htl] at HO hlen1 ⊢
            have HTL := Lib.hid htl
            clear htl
            go_wp2_with ((with_reducible refine gate_builtin (b := .append) (xs := #[.tmp 36, .tmp 41]) rfl ?_); at_builtin; refine Kd.R_append Kd.string (w0 := w1) w1.heap.size rfl (.tmp 36) (.tmp 41) 30 9 (.string ⟨#[]⟩) 16 rfl Tryd.underlying30 infoS rfl (by decide) (by omega) (.slice A1 tl.length c1) tl z [.string z] (fun _ => True) (fun _ => False) rfl rfl ?aP (fun _ hk => hk.elim) ?aF ?aO ?aB ?aS ?aL ?_; (case aP => exact rfl); (case aF => exact fun _ _ => trivial); (case aO => exact HO.out); (case aB => exact HB2.out); (case aS => exact HB2.out.size); (case aL => omega); intro v3 w3 hown hb1 hg1 hat1; have HO3 := Lib.hid hown; have HB3 := Lib.hid hb1; clear hown hg1 hb1 hat1)
            go_roundw
            case rel =>
              refine ⟨j, (j : Int) - 1, by omega, by simp, by omega, ?_, HB3.out, fun x hx => ?_⟩
              · have hd : sfx.drop j = sfx[j] :: sfx.drop (j + 1) := List.drop_eq_getElem_cons hj
                rw [hd, List.reverse_cons, ← List.append_assoc, ← HTL.out, ← HZ.out]
                exact HO3.out
              · rw [List.drop_eq_getElem_cons hj, ← HZ.out] at hx
                rcases List.mem_cons.1 hx with rfl | hx
                · omega
                · exact HS.out x hx
            case measure => simp [intOf]
end Go.Proofs.YtbhlmdaogdhjdaaDoor.H
