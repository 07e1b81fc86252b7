import Derived.Test.YtbhlmdaogdhjdaaDoorHh
/-! host.Site. -/
namespace Go.Proofs.YtbhlmdaogdhjdaaDoor.H
open Go.RowKit Go.Shelf Go.Joins Go.Proofs.YtbhlmdaogdhjdaaDoorW.PrintWords Go.Proofs.YtbhlmdaogdhjdaaDoorW.PrintLast Go.Proofs.YtbhlmdaogdhjdaaDoorW.PrintMore
attribute [local go_sem] max2_int min2_int max_two min_two

def bestB (zs sfx : List ByteArray) : Int := sfx.foldl (tryB zs) 0
def fromB (zs sfx : List ByteArray) : Nat := (zs.length : Int).toNat - (max (bestB zs sfx) 1 + 1).toNat
def siteB (nm : ByteArray) (sfx : List ByteArray) : ByteArray := ⟨(Lib.join (((splitB nm 46).drop (fromB (splitB nm 46) sfx)).map (·.data.toList)) [46]).toArray⟩
theorem formed_le {e base : Nat} {w : World} {ok : Nat → Prop} {A : Option Addr} {n c : Nat} {xs : List ByteArray} (h : Kd.R Kd.string e w base ok (.slice A n c) xs) : xs.length ≤ c := by
  obtain ⟨hn, hc, hC⟩ := Kd.R_reads' h
  omega
theorem cell_below {w w1 : World} {p : Addr} {v : Value} (hb : Below w.heap.size w w1) (h : w.cell? p = some v) : w1.cell? p = some v :=
  (World.cell?_of_block (hb.block _ (World.block_lt_of_cell? w _ h))).trans h
theorem str_at {w : World} {A : Option Addr} {n : Nat} {xs : List ByteArray} (h : Kd.C Kd.string w A n xs) (k : Nat) (hk : k < xs.length) : ∃ ad, A = some ad ∧ w.cell? (ad.add k) = some (.string xs[k]) := by
  have hn := h.1
  obtain ⟨ad, c, e, _, hK, hc⟩ := Kd.C_get h ByteArray.empty (k : Int) (by omega) (by omega)
  obtain rfl : c = [.string (xs.getD (k : Int).toNat ByteArray.empty)] := hK
  have h2 := hc 0 _ rfl
  have h3 : w.cell? (ad.add ((k : Int).toNat * 1 + 0)) = some (.string (xs.getD (k : Int).toNat ByteArray.empty)) := h2
  rw [Nat.mul_one, Nat.add_zero, Int.toNat_natCast, List.getD_eq_getElem?_getD, List.getElem?_eq_getElem hk] at h3
  exact ⟨ad, e, h3⟩
theorem best_bound (zs sfx : List ByteArray) : 0 ≤ bestB zs sfx ∧ bestB zs sfx ≤ zs.length := by
  unfold bestB
  have : ∀ (l : List ByteArray) (b : Int), 0 ≤ b → b ≤ zs.length → 0 ≤ l.foldl (tryB zs) b ∧ l.foldl (tryB zs) b ≤ zs.length := by
    intro l
    induction l with
    | nil => intro b h0 h1; exact ⟨h0, h1⟩
    | cons x l ih =>
      intro b h0 h1
      refine ih _ ?_ ?_
      · unfold tryB; split <;> omega
      · unfold tryB
        split
        · rename_i h
          unfold endsB at h
          simp only [Bool.and_eq_true, decide_eq_true_eq] at h
          omega
        · exact h1
  exact this sfx 0 (Int.le_refl _) (by omega)
theorem cut_addr (b off f : Nat) : (some (⟨b, off, none⟩ : Addr)).map (·.add (f * 1)) = some ⟨b, off + f, none⟩ := by
  simp only [Option.map_some, Addr.add, Nat.mul_one]
  split
  · simp_all
  · simp_all
theorem join_len (sep : List UInt8) (m : Nat) : ∀ ls : List (List UInt8), (∀ l ∈ ls, l.length ≤ m) → (Lib.join ls sep).length ≤ ls.length * (m + sep.length)
  | [], _ => by simp [Lib.join]
  | [x], h => by
    have := h x (by simp)
    rw [Lib.join_one]
    simp; omega
  | x :: y :: ls, h => by
    have ih := join_len sep m (y :: ls) (fun l hl => h l (by simp [hl]))
    have hx := h x (by simp)
    have he : Lib.join (x :: y :: ls) sep = x ++ sep ++ Lib.join (y :: ls) sep := by simp [Lib.join, List.intercalate]
    rw [he]
    simp only [List.length_append, List.length_cons] at ih ⊢
    rw [Nat.succ_mul]
    omega
theorem join_at (zs : List ByteArray) (nm : ByteArray) (sfx : List ByteArray) (hnm : nm.size ≤ 1048576) (b off cl : Nat) (cs : Array Value) (tc : TypeId) (bd : Nat × Nat) (X : Nat) (w : World) (hz : zs = splitB nm 46) (hzc : zs.length ≤ cl) (hc : w.heap[b]? = some (.cells cs tc bd))
    (hcs : ∀ j, j < zs.length → cs[off + j]? = some (.string (zs.getD j ByteArray.empty))) (hX : X = fromB zs sfx) :
    Calls Tryd.prog 31 #[.slice (some ⟨b, off + X, none⟩) (zs.length - X) (cl - X), .string ⟨#[46]⟩] w fun e w' => e = .returned (.string (siteB nm sfx)) ∧ Below w.heap.size w w' := by
  have hdl : (zs.drop X).length = zs.length - X := List.length_drop
  have hn := (splitB_length nm 46).1
  rw [← hz] at hn
  have hmem : ∀ l ∈ (zs.drop X).map (·.data.toList), l.length ≤ nm.size := by
    intro l hl
    obtain ⟨z, hz1, rfl⟩ := List.mem_map.1 hl
    have hz2 := List.mem_of_mem_drop hz1
    obtain ⟨k, hk, rfl⟩ := List.mem_iff_getElem.1 hz2
    have := splitB_size nm 46 k
    rw [← hz, List.getElem?_eq_getElem hk] at this
    rw [data_length]
    exact this
  have hj := join_len [46] nm.size _ hmem
  have h := Tryd.strings_Join b (off + X) (cl - X) (zs.drop X) ⟨#[46]⟩ w (fun j x hx => by
      have hlt := (List.getElem?_eq_some_iff.1 hx).1
      rw [List.getElem?_drop] at hx
      rw [cell_of_row w b _ cs tc bd hc, Nat.add_assoc, hcs (X + j) (by omega), List.getD_eq_getElem?_getD, hx]; rfl) (blk_lt hc) (by omega) (by omega) (by
      refine Nat.le_trans hj ?_
      rw [List.length_map, hdl]
      have h1 : zs.length - X ≤ 1048577 := by omega
      have h2 : nm.size + [(46 : UInt8)].length ≤ 1048577 := by simp; omega
      exact Nat.le_trans (Nat.mul_le_mul h1 h2) (by decide))
  rw [hdl] at h
  unfold siteB
  rw [← hz, ← hX]
  exact h
structure SSt (w : World) (bl bb b off c : Nat) (cs : Array Value) (tc : TypeId) (bd : Nat × Nat) (n : Nat) (best : Int) (wr : World) : Prop where
  l : wr.heap[bl]? = some (.cells #[.slice (some ⟨b, off, none⟩) n c] 30 (0, 0))
  v : wr.heap[bb]? = some (.cells #[.int .i64 best] 3 (0, 0))
  c : wr.heap[b]? = some (.cells cs tc bd)
  below : Below w.heap.size w wr
set_option maxRecDepth 100000 in
set_option maxHeartbeats 2000000 in
theorem site_addr (nm : ByteArray) (a : Int) (h0 : 0 ≤ a) (h1 : a ≤ 4294967295) (A : Option Addr) (n c : Nat) (w : World) (ht : Tab w) : Calls Tryd.prog 16 #[.agg #[.string nm, .bool true, .int .u32 a], .slice A n c] w fun e w' => e = .returned (.string (textB a)) ∧ Below w.heap.size w w' := by
  have HT := Lib.hid (text_addr nm a h0 h1 (w.alloc (.cells #[.string nm, .bool true, .int .u32 a] 25)) (ht.below (below_alloc (Below.refl _ _) _)))
  clear ht
  go_enter Tryd.func16, Tryd.ntmps16
  go_wp2_with fail
  refine HT.out.mono ?_
  rintro e w1 ⟨rfl, hb⟩
  have HB := Lib.hid (below_then (below_alloc (Below.refl w.heap.size w) _) (by simp) hb)
  clear hb
  go_wp2
  go_ret
  exact ⟨rfl, HB.out⟩
set_option maxRecDepth 100000 in
set_option maxHeartbeats 4000000 in
theorem site_name (nm : ByteArray) (a : Int) (hnm : nm.size ≤ 1048576) (A : Option Addr) (c : Nat) (sfx : List ByteArray) (w : World) (hC : Kd.C Kd.string w A sfx.length sfx) (hsz : ∀ z ∈ sfx, z.size < 8796093022207) :
    Calls Tryd.prog 16 #[.agg #[.string nm, .bool false, .int .u32 a], .slice A sfx.length c] w fun e w' => e = .returned (.string (siteB nm sfx)) ∧ Below w.heap.size w w' := by
  have HS := Lib.hid (split_calls nm 46 (w.alloc (.cells #[.string nm, .bool false, .int .u32 a] 25)) (by omega))
  obtain ⟨zs, hzs⟩ : ∃ z, z = splitB nm 46 := ⟨_, rfl⟩
  have hz0 : 0 < zs.length := by rw [hzs]; exact (splitB_length nm 46).2
  have hz1 : zs.length ≤ 1048577 := by have := (splitB_length nm 46).1; rw [← hzs] at this; omega
  rw [← hzs] at HS
  have HZ := Lib.hid hzs
  have HC := Lib.hid hC
  have HSZ := Lib.hid hsz
  clear hzs hC hsz
  go_enter Tryd.func16, Tryd.ntmps16
  go_wp2_with fail
  refine HS.out.mono ?_
  rintro e w1 ⟨v, rfl, hR, hB⟩
  obtain ⟨b, off, cl, cs, tc, bd, rfl, hnb, hcb, hcsb⟩ := StrsIn.of_R hR hz0
  have hzc : zs.length ≤ cl := (formed_le hR)
  have hB1 : Below w.heap.size w w1 := below_then (below_alloc (Below.refl w.heap.size w) _) (by simp) hB
  have hst : SSt w w1.heap.size (w1.heap.size + 1) b off cl cs tc bd zs.length 0 ((w1.alloc (.cells #[.slice (some ⟨b, off, none⟩) zs.length cl] 30)).alloc (.cells #[.int .i64 0] 3)) := by
    refine ⟨blk_alloc (blk_new w1 _) _, ?_, blk_alloc (blk_alloc hcb _) _, below_alloc (below_alloc hB1 _) _⟩
    have := blk_new (w1.alloc (.cells #[.slice (some ⟨b, off, none⟩) zs.length cl] 30)) (.cells #[.int .i64 0] 3)
    rw [show (w1.alloc (.cells #[.slice (some ⟨b, off, none⟩) zs.length cl] 30)).heap.size = w1.heap.size + 1 by simp] at this
    exact this
  have hlow : w.heap.size ≤ w1.heap.size := hB1.size
  have hbneq : b ≠ w1.heap.size + 1 := by have := blk_lt hcb; omega
  have HST := Lib.hid hst
  have HCSB := Lib.hid hcsb
  clear hst hR hB hB1 hcb hcsb hnb HS
  go_wp2_with fail
  obtain ⟨bl, hbl⟩ : ∃ k, k = w1.heap.size := ⟨_, rfl⟩
  obtain ⟨bb, hbb⟩ : ∃ k, k = w1.heap.size + 1 := ⟨_, rfl⟩
  rw [← hbb, ← hbl] at HST
  rw [← hbb, ← hbl]
  rw [← hbl] at hlow
  rw [← hbb] at hbneq
  have hne : bl ≠ bb := by omega
  have hlow2 : w.heap.size ≤ bb := by omega
  clear hbl hbb
  go_loopw [20] (fun i wr => ∃ k : Nat, k ≤ sfx.length ∧ i = .int .i64 k ∧ Hid (SSt w bl bb b off cl cs tc bd zs.length (bestB zs (sfx.take k)) wr)) (fun i _ => sfx.length - (intOf i).toNat)
  case atStart => exact ⟨0, Nat.zero_le _, rfl, HST.out⟩
  case round =>
    clear HST w1
    obtain ⟨k, hk, rfl, HS⟩ := hrel
    by_cases hlt : k < sfx.length
    · obtain ⟨ad, e, hcell⟩ := str_at HC.out k hlt
      subst e
      have ce : wr.cell? (ad.add k) = some (.string sfx[k]) := cell_below HS.out.below hcell
      have hkm : k < 9223372036854775807 := by have := HC.out.2.1; omega
      clear hcell
      have hsk : sfx[k].size < 8796093022207 := HSZ.out _ (List.getElem_mem _)
      go_wp2_with fail
      refine (try_calls sfx[k] hsk bl bb b off cl cs tc bd zs _ wr (by omega) hzc HS.out.l HS.out.v HS.out.c HCSB.out).mono ?_
      rintro e w2 ⟨rfl, hv, hg⟩
      have HS2 := Lib.hid (show SSt w bl bb b off cl cs tc bd zs.length (bestB zs (sfx.take (k + 1))) w2 from
        ⟨blk_grown HS.out.l hg (by simp [hne]), by rw [List.take_add_one, List.getElem?_eq_getElem hlt]; unfold bestB at hv ⊢; rw [List.foldl_append]; exact hv, blk_grown HS.out.c hg (by simp [hbneq]), pw_below_grown HS.out.below _ (HS.out.below.size) hg (fun k e => by cases e; exact hlow2)⟩)
      clear hv hg HS ce
      go_wp2
      go_roundw
      case rel => exact ⟨k + 1, by omega, by simp, HS2.out⟩
      case measure => simp [intOf]; omega
    · obtain rfl : k = sfx.length := by omega
      rw [List.take_length] at HS
      have cl0 : wr.cell? ⟨bl, 0, none⟩ = some (.slice (some ⟨b, off, none⟩) zs.length cl) := blk_cell HS.out.l 0
      have cv0 : wr.cell? ⟨bb, 0, none⟩ = some (.int .i64 (bestB zs sfx)) := blk_cell HS.out.v 0
      obtain ⟨hb0, hb1⟩ := best_bound zs sfx
      obtain ⟨B, hB⟩ : ∃ B, B = bestB zs sfx := ⟨_, rfl⟩
      rw [← hB] at cv0 hb0 hb1
      have HB := Lib.hid hB
      clear hB
      obtain ⟨ti, hti, htz⟩ := infoSi
      by_cases h1 : B ≤ 1
      all_goals by_cases h2 : (zs.length : Int) - (max B 1) - 1 ≤ 0
      all_goals (first | rw [Int.max_eq_right (by omega)] at h2 | rw [Int.max_eq_left (by omega)] at h2)
      · obtain ⟨f, hf⟩ : ∃ f : Nat, f = (0 : Int).toNat := ⟨_, rfl⟩
        have hcut := cut_from (P := Tryd.prog) 30 9 .i64 Tryd.underlying30 hti 1 htz (some ⟨b, off, none⟩) zs.length cl (0 : Int) (by omega) (by omega)
        rw [← hf, if_neg (by omega), cut_addr] at hcut
        have hfrom : fromB zs sfx = f := by unfold fromB; rw [← HB.out, hf]; omega
        have HF := Lib.hid hfrom
        have hfl : f < zs.length := by omega
        have HFE := Lib.hid hf
        clear hf hfrom
        go_wp2_with fail
        all_goals
          have hX := HF.out
          have hX2 := HFE.out
          refine (join_at zs nm sfx hnm b off cl cs tc bd _ wr HZ.out hzc HS.out.c HCSB.out (by omega)).mono ?_
          rintro e w2 ⟨rfl, hb⟩
          have HB2 := Lib.hid (below_then HS.out.below HS.out.below.size hb)
          clear hb hX2 hX
          go_wp2
          go_ret
          exact ⟨rfl, HB2.out⟩
      · obtain ⟨f, hf⟩ : ∃ f : Nat, f = (((zs.length : Int) - 1 - 1) : Int).toNat := ⟨_, rfl⟩
        have hcut := cut_from (P := Tryd.prog) 30 9 .i64 Tryd.underlying30 hti 1 htz (some ⟨b, off, none⟩) zs.length cl (((zs.length : Int) - 1 - 1) : Int) (by omega) (by omega)
        rw [← hf, if_neg (by omega), cut_addr] at hcut
        have hfrom : fromB zs sfx = f := by unfold fromB; rw [← HB.out, hf]; omega
        have HF := Lib.hid hfrom
        have hfl : f < zs.length := by omega
        have HFE := Lib.hid hf
        clear hf hfrom
        go_wp2_with fail
        all_goals
          have hX := HF.out
          have hX2 := HFE.out
          refine (join_at zs nm sfx hnm b off cl cs tc bd _ wr HZ.out hzc HS.out.c HCSB.out (by omega)).mono ?_
          rintro e w2 ⟨rfl, hb⟩
          have HB2 := Lib.hid (below_then HS.out.below HS.out.below.size hb)
          clear hb hX2 hX
          go_wp2
          go_ret
          exact ⟨rfl, HB2.out⟩
      · obtain ⟨f, hf⟩ : ∃ f : Nat, f = (0 : Int).toNat := ⟨_, rfl⟩
        have hcut := cut_from (P := Tryd.prog) 30 9 .i64 Tryd.underlying30 hti 1 htz (some ⟨b, off, none⟩) zs.length cl (0 : Int) (by omega) (by omega)
        rw [← hf, if_neg (by omega), cut_addr] at hcut
        have hfrom : fromB zs sfx = f := by unfold fromB; rw [← HB.out, hf]; omega
        have HF := Lib.hid hfrom
        have hfl : f < zs.length := by omega
        have HFE := Lib.hid hf
        clear hf hfrom
        go_wp2_with fail
        all_goals
          have hX := HF.out
          have hX2 := HFE.out
          refine (join_at zs nm sfx hnm b off cl cs tc bd _ wr HZ.out hzc HS.out.c HCSB.out (by omega)).mono ?_
          rintro e w2 ⟨rfl, hb⟩
          have HB2 := Lib.hid (below_then HS.out.below HS.out.below.size hb)
          clear hb hX2 hX
          go_wp2
          go_ret
          exact ⟨rfl, HB2.out⟩
      · obtain ⟨f, hf⟩ : ∃ f : Nat, f = (((zs.length : Int) - B - 1) : Int).toNat := ⟨_, rfl⟩
        have hcut := cut_from (P := Tryd.prog) 30 9 .i64 Tryd.underlying30 hti 1 htz (some ⟨b, off, none⟩) zs.length cl (((zs.length : Int) - B - 1) : Int) (by omega) (by omega)
        rw [← hf, if_neg (by omega), cut_addr] at hcut
        have hfrom : fromB zs sfx = f := by unfold fromB; rw [← HB.out, hf]; omega
        have HF := Lib.hid hfrom
        have hfl : f < zs.length := by omega
        have HFE := Lib.hid hf
        clear hf hfrom
        go_wp2_with fail
        all_goals
          have hX := HF.out
          have hX2 := HFE.out
          refine (join_at zs nm sfx hnm b off cl cs tc bd _ wr HZ.out hzc HS.out.c HCSB.out (by omega)).mono ?_
          rintro e w2 ⟨rfl, hb⟩
          have HB2 := Lib.hid (below_then HS.out.below HS.out.below.size hb)
          clear hb hX2 hX
          go_wp2
          go_ret
          exact ⟨rfl, HB2.out⟩
end Go.Proofs.YtbhlmdaogdhjdaaDoor.H
