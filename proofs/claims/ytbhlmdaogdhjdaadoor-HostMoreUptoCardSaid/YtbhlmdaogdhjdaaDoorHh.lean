import Derived.Test.YtbhlmdaogdhjdaaDoorHg
/-! host.Site's closure. -/
namespace Go.Proofs.YtbhlmdaogdhjdaaDoor.H
open Go.RowKit Go.Shelf Go.Joins Go.Proofs.YtbhlmdaogdhjdaaDoorW.PrintWords Go.Proofs.YtbhlmdaogdhjdaaDoorW.PrintLast Go.Proofs.YtbhlmdaogdhjdaaDoorW.PrintMore
attribute [local go_sem] max2_int min2_int max_two min_two

theorem infoSi : ∃ i, Tryd.prog.info? 9 = some i ∧ i.size = 1 := by
  obtain ⟨i, hi, hz⟩ := Option.map_eq_some_iff.1 infoS
  simp only [Prod.mk.injEq] at hz
  exact ⟨i, hi, hz.2.1⟩
theorem grown_set {w w1 : World} {b : Nat} (h : w.grownBy w1 (some b)) (v : Value) : w.grownBy (w1.setCell ⟨b, 0, none⟩ v) (some b) :=
  ⟨h.os, h.tape, h.output, by simpa [World.setCell] using h.size, fun k hk hne => (Below.heap_setCell _ _ _ _ (fun e => hne (by rw [e]))).trans (h.block k hk hne)⟩
/-- Are these labels the last ones? -/
def endsB (zs ss : List ByteArray) : Bool := decide (ss.length ≤ zs.length) && decide (zs.drop (zs.length - ss.length) = ss)
def tryB (zs : List ByteArray) (best : Int) (suffix : ByteArray) : Int := if endsB zs (splitB suffix 46) = true then max best ((splitB suffix 46).length : Int) else best
set_option maxRecDepth 100000 in
set_option maxHeartbeats 2000000 in
theorem try_calls (sx : ByteArray) (hs : sx.size < 8796093022207) (bl bb b off c : Nat) (cs : Array Value) (tc : TypeId) (bd : Nat × Nat) (zs : List ByteArray) (best : Int) (w : World) (hzn : zs.length ≤ 9223372036854775806) (hzc : zs.length ≤ c)
    (hl : w.heap[bl]? = some (.cells #[.slice (some ⟨b, off, none⟩) zs.length c] 30 (0, 0))) (hb : w.heap[bb]? = some (.cells #[.int .i64 best] 3 (0, 0)))
    (hc : w.heap[b]? = some (.cells cs tc bd)) (hcs : ∀ j, j < zs.length → cs[off + j]? = some (.string (zs.getD j ByteArray.empty))) :
    Calls Tryd.prog 32 #[.string sx, .pointer (some ⟨bl, 0, none⟩), .pointer (some ⟨bb, 0, none⟩)] w fun e w' => e = .returned (.tuple #[]) ∧ w'.heap[bb]? = some (.cells #[.int .i64 (tryB zs best sx)] 3 (0, 0)) ∧ w.grownBy w' (some bb) := by
  have HS := Lib.hid (split_calls sx 46 w hs)
  obtain ⟨ss, hss⟩ : ∃ x, x = splitB sx 46 := ⟨_, rfl⟩
  have hs0 : 0 < ss.length := by rw [hss]; exact (splitB_length sx 46).2
  have hs1 : ss.length ≤ 9223372036854775806 := by have := (splitB_length sx 46).1; rw [← hss] at this; omega
  rw [← hss] at HS
  have HSS := Lib.hid hss
  have HL := Lib.hid hl
  have HBB := Lib.hid hb
  have HC := Lib.hid hc
  have HCS := Lib.hid hcs
  clear hss hl hb hc hcs
  go_enter Tryd.func32, Tryd.ntmps32
  go_wp2_with fail
  refine HS.out.mono ?_
  rintro e w1 ⟨v, rfl, hR, hB⟩
  obtain ⟨b2, o2, c2, cs2, t2, bd2, rfl, hn2, hc2, hcs2⟩ := StrsIn.of_R hR hs0
  have hL1 := blk_after HL.out hB rfl
  have hB1 := blk_after HBB.out hB rfl
  have hC1 := blk_after HC.out hB rfl
  have cl : w1.cell? ⟨bl, 0, none⟩ = some (.slice (some ⟨b, off, none⟩) zs.length c) := blk_cell hL1 0
  have cb : w1.cell? ⟨bb, 0, none⟩ = some (.int .i64 best) := blk_cell hB1 0
  have fb := blk_frozen hB1 0
  have HB := Lib.hid hB
  have HB1 := Lib.hid hB1
  have HC1 := Lib.hid hC1
  have HC2 := Lib.hid hc2
  have HCS2 := Lib.hid hcs2
  clear hR hB hL1 hB1 hC1 hc2 hcs2
  by_cases hle : (ss.length : Int) ≤ (zs.length : Int)
  · have hd : decide ((ss.length : Int) ≤ (zs.length : Int)) = true := decide_eq_true hle
    have hd2 : decide (ss.length ≤ zs.length) = true := decide_eq_true (by omega)
    obtain ⟨ti, hti, htz⟩ := infoSi
    have hcut := cut_from (P := Tryd.prog) 30 9 .i64 Tryd.underlying30 hti 1 htz (some ⟨b, off, none⟩) zs.length c ((zs.length : Int) - (ss.length : Int)) (by omega) (by omega)
    rw [if_neg (by omega)] at hcut
    rw [show ((zs.length : Int) - (ss.length : Int)).toNat = zs.length - ss.length by omega] at hcut
    rw [show (some (⟨b, off, none⟩ : Addr)).map (·.add ((zs.length - ss.length) * 1)) = some ⟨b, off + (zs.length - ss.length), none⟩ by simp only [Option.map_some, Addr.add]; split <;> simp_all] at hcut
    rw [show zs.length - (zs.length - ss.length) = ss.length by omega] at hcut
    go_wp2_with fail
    have hdl : (zs.drop (zs.length - ss.length)).length = ss.length := by rw [List.length_drop]; omega
    have heq := Tryd.slices_Equal_string b (off + (zs.length - ss.length)) ss.length (c - (zs.length - ss.length)) b2 o2 ss.length c2 (zs.drop (zs.length - ss.length)) ss w1 (by rw [hdl]; exact Nat.le_refl _) (Nat.le_refl _) (by omega) (by omega)
      (fun j hj => by
        rw [hdl] at hj
        rw [cell_of_row w1 b _ cs tc bd HC1.out, Nat.add_assoc, HCS.out (zs.length - ss.length + j) (by omega)]
        congr 2
        simp [List.getD_eq_getElem?_getD, List.getElem?_drop])
      (fun j hj => by rw [cell_of_row w1 b2 _ cs2 t2 bd2 HC2.out]; exact HCS2.out j hj)
    rw [show (zs.drop (zs.length - ss.length)).take ss.length = zs.drop (zs.length - ss.length) by rw [List.take_of_length_le (by rw [hdl]; exact Nat.le_refl _)], List.take_length] at heq
    have HEQ := Lib.hid heq
    clear heq hcut hti htz hdl
    refine HEQ.out.mono ?_
    rintro e w2 ⟨rfl, q, rfl⟩
    obtain ⟨r, hr⟩ : ∃ r, r = decide (zs.drop (zs.length - ss.length) = ss) := ⟨_, rfl⟩
    rw [← hr]
    have HR := Lib.hid hr
    clear hr HEQ
    have HG := Lib.hid (show w.grownBy (w1.drewN q) (some bb) from ⟨HB.out.os, HB.out.tape, HB.out.output, HB.out.size, fun k hk _ => HB.out.block k hk⟩)
    cases r
    · go_wp2_with fail
      go_end0
      have : tryB zs best sx = best := by
        unfold tryB endsB
        rw [← HSS.out, ← HR.out, Bool.and_false]; rfl
      rw [this]
      exact ⟨rfl, HB1.out, HG.out⟩
    · have htry : tryB zs best sx = max best (ss.length : Int) := by
        unfold tryB endsB
        rw [← HSS.out, ← HR.out, hd2]; rfl
      have HTRY := Lib.hid htry
      clear htry
      go_wp2_with fail
      all_goals
        go_end0
        rw [HTRY.out]
        first
        | (rw [Int.max_eq_left (by omega)]; exact ⟨rfl, blk_set (w := w1.drewN q) HB1.out 0 _, grown_set HG.out _⟩)
        | (rw [Int.max_eq_right (by omega)]; exact ⟨rfl, blk_set (w := w1.drewN q) HB1.out 0 _, grown_set HG.out _⟩)
  · have hd : decide ((ss.length : Int) ≤ (zs.length : Int)) = false := decide_eq_false hle
    have hd2 : decide (ss.length ≤ zs.length) = false := decide_eq_false (by omega)
    go_wp2_with fail
    go_end0
    have : tryB zs best sx = best := by
      unfold tryB endsB
      rw [← HSS.out, hd2]; rfl
    rw [this]
    exact ⟨rfl, HB1.out, ⟨HB.out.os, HB.out.tape, HB.out.output, HB.out.size, fun k hk _ => HB.out.block k hk⟩⟩
end Go.Proofs.YtbhlmdaogdhjdaaDoor.H
