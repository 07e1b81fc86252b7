-- Written by a program of this session for this claim (the kit's printer, with contracts of this session's own); Lean checks it.
import Derived.Test.YtdccplnfnjpfpaaX0
import Derived.Test.YtdccplnfnjpfpaaX1
namespace Go.Proofs.Ytdccplnfnjpfpaa.X
open Go.RowKit Go.Proofs.YtdccplnfnjpfpaaW.PrintWords Go.Proofs.YtdccplnfnjpfpaaW.PrintLast Go.Proofs.YtdccplnfnjpfpaaW.PrintMore
attribute [local go_sem] max2_int min2_int max_two min_two max_three min_three max_four min_four   -- for this text's walks alone
set_option linter.unusedVariables false
set_option linter.unusedSimpArgs false

/-! ### sandbox_Flags: function 14 -/
section
open Go.Maps Go.WideMaps
/-- What a word lets be, of the first k of the words ns. -/
def valUp (ns : List ByteArray) : Nat → List UInt8 → Int
  | 0, _ => 0
  | k + 1, s => if s = (ns.getD k ByteArray.empty).data.toList then 2 ^ k else valUp ns k s
theorem strLaw : Keyed Try.prog 9 := string_keyed Try.underlying9
theorem zeroI (w : World) : (zeroValue 3).run Try.prog w = .ok (.int .i64 0) w := by kernel_rfl

theorem look_after {w W w1 : World} {bm n : Nat} {D : DataW Unit} {v : Int} {s : ByteArray} (hm : w.ownsMap Try.prog 9 (plainElem Try.prog 3) bm n D) (hv : D.atKey (.string s.data.toList) (.lit (.int .i64 0)) = .lit (.int .i64 v)) (hs : s.size ≤ maxLen) (hb : Below W.heap.size W w1) (hW : W.heap = w.heap) :
    (Instr.lookup 40 (.map (some bm)) (.string s) false).run Try.prog w1 = .ok (.int .i64 v) w1 := by
  have hm1 : w1.ownsMap Try.prog 9 (plainElem Try.prog 3) bm n D := by
    have hlt := hm.lt
    obtain ⟨es, clock, hb0, F, hs0, hD⟩ := hm
    exact ⟨es, clock, by rw [hb.block bm (by rw [hW]; exact hlt), hW]; exact hb0, F, hs0, hD⟩
  obtain ⟨c, hrun, hat, _⟩ := hm1.lookup_int (t := 40) strLaw Try.underlying40 Try.underlying3 (zeroI _) (keyOf_string_mk Try.underlying9 hs)
  rw [hv] at hat
  injection hat with hat
  injection hat with _ hat
  rw [hat]
  exact hrun
theorem turn_of {w W w1 : World} {b : Nat} (hb : Below W.heap.size W w1) (hW : W.heap = w.heap) (ho : W.os = w.os) (ht : W.tape = w.tape) (hp : W.output = w.output) (u : Value) : w.grownBy (w1.setCell ⟨b, 0, none⟩ u) (some b) :=
  ⟨(show (w1.setCell ⟨b, 0, none⟩ u).os = w1.os from rfl).trans (hb.os.trans ho), (show (w1.setCell ⟨b, 0, none⟩ u).tape = w1.tape from rfl).trans (hb.tape.trans ht), (show (w1.setCell ⟨b, 0, none⟩ u).output = w1.output from rfl).trans (hb.output.trans hp),
    by have := hb.size; rw [hW] at this; simpa [World.setCell] using this,
    fun i hi hne => by
      rw [Below.heap_setCell _ _ _ _ (fun e => hne (by rw [e])), hb.block i (by rw [hW]; exact hi), hW]⟩
theorem blk_after {w W w1 : World} {g : Nat} {o : Obj} (h : w.heap[g]? = some o) (hb : Below W.heap.size W w1) (hW : W.heap = w.heap) : w1.heap[g]? = some o := by
  have hlt := blk_lt h
  rw [hb.block g (by rw [hW]; exact hlt), hW]; exact h
theorem lowerB_size (s : ByteArray) : (lowerB s).size = s.size := by
  show (strOfNums _).data.size = _
  simp [strOfNums, bytesOf_length, bytesOf]
set_option maxHeartbeats 1000000 in
set_option maxRecDepth 100000 in
theorem sandbox_Flags_1.calls (s : ByteArray) (hs : s.size ≤ 9223372036854775807) (o : Int) (b1 b2 bm n : Nat) (D : DataW Unit) (v : Int) (w : World)
    (h1 : w.heap[b1]? = some (.cells #[.int .i64 o] 3 (0, 0))) (h2 : w.heap[b2]? = some (.cells #[.map (some bm)] 40 (0, 0)))
    (hm : w.ownsMap Try.prog 9 (plainElem Try.prog 3) bm n D) (hv : D.atKey (.string (lowerB s).data.toList) (.lit (.int .i64 0)) = .lit (.int .i64 v)) :
    Calls Try.prog 25 #[.string s, .pointer (some ⟨b1, 0, none⟩), .pointer (some ⟨b2, 0, none⟩)] w fun e w' => e = .returned (.tuple #[]) ∧ w'.heap[b1]? = some (.cells #[.int .i64 (Go.bits .andNot .i64 o v)] 3 (0, 0)) ∧ w.grownBy w' (some b1) := by
  have c1 := blk_cell h1 0
  have c2 := blk_cell h2 0
  have f1 := blk_frozen h1 0
  have H1 := Lib.hid h1
  clear c2
  have c2 := blk_cell h2 0
  go_enter Try.func25, Try.ntmps25
  go_wp2
  go_region_with (go_at_call 26; refine (octet_Lower.total s _ hs).mono ?_; go_loud (rintro e w1 ⟨rfl, hb1⟩; have hl1 := look_after hm hv (by rw [lowerB_size]; exact hs) hb1 rfl; have e1 := blk_after h1 hb1 rfl; have e2 := blk_after h2 hb1 rfl; have g1 := blk_cell e1 0; have g2 := blk_cell e2 0; have k1 := blk_frozen e1 0; clear e2; have E1 := Lib.hid e1; have HB1 := Lib.hid hb1; clear e1 hb1))
  all_goals (go_end0; exact ⟨rfl, blk_set E1.out 0 _, turn_of (w := w) HB1.out rfl rfl rfl rfl _⟩)

theorem heap_at_new (w : World) (a b : Obj) : ((w.alloc a).alloc b).heap[w.heap.size + 1]? = some b := by
  have hz : (w.alloc a).heap.size = w.heap.size + 1 := by simp
  rw [← hz]; exact (MapKept.heap_alloc _ _).1
/-- What is left by words. -/
def flagsOf (ns l : List ByteArray) : Int := l.foldl (fun o s => Go.bits .andNot .i64 o (valUp ns 6 (lowerB s).data.toList)) 63
theorem rdOf_mem (l : List ByteArray) (j : Int) (h0 : 0 ≤ j) (h1 : j < (l.length : Int)) : rdOf ByteArray.empty l j ∈ l := by
  unfold rdOf
  rw [List.getD_eq_getElem?_getD, List.getElem?_eq_getElem (by omega)]
  exact List.getElem_mem _
theorem flagsOf_step (ns l : List ByteArray) (j : Int) (h0 : 0 ≤ j) (h1 : j < (l.length : Int)) : flagsOf ns (l.take (j + 1).toNat) = Go.bits .andNot .i64 (flagsOf ns (l.take j.toNat)) (valUp ns 6 (lowerB (rdOf ByteArray.empty l j)).data.toList) := by
  have e : (j + 1).toNat = j.toNat + 1 := by omega
  have h : j.toNat < l.length := by omega
  rw [e, List.take_succ_eq_append_getElem h]
  unfold flagsOf rdOf
  rw [List.foldl_append, List.getD_eq_getElem?_getD, List.getElem?_eq_getElem h]
  rfl
/-- The map holds what the first k words let be. -/
def Agree (ns : List ByteArray) (k : Nat) (D : DataW Unit) : Prop := Maps.IsMap D ∧ ∀ s : List UInt8, D.atKey (.string s) (.lit (.int .i64 0)) = .lit (.int .i64 (valUp ns k s))
theorem Agree.start (ns : List ByteArray) : Agree ns 0 (.map []) := ⟨⟨[], rfl⟩, fun s => rfl⟩
theorem Agree.step {ns : List ByteArray} {k : Nat} {D : DataW Unit} (h : Agree ns k D) (x : ByteArray) (hx : x = ns.getD k ByteArray.empty) (p : Int) (hp : p = 2 ^ k) : Agree ns (k + 1) (D.put (.string x.data.toList) (.lit (.int .i64 p))) := by
  refine ⟨h.1.put _ _, fun s => ?_⟩
  unfold valUp
  rw [← hx, ← hp]
  by_cases e : s = x.data.toList
  · rw [if_pos e, e]
    exact atKey_put_same (k := .string x.data.toList) h.1 trivial _ _
  · rw [if_neg e, ← h.2 s]
    exact atKey_put_other (by intro e2; injection e2 with e2; exact e e2) _ _

set_option maxHeartbeats 1000000 in
set_option maxRecDepth 100000 in
theorem sandbox_Flags.total (A0 : Option Addr) (c0 : Nat) (l0 : List ByteArray) (w : World) (hr0 : Kd.C Kd.string w A0 l0.length l0) (hc0 : l0.length ≤ c0) (hsz : ∀ s ∈ l0, s.size ≤ 9223372036854775807)
    (ns : List ByteArray) (hns : sandbox_names.f = some ns) (hnl : ns.length = 6) (hnz : ∀ k, (ns.getD k ByteArray.empty).size ≤ maxLen) :
    Calls Try.prog 14 #[.slice A0 l0.length c0] w fun e w' => e = .returned (.int .i64 (flagsOf ns l0)) ∧ Below w.heap.size w w' := by
  have hmm := @run_makeMap Try.prog
  have HB := Aside0.mk (Below.refl w.heap.size w)
  have HR := Lib.hid hr0
  have HN := Lib.hid hns
  have HNL := Lib.hid hnl
  have HS := Lib.hid hsz
  have HNZ := Lib.hid hnz
  clear hr0 hns hnl hsz hnz
  go_enter Try.func14, Try.ntmps14
  go_wp2_with fail
  refine (sandbox_names.calls ns _ HN.out).mono ?_
  rintro e w3 ⟨v0, rfl, ho0, hb⟩
  have m3 : w3.ownsMap Try.prog 9 (plainElem (H := Unit) Try.prog 3) w.heap.size 0 (.map []) := ((World.ownsMap_made w Try.prog 9 _).alloc (.cells #[Value.map (some w.heap.size)] 40)).kept (grown_of_below hb none) (by simp)
  have e3 : w3.heap[w.heap.size + 1]? = some (.cells #[.map (some w.heap.size)] 40 (0, 0)) := (hb.block _ (by simp)).trans (heap_at_new w (.map #[] 0) _)
  have b3 : Below w.heap.size w w3 := below_step (below_alloc (below_alloc (Below.refl w.heap.size w) _) _) hb
  obtain ⟨An, cn, rfl⟩ := Kd.R_slice ho0
  have o3 : Kd.R Kd.string 9 w3 (w.heap.size + 2) (fun k => w.heap.size + 2 ≤ k) (.slice An ns.length cn) ns := Kd.R_mono (Kd.R_bound (Kd.R_lower ho0 (base' := w.heap.size + 2) (by simp))) (fun k hk => hk.2.1)
  have M3 := Lib.hid m3
  have E3 := Lib.hid e3
  have B3 := Lib.hid b3
  have O3 := Lib.hid o3
  clear m3 e3 b3 o3 hb ho0 HB
  go_wp2_with fail
  go_loopw [13] (fun i wr => ∃ (x : Int) (D : DataW Unit), 0 ≤ x ∧ x ≤ 6 ∧ i = .int .i64 x ∧ Hid (wr.ownsMap Try.prog 9 (plainElem Try.prog 3) w.heap.size x.toNat D) ∧ Hid (Agree ns x.toNat D) ∧ Hid (wr.heap[w.heap.size + 1]? = some (.cells #[.map (some w.heap.size)] 40 (0, 0))) ∧ Hid (Kd.R Kd.string 9 wr (w.heap.size + 2) (fun k => w.heap.size + 2 ≤ k) (.slice An ns.length cn) ns) ∧ Hid (Below w.heap.size w wr)) (fun i _ => 6 - (intOf i).toNat)
  case atStart => exact ⟨0, _, by omega, by omega, rfl, M3, Agree.start ns, E3, O3, B3⟩
  case round =>
    clear M3 E3 B3 O3 w3
    obtain ⟨x, D, hx0, hx6, rfl, HM, HA, HE, HO, HB⟩ := hrel
    have hnl := HNL.out
    by_cases hlt : x < 6
    · have q : x < (ns.length : Int) := by omega
      have c1 : decide (x < (ns.length : Int)) = true := decide_eq_true q
      obtain ⟨ad, e1, hx⟩ := Kd.at_string (Kd.R_reads' HO.out).2.2 x hx0 q
      cases e1
      have hkey := keyOf_string_mk (P := Try.prog) Try.underlying9 (s := rdOf ByteArray.empty ns x) (HNZ.out x.toNat)
      have HP : Hid (shl .i64 1 x = 2 ^ x.toNat) := by
        have : ∀ n : Fin 6, shl .i64 1 (n.val : Int) = 2 ^ n.val := by decide +kernel
        have h2 := this ⟨x.toNat, by omega⟩
        rw [show ((⟨x.toNat, by omega⟩ : Fin 6).val : Int) = x from Int.toNat_of_nonneg hx0] at h2
        exact h2
      have HX : Hid (0 ≤ x ∧ x < 6) := ⟨hx0, hlt⟩
      have HW : Hid ((Lit.int .i64 (2 ^ x.toNat)).wf = true) := by
        have : ∀ n : Fin 6, (Lit.int .i64 (2 ^ n.val)).wf = true := by decide +kernel
        exact this ⟨x.toNat, by omega⟩
      have p := eq_true hx0
      replace q := eq_true q
      obtain ⟨ji9, hji9⟩ : ∃ j_ : Int, (shl .i64 1 x) = j_ := ⟨_, rfl⟩
      have hji9_ : (IntKind.i64.wrap (1 * 2 ^ min x.toNat 64)) = ji9 := hji9
      have hji9z : x ≤ 64 → (IntKind.i64.wrap (1 * 2 ^ x.toNat)) = ji9 := shl_small hji9
      have hji9u : (IntKind.i64.wrap (2 ^ min x.toNat 64)) = ji9 := by have h_ := hji9_; rw [Int.one_mul] at h_; exact h_
      have hji9v : x ≤ 64 → (IntKind.i64.wrap (2 ^ x.toNat)) = ji9 := fun hle_ => by have h_ := hji9z hle_; rw [Int.one_mul] at h_; exact h_
      have hji9y : (wrap64 (1 * 2 ^ min x.toNat 64)) = ji9 := (i64_w _).symm.trans hji9_
      have hji9x : x ≤ 64 → (wrap64 (1 * 2 ^ x.toNat)) = ji9 := fun h_ => (i64_w _).symm.trans (hji9z h_)
      have HJ : Hid (ji9 = 2 ^ x.toNat) := hji9.symm.trans HP.out
      clear hnl hx0 hx6 hlt hji9
      have ce := blk_cell HE.out 0
      go_wp2_with fail
      go_still_tail 4, (by kernel_rfl)
      refine wpList_mapUpdate_own _ rfl _ _ _ 40 rfl 9 3 strLaw Try.underlying40 _ w.heap.size x.toNat D rfl (show World.ownsMap wr.drew _ _ _ _ _ _ from HM.out) (by have := HX.out; unfold maxLen; omega) _ _ _ rfl rfl hkey _ [] (plainElem_int Try.underlying3 (by rw [HJ.out]; exact HW.out)) ?_
      intro w1 hown1 hgrow1
      have HM1 := Lib.hid hown1
      have HE1 := Lib.hid (blk_grown (w := wr.drew) HE.out hgrow1 (by simp))
      have HO1 := Lib.hid (Kd.R_grown (w := wr.drew) HO.out hgrow1 (fun k hk => by simp; omega))
      have HB1 := Lib.hid ((below_drew HB.out).grown hgrow1 HB.out.size (fun j hj => by cases hj; exact Nat.le_refl _))
      have HA1 := Lib.hid (Agree.step HA.out (rdOf ByteArray.empty ns x) rfl ji9 HJ.out)
      clear hown1 hgrow1 HM HE HO HB HA
      have hx0 := HX.out.1
      have hx5 := HX.out.2
      clear p q
      go_wp2
      go_roundw
      case rel => exact ⟨x + 1, _, by have := HX.out; omega, by have := HX.out; omega, rfl, by have := HX.out; rw [show (x + 1).toNat = x.toNat + 1 by omega]; exact HM1.out, by have := HX.out; rw [show (x + 1).toNat = x.toNat + 1 by omega]; exact HA1.out, HE1.out, HO1.out, HB1.out⟩
      case measure => have := HX.out; simp [intOf]; omega
    · obtain rfl : x = 6 := by omega
      have c1 : decide ((6 : Int) < (ns.length : Int)) = false := decide_eq_false (by omega)
      clear hlt hx0 hx6 hnl
      have HMw := Lib.hid (HM.out.alloc (.cells #[Value.int .i64 63] 3))
      have HEw := Lib.hid (blk_grown HE.out (World.grownBy_alloc wr (.cells #[Value.int .i64 63] 3) none) (by simp))
      have HBw := Lib.hid (below_alloc HB.out (.cells #[Value.int .i64 63] 3))
      have HGw := Lib.hid (MapKept.heap_alloc wr (.cells #[Value.int .i64 63] 3)).1
      have HL := Lib.hid (show w.heap.size + 1 < wr.heap.size from blk_lt HE.out)
      clear HM HE HB HO
      go_wp2_with fail
      clear c1
      obtain ⟨G, hG⟩ : ∃ G, G = wr.heap.size := ⟨_, rfl⟩
      rw [← hG]
      rw [← hG] at HGw HL
      clear hG
      go_loopw [26] (fun i w2 => ∃ (j : Int), 0 ≤ j ∧ j ≤ (l0.length : Int) ∧ i = .int .i64 j ∧ Hid (w2.ownsMap Try.prog 9 (plainElem Try.prog 3) w.heap.size 6 D) ∧ Hid (w2.heap[w.heap.size + 1]? = some (.cells #[.map (some w.heap.size)] 40 (0, 0))) ∧ Hid (w2.heap[G]? = some (.cells #[.int .i64 (flagsOf ns (l0.take j.toNat))] 3 (0, 0))) ∧ Hid (Below w.heap.size w w2)) (fun i _ => l0.length - (intOf i).toNat)
      case atStart => exact ⟨0, by omega, by omega, rfl, HMw, HEw, HGw, HBw⟩
      case round =>
        clear HMw HEw HGw HBw
        obtain ⟨j, hj0, hj1, rfl, HM, HE, HG, HB⟩ := hrel
        by_cases hlt : j < (l0.length : Int)
        · have c1 : decide (j < (l0.length : Int)) = true := decide_eq_true hlt
          obtain ⟨ad, e1, hx⟩ := Kd.at_string (Kd.C_below HR.out HB.out) j hj0 hlt
          cases e1
          have HJ : Hid (0 ≤ j ∧ j < (l0.length : Int)) := ⟨hj0, hlt⟩
          have HZ : Hid ((rdOf ByteArray.empty l0 j).size ≤ 9223372036854775807) := HS.out _ (rdOf_mem l0 j hj0 hlt)
          have p := eq_true hj0
          have q := eq_true hlt
          clear hj0 hj1 hlt
          go_wp2_with fail
          refine (sandbox_Flags_1.calls _ HZ.out _ G _ _ 6 D _ _ HG.out HE.out HM.out (HA.out.2 _)).mono ?_
          rintro e w4 ⟨rfl, hg4, hgr⟩
          have HG1 := Lib.hid hg4
          have HE1 := Lib.hid (blk_grown HE.out hgr (by have := HL.out; simp; omega))
          have HM1 := Lib.hid (HM.out.kept hgr (by have := HL.out; simp; omega))
          have HB1 := Lib.hid (HB.out.grown hgr HB.out.size (fun j hj => by cases hj; have := HL.out; omega))
          clear hg4 hgr HG HE HM HB
          have hj0 := HJ.out.1
          have hj1 := HJ.out.2
          have hj2 : j < 9223372036854775807 := by have := Kd.C_max HR.out; omega
          clear p q
          go_wp2
          go_roundw
          case rel => exact ⟨j + 1, by omega, by omega, rfl, HM1.out, HE1.out, by rw [flagsOf_step ns l0 j hj0 hj1]; exact HG1.out, HB1.out⟩
          case measure => simp [intOf]; omega
        · obtain rfl : j = (l0.length : Int) := by omega
          have c1 : decide ((l0.length : Int) < (l0.length : Int)) = false := decide_eq_false hlt
          have cg := blk_cell HG.out 0
          clear hlt hj0 hj1
          go_wp2
          go_ret
          exact ⟨by simp, HB.out⟩
end
def boxNames : List ByteArray := sandbox_names.f.getD []
theorem boxNames_eq : sandbox_names.f = some boxNames := rfl
theorem boxNames_len : boxNames.length = 6 := rfl
theorem boxNames_size : ∀ k, (boxNames.getD k ByteArray.empty).size ≤ maxLen := by
  intro k
  by_cases h : k < 6
  · have : ∀ n : Fin 6, (boxNames.getD n.val ByteArray.empty).size ≤ 100 := by decide +kernel
    have h2 := this ⟨k, h⟩
    unfold maxLen
    exact Nat.le_trans h2 (by decide)
  · rw [List.getD_eq_getElem?_getD, List.getElem?_eq_none (by rw [boxNames_len]; omega)]
    exact Nat.zero_le _
def sandbox_Flags.f (l0 : List ByteArray) : Option Int := if l0.all (fun s => decide (s.size ≤ 9223372036854775807)) = true then some (flagsOf boxNames l0) else none
theorem sandbox_Flags.calls (A0 : Option Addr) (c0 : Nat) (l0 : List ByteArray) (r : Int) (w : World) (hr0 : Kd.C Kd.string w A0 l0.length l0) (hc0 : l0.length ≤ c0) (h : sandbox_Flags.f l0 = some r) :
    Calls Try.prog 14 #[.slice A0 l0.length c0] w fun e w' => e = .returned (.int .i64 r) ∧ Below w.heap.size w w' := by
  unfold sandbox_Flags.f at h
  by_cases hs : l0.all (fun s => decide (s.size ≤ 9223372036854775807)) = true
  · rw [if_pos hs] at h
    obtain rfl := Option.some.inj h
    exact sandbox_Flags.total A0 c0 l0 w hr0 hc0 (fun s h => of_decide_eq_true (List.all_eq_true.mp hs s h)) boxNames boxNames_eq boxNames_len boxNames_size
  · rw [if_neg hs] at h
    exact absurd h (by simp)

/-! ### sandbox_Popup: function 16 -/
def sandbox_Popup.f (a0 : Int) : Option (Int) := if (Go.bits .and .i64 a0 16) = 0 then (some 0) else (some (Go.bits .and .i64 a0 63))
set_option maxHeartbeats 8000000 in
set_option maxRecDepth 100000 in
theorem sandbox_Popup.calls (a0 : Int) (r : Int) (w : World) (h : sandbox_Popup.f a0 = some r) :
    Calls Try.prog 16 #[.int .i64 a0] w fun e w' => e = .returned (.int .i64 r) ∧ Drawn0 w w' := by
  have H : (if (Go.bits .and .i64 a0 16) = 0 then (some 0) else (some (Go.bits .and .i64 a0 63))) = some r := h
  clear h
  by_cases c2 : (Go.bits .and .i64 a0 16) = 0
  · rw [if_pos c2] at H
    have c2b0 : ((Go.bits .and .i64 a0 16) == 0) = true := beq_iff_eq.mpr c2
    have c2b1 : ((Go.bits .and .i64 a0 16) != 0) = false := bne_eq_false_iff_eq.mpr c2
    clear c2
    obtain rfl := Option.some.inj H
    go_enter Try.func16, Try.ntmps16
    go_wp2
    go_ret
    exact ⟨by first | rfl | (simp; done) | (simp [*]; done), by repeat (first | exact Drawn0.refl _ | apply Drawn0.step)⟩
  · rw [if_neg c2] at H
    have c2b0 : ((Go.bits .and .i64 a0 16) == 0) = false := beq_eq_false_iff_ne.mpr c2
    have c2b1 : ((Go.bits .and .i64 a0 16) != 0) = true := bne_iff_ne.mpr c2
    obtain rfl := Option.some.inj H
    go_enter Try.func16, Try.ntmps16
    go_wp2
    go_ret
    exact ⟨by first | rfl | (simp; done) | (simp [*]; done), by repeat (first | exact Drawn0.refl _ | apply Drawn0.step)⟩

end Go.Proofs.Ytdccplnfnjpfpaa.X
