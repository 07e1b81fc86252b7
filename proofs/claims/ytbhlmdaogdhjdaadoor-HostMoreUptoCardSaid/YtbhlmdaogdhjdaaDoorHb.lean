import Derived.RangeFuncNested
import Derived.RangeFuncBound
import Derived.RangeFuncCalls
import Derived.RangeFuncLeaves
import Derived.Shelf.Abstract
import Derived.Shelf.RegionOpen
import Derived.WalkKit
import Derived.OwnWalkIn
import Derived.TacticsInMore
import Derived.LoopNIn
import Derived.LoopIn
import Derived.Test.YtbhlmdaogdhjdaaDoorHa
/-! host.labels: its iterator. -/
namespace Go.Proofs.YtbhlmdaogdhjdaaDoor.H
open Go.RowKit Go.Shelf Go.Proofs.YtbhlmdaogdhjdaaDoorW.PrintWords
attribute [local go_sem] Oper.semAt_some

/-- Cells from n1 on lie as they lay. -/
def KpC (n1 : Nat) (W W' : World) : Prop := ∀ k cs t bd, n1 ≤ k → W.heap[k]? = some (.cells cs t bd) → W'.heap[k]? = some (.cells cs t bd)
theorem KpC.refl (n1 : Nat) (W : World) : KpC n1 W W := fun _ _ _ _ _ h => h
theorem KpC.trans {n1 : Nat} {A B C : World} (h : KpC n1 A B) (k : KpC n1 B C) : KpC n1 A C := fun i cs t bd hi h1 => k i cs t bd hi (h i cs t bd hi h1)
/-- A slice of texts, its cells from n1 on. -/
def StrsIn (n1 : Nat) (W : World) (v : Value) (zs : List ByteArray) : Prop :=
  ∃ b off cap cs t bd, v = .slice (some ⟨b, off, none⟩) zs.length cap ∧ n1 ≤ b ∧ W.heap[b]? = some (.cells cs t bd) ∧ ∀ j, j < zs.length → cs[off + j]? = some (.string (zs.getD j ByteArray.empty))
theorem StrsIn.kept {n1 : Nat} {W W' : World} {v : Value} {zs : List ByteArray} (h : StrsIn n1 W v zs) (k : KpC n1 W W') : StrsIn n1 W' v zs := by
  obtain ⟨b, off, cap, cs, t, bd, h1, h2, h3, h4⟩ := h
  exact ⟨b, off, cap, cs, t, bd, h1, h2, k b cs t bd h2 h3, h4⟩
theorem StrsIn.cell {n1 : Nat} {W : World} {b off cap n : Nat} {zs : List ByteArray} (h : StrsIn n1 W (.slice (some ⟨b, off, none⟩) n cap) zs) (j : Nat) (hj : j < zs.length) : W.cell? ⟨b, off + j, none⟩ = some (.string (zs.getD j ByteArray.empty)) := by
  obtain ⟨b', off', cap', cs, t, bd, h1, h2, h3, h4⟩ := h
  cases h1
  rw [cell_of_row W b (off + j) cs t bd h3]
  exact h4 j hj
theorem StrsIn.of_R {base : Nat} {W : World} {ok : Nat → Prop} {v : Value} {zs : List ByteArray} (h : Kd.R Kd.string 9 W base ok v zs) (hz : 0 < zs.length) : StrsIn base W v zs := by
  have h0 := h
  obtain ⟨_, inner, ho, hr⟩ := h
  rcases ho.2 with ⟨hv, hn⟩ | ⟨g, cap, cur, hv, hb, hcell, hnc, hcc, hsz, hin⟩
  · omega
  · subst hv
    have hC := (Kd.R_reads' h0).2.2
    refine ⟨g, 0, cap, cur, _, _, rfl, hb, hcell, fun j hj => ?_⟩
    obtain ⟨ad, c, e, _, hK, hc⟩ := Kd.C_get hC ByteArray.empty (j : Int) (by omega) (by omega)
    cases e
    obtain rfl : c = [.string (zs.getD (j : Int).toNat ByteArray.empty)] := hK
    have h2 : W.cell? ((⟨g, 0, none⟩ : Addr).add ((j : Int).toNat * 1 + 0)) = _ := hc 0 _ rfl
    have h3 : W.cell? ⟨g, 0 + j, none⟩ = some (.string (zs.getD j ByteArray.empty)) := by
      rw [show (⟨g, 0, none⟩ : Addr).add ((j : Int).toNat * 1 + 0) = ⟨g, 0 + j, none⟩ by simp only [Addr.add]; split <;> simp_all] at h2
      exact h2
    rw [cell_of_row W g (0 + j) cur _ _ hcell] at h3
    exact h3
/-- What has come when k rounds are over. -/
def upto (zs : List ByteArray) (k : Nat) : List (Nat × ByteArray) := (List.range k).map fun j => (j, zs[j]?.getD ByteArray.empty)
theorem upto_succ (zs : List ByteArray) (k : Nat) : upto zs (k + 1) = upto zs k ++ [(k, zs[k]?.getD ByteArray.empty)] := by simp [upto, List.range_succ]
theorem upto_length (zs : List ByteArray) (k : Nat) : (upto zs k).length = k := by simp [upto]
def encL (x : Nat × ByteArray) : Array Value := #[.int .i64 x.1, .string x.2]
set_option maxRecDepth 100000 in
set_option maxHeartbeats 2000000 in
theorem labels1_stops (n : Nat) (hn : 1 ≤ n) (s : ByteArray) (hs : s.size < 8796093022207) (bs n1 : Nat) (w : World) (hn1 : n1 ≤ w.heap.size) (hb : bs < w.heap.size) (hc : w.cell? ⟨bs, 0, none⟩ = some (.string s)) :
    SeqStopsK Fence.wide n Tryd.prog 37 #[.pointer (some ⟨bs, 0, none⟩)] encL (KpC n1) (fun ys => ys = upto (splitB s 46) (splitB s 46).length) (fun pre => ∃ k, k ≤ (splitB s 46).length ∧ pre = upto (splitB s 46) k) (splitB s 46).length w := fun l J Jx W hW hJ _ hY h0 => by
  have hc' := (hW.cell (p := ⟨bs, 0, none⟩) hb).trans hc
  have hsp := split_calls s 46 W hs
  have HSP := Lib.hid hsp
  have HJ := Lib.hid hJ
  have HW := Lib.hid hW
  have h1n : n1 ≤ W.heap.size := Nat.le_trans hn1 hW.size
  obtain ⟨zs, hzs⟩ : ∃ zs, zs = splitB s 46 := ⟨_, rfl⟩
  have hz0 : 0 < zs.length := by rw [hzs]; exact (splitB_length s 46).2
  have hz1 : zs.length ≤ 9223372036854775806 := by have := (splitB_length s 46).1; rw [← hzs] at this; omega
  rw [← hzs] at HSP hY
  rw [← hzs]
  clear hsp hc hb hW hJ hzs
  refine callsIn_of_wp Tryd.func37 rfl trivial ?_ rfl
  simp only [Tryd.ntmps37, List.size_toArray, List.length_cons, List.length_nil, Nat.reduceAdd, Nat.reduceSub, Array.replicate_succ, Array.replicate_zero, List.push_toArray, List.append_toArray, List.nil_append, List.cons_append]
  gi_wp2_with fail
  refine ⟨trivial, ?_⟩
  refine (callsIn_wide.2 HSP.out).mono ?_
  rintro e W2 ⟨v, rfl, hR, hB⟩
  have hS := (StrsIn.of_R hR hz0)
  obtain ⟨b, off, cap, cs, t, bd, rfl, hs2, hs3, hs4⟩ := hS
  have HS := Lib.hid (show StrsIn n1 W2 (.slice (some ⟨b, off, none⟩) zs.length cap) zs from ⟨b, off, cap, cs, t, bd, rfl, Nat.le_trans h1n hs2, hs3, hs4⟩)
  have HJ1 := Lib.hid (HJ.out _ _ _ none h0 ⟨hB.os, hB.tape, hB.output, hB.size, fun k hk _ => hB.block k hk⟩ (fun r e => by cases e))
  clear hR hB hs2 hs3 hs4 hc' h0 cs t bd
  gi_wp2_with fail
  gi_loopw [8] (fun i wr => ∃ k : Nat, k ≤ zs.length ∧ i = .int .i64 k ∧ Hid (J (upto zs k) wr) ∧ Hid (StrsIn n1 wr (.slice (some ⟨b, off, none⟩) zs.length cap) zs))
    (fun i _ => zs.length - (intOf i).toNat)
  case atStart => exact ⟨0, Nat.zero_le _, rfl, HJ1.out, HS.out⟩
  case round =>
    clear HJ1 HS
    obtain ⟨k, hk, rfl, HJk, HSk⟩ := hrel
    by_cases hlt : k < zs.length
    · have hcx : wr.cell? ⟨b, off + k, none⟩ = some (.string (zs[k]?.getD ByteArray.empty)) := by
        have := HSk.out.cell k hlt
        rwa [List.getD_eq_getElem?_getD] at this
      obtain ⟨fn, tmps, assign, body, hy, hR⟩ := hY _ (k, zs[k]?.getD ByteArray.empty) wr HJk.out (by rw [upto_length]; exact hlt)
      dsimp only [encL] at hy
      have hzk : zs[k]?.getD ByteArray.empty = zs[k] := by simp [hlt]
      rw [hzk] at hy hcx
      clear hzk
      have HR := Lib.hid hR
      clear hR
      gi_wp2
      refine HR.out.mono ?_
      rintro e W3 (⟨rfl, hJ3, hk3⟩ | ⟨rfl, hJx3⟩)
      · have HJ3 := Lib.hid hJ3
        have HS3 := Lib.hid (HSk.out.kept hk3)
        clear hJ3 hk3 hcx hy HR HJk HSk
        gi_wp2
        go_roundw
        case rel => exact ⟨k + 1, by omega, by simp, by rw [upto_succ]; exact HJ3.out, HS3.out⟩
        case measure => simp [intOf]; omega
      · clear hcx hy HR
        gi_wp2
        refine bodyPost_ret (results_none rfl _ _ _) rfl ?_
        exact ⟨⟨_, rfl⟩, .inr ⟨_, ⟨k + 1, by omega, (upto_succ _ _).symm⟩, hJx3⟩⟩
    · obtain rfl : k = zs.length := by omega
      gi_wp2
      go_end0
      exact ⟨⟨_, rfl⟩, .inl ⟨_, rfl, HJk.out⟩⟩
end Go.Proofs.YtbhlmdaogdhjdaaDoor.H
