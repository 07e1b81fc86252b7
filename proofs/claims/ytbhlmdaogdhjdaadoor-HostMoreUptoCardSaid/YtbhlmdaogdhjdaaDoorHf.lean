import Derived.Test.YtbhlmdaogdhjdaaDoorHb
/-! host.labels' iterator, told by the places alone. -/
namespace Go.Proofs.YtbhlmdaogdhjdaaDoor.H
open Go.RowKit Go.Shelf Go.Proofs.YtbhlmdaogdhjdaaDoorW.PrintWords
attribute [local go_sem] Oper.semAt_some
def encI (zs : List ByteArray) (k : Nat) : Array Value := #[.int .i64 k, .string (zs[k]?.getD ByteArray.empty)]
set_option maxRecDepth 100000 in
set_option maxHeartbeats 2000000 in
theorem labels1_idx (n : Nat) (hn : 1 ≤ n) (s : ByteArray) (hs : s.size < 8796093022207) (bs n1 : Nat) (w : World) (hn1 : n1 ≤ w.heap.size) (hb : bs < w.heap.size) (hc : w.cell? ⟨bs, 0, none⟩ = some (.string s)) :
    SeqStopsK Fence.wide n Tryd.prog 37 #[.pointer (some ⟨bs, 0, none⟩)] (encI (splitB s 46)) (KpC n1) (fun ys => ys = List.range (splitB s 46).length) (fun pre => ∃ k, k ≤ (splitB s 46).length ∧ pre = List.range k) (splitB s 46).length w := fun l J Jx W hW hJ _ hY h0 => by
  have hc' := (hW.cell (p := ⟨bs, 0, none⟩) hb).trans hc
  have hsp := split_calls s 46 W hs
  have HSP := Lib.hid hsp
  have HJ := Lib.hid hJ
  have HW := Lib.hid hW
  have h1n : n1 ≤ W.heap.size := Nat.le_trans hn1 hW.size
  obtain ⟨zs, hzs⟩ : ∃ zs, zs = splitB s 46 := ⟨_, rfl⟩
  have hz0 : 0 < zs.length := by rw [hzs]; exact (splitB_length s 46).2
  have hz1 : zs.length ≤ 9223372036854775806 := by have := (splitB_length s 46).1; rw [← hzs] at this; omega
  rw [← hzs] at HSP hY
  rw [← hzs]
  clear hsp hc hb hW hJ hzs
  refine callsIn_of_wp Tryd.func37 rfl trivial ?_ rfl
  simp only [Tryd.ntmps37, List.size_toArray, List.length_cons, List.length_nil, Nat.reduceAdd, Nat.reduceSub, Array.replicate_succ, Array.replicate_zero, List.push_toArray, List.append_toArray, List.nil_append, List.cons_append]
  gi_wp2_with fail
  refine ⟨trivial, ?_⟩
  refine (callsIn_wide.2 HSP.out).mono ?_
  rintro e W2 ⟨v, rfl, hR, hB⟩
  have hS := (StrsIn.of_R hR hz0)
  obtain ⟨b, off, cap, cs, t, bd, rfl, hs2, hs3, hs4⟩ := hS
  have HS := Lib.hid (show StrsIn n1 W2 (.slice (some ⟨b, off, none⟩) zs.length cap) zs from ⟨b, off, cap, cs, t, bd, rfl, Nat.le_trans h1n hs2, hs3, hs4⟩)
  have HJ1 := Lib.hid (HJ.out _ _ _ none h0 ⟨hB.os, hB.tape, hB.output, hB.size, fun k hk _ => hB.block k hk⟩ (fun r e => by cases e))
  clear hR hB hs2 hs3 hs4 hc' h0 cs t bd
  gi_wp2_with fail
  gi_loopw [8] (fun i wr => ∃ k : Nat, k ≤ zs.length ∧ i = .int .i64 k ∧ Hid (J (List.range k) wr) ∧ Hid (StrsIn n1 wr (.slice (some ⟨b, off, none⟩) zs.length cap) zs))
    (fun i _ => zs.length - (intOf i).toNat)
  case atStart => exact ⟨0, Nat.zero_le _, rfl, HJ1.out, HS.out⟩
  case round =>
    clear HJ1 HS
    obtain ⟨k, hk, rfl, HJk, HSk⟩ := hrel
    by_cases hlt : k < zs.length
    · have hcx : wr.cell? ⟨b, off + k, none⟩ = some (.string (zs[k]?.getD ByteArray.empty)) := by
        have := HSk.out.cell k hlt
        rwa [List.getD_eq_getElem?_getD] at this
      obtain ⟨fn, tmps, assign, body, hy, hR⟩ := hY _ k wr HJk.out (by rw [List.length_range]; exact hlt)
      dsimp only [encI] at hy
      have hzk : zs[k]?.getD ByteArray.empty = zs[k] := by simp [hlt]
      rw [hzk] at hy hcx
      clear hzk
      have HR := Lib.hid hR
      clear hR
      gi_wp2
      refine HR.out.mono ?_
      rintro e W3 (⟨rfl, hJ3, hk3⟩ | ⟨rfl, hJx3⟩)
      · have HJ3 := Lib.hid hJ3
        have HS3 := Lib.hid (HSk.out.kept hk3)
        clear hJ3 hk3 hcx hy HR HJk HSk
        gi_wp2
        go_roundw
        case rel => exact ⟨k + 1, by omega, by simp, by rw [List.range_succ]; exact HJ3.out, HS3.out⟩
        case measure => simp [intOf]; omega
      · clear hcx hy HR
        gi_wp2
        refine bodyPost_ret (results_none rfl _ _ _) rfl ?_
        exact ⟨⟨_, rfl⟩, .inr ⟨_, ⟨k + 1, by omega, List.range_succ.symm⟩, hJx3⟩⟩
    · obtain rfl : k = zs.length := by omega
      gi_wp2
      go_end0
      exact ⟨⟨_, rfl⟩, .inl ⟨_, rfl, HJk.out⟩⟩
end Go.Proofs.YtbhlmdaogdhjdaaDoor.H
