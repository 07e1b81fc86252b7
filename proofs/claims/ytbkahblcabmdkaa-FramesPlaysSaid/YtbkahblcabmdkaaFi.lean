import Derived.Test.YtbkahblcabmdkaaFb
import Derived.Test.YtbkahblcabmdkaaIter
import Derived.Shelf.SlIterI.Nil
import Derived.Shelf.SortM.Plain
import Derived.Shelf.SortM.SortNone
/-! slices.Sorted(maps.Keys(m)) at a tree's map: its numbers, rising. -/
namespace Go.Proofs.Ytbkahblcabmdkaa.F
open Go.RowKit Go.Maps Go.Sort Go.Shelf Go.Proofs.YtbkahblcabmdkaaW.PrintWords
set_option linter.unusedVariables false

theorem sorts (m : Nat) : AnyZI.SortsIn Try.prog Try.sortedA_ren Fence.wide m :=
  ⟨fun blk off cap ss W hH hblk hsz => callsIn_wide.2 (AnyM.slices_Sort_int Try.sortA blk off cap ss W hH hblk hsz),
   fun p cap W => callsIn_wide.2 (AnyM.slices_Sort_int_none Try.sortA p cap W)⟩
theorem keys_calls (bm : Nat) (W : World) : Calls Try.prog 27 #[.map (some bm)] W fun e w' => e = .returned (.func (.func 38) #[] #[.pointer (some ⟨W.heap.size, 0, none⟩)]) ∧ w' = W.alloc (.cells #[.map (some bm)] 61) :=
  (callsIn_wide (n := 5)).1 (AnyZI.keys_in Try.keysA Fence.wide 5 trivial rfl (some bm) W)
theorem rise_ids {F : List Fr} (h : F.Pairwise (fun a b => a.f0 < b.f0)) {ss : List Int} (hp : ss.Perm (F.map (·.f0))) : ss.mergeSort (fun x y => decide (x ≤ y)) = F.map (·.f0) := by
  refine List.Perm.eq_of_pairwise (le := fun x y => decide (x ≤ y) = true) (fun a b _ _ h1 h2 => by simp only [decide_eq_true_eq] at h1 h2; omega) (List.pairwise_mergeSort (fun a b c h1 h2 => by simp only [decide_eq_true_eq] at h1 h2 ⊢; omega) (fun a b => by simp only [Bool.or_eq_true, decide_eq_true_eq]; omega) ss) ?_ ((List.mergeSort_perm _ _).trans hp)
  rw [List.pairwise_map]
  exact h.imp (fun {a b} hab => by simp only [decide_eq_true_eq]; omega)
set_option maxHeartbeats 1000000 in
theorem sorted_calls (g bm : Nat) (s : Tr) (w : World) (h : TreeIn w g bm s) :
    Calls Try.prog 26 #[.func (.func 38) #[] #[.pointer (some ⟨w.heap.size, 0, none⟩)]] (w.alloc (.cells #[.map (some bm)] 61)) fun e w' => ∃ A c, e = .returned (.slice A s.F.length c) ∧ ReadsInt w' .i64 A s.F.length (s.F.map (·.f0)) ∧ Below w.heap.size w w' := by
  obtain ⟨n, D, hown, hM⟩ := h.m
  have hsz := hM.size
  have hlen : (prs s.F).length = s.F.length := by simp [prs]
  have hroom := h.fine.room
  have hm1 := h.fine.m1
  have hbl := hown.lt
  have hseq : SeqGives Fence.wide 2 Try.prog 38 #[.pointer (some ⟨w.heap.size, 0, none⟩)] encZ (fun ss => ss.Perm (intKeys D)) (Maps.size D) (w.alloc (.cells #[.map (some bm)] 61)) :=
    AnyZI.keys_gives (ρ := Try.keysA_ren) { Try.keysA with } Fence.wide _ trivial rfl (by omega) w.heap.size bm n D _ (by simp) (by simp) (by
      obtain ⟨es, clock, hb, Ft, hs, hD⟩ := hown
      exact ⟨es, clock, (Below.heap_alloc _ _ bm hbl).trans hb, Ft, hs, hD⟩)
  have cS := AnyZI.sorted_in Try.sortedA Fence.wide 5 trivial trivial trivial trivial rfl (by omega) (sorts _) (enters_of Try.func37 (by kernel_rfl) rfl) 38 #[.pointer (some ⟨w.heap.size, 0, none⟩)] trivial (enters_of Try.func38 (by kernel_rfl) rfl) _ _ (by unfold maxLen; omega) (by omega) _ hseq
  change CallsIn _ _ Try.prog 26 _ _ _ at cS
  refine ((callsIn_wide (n := 5)).1 cS).mono ?_
  rintro e w' ⟨v, ss, rfl, hS, hrow, hnil, hb⟩
  have hss : ss.mergeSort (fun x y => decide (x ≤ y)) = s.F.map (·.f0) := rise_ids h.fine.rise (hS.trans (by
    have := hM.keys
    unfold prs at this
    rw [List.map_map] at this
    exact this))
  have hl : ss.length = s.F.length := by
    have := congrArg List.length hss
    rw [List.length_mergeSort, List.length_map] at this
    exact this
  rw [hss, hl] at hrow
  obtain ⟨A, c, rfl, hR⟩ := own_reads (k := .i64) (xs := s.F.map (·.f0)) hrow
  exact ⟨A, c, rfl, hR, (below_alloc (Below.refl _ w) _).trans (hb.mono (by simp))⟩
end Go.Proofs.Ytbkahblcabmdkaa.F
