import Derived.Test.YtbhlmdaogdhjdaaDoorHa
/-! octet.Lower and the reference's. -/
namespace Go.Proofs.YtbhlmdaogdhjdaaDoor.H
open Go.RowKit Go.Proofs.YtbhlmdaogdhjdaaDoorW.PrintWords Go.Proofs.YtbhlmdaogdhjdaaDoorW.PrintLast Go.Proofs.YtbhlmdaogdhjdaaDoorW.PrintMore
attribute [local go_sem] max2_int min2_int max_two min_two
set_option linter.unusedVariables false
set_option linter.unusedSimpArgs false
def lowI (c : Int) : Int := if 65 ≤ c ∧ c ≤ 90 then c + 32 else c
def lowerB (s : ByteArray) : ByteArray := strOfNums ((bytesOf s).map lowI)
/-- Block B is the row of a conversion of s, of which the first k bytes are small by now. -/
def LowRow (w : World) (B e : Nat) (s : ByteArray) (k : Nat) : Prop :=
  ∃ cells m, w.heap[B]? = some (.cells cells e (m, m + 1)) ∧ s.size ≤ m ∧ ∀ j, j < s.size → cells[j]? = some (.int .u8 (if j < k then lowI (bt s j) else bt s j))
theorem LowRow.start (w : World) (e : Nat) (s : ByteArray) : LowRow (Lib.bytesWorld w e s) w.heap.size e s 0 := by
  have hsz : s.size ≤ (Lib.bytesCells w e s).size := by simp only [Lib.bytesCells, Array.size_append, Array.size_map]; exact Nat.le_add_right _ _
  refine ⟨_, _, Lib.bytesWorld_at_new w e s, hsz, fun j hj => ?_⟩
  have h1 := Lib.bytesWorld_cell w e s j hj
  rw [cell_of_row _ _ _ _ _ _ (Lib.bytesWorld_at_new w e s)] at h1
  rw [h1, if_neg (by omega)]
  have h' : j < s.data.toList.length := by rw [data_length]; exact hj
  rw [← rd_bytesOf]
  simp [rd, bytesOf, List.getD_eq_getElem?_getD, List.getElem?_eq_getElem h']
theorem LowRow.cell {w : World} {B e : Nat} {s : ByteArray} {k : Nat} (h : LowRow w B e s k) (j : Nat) (hj : j < s.size) : w.cell? ⟨B, j, none⟩ = some (.int .u8 (if j < k then lowI (bt s j) else bt s j)) := by
  obtain ⟨cells, m, hb, _, hc⟩ := h
  rw [cell_of_row _ _ _ _ _ _ hb]; exact hc j hj
theorem LowRow.free {w : World} {B e : Nat} {s : ByteArray} {k : Nat} (h : LowRow w B e s k) (j : Nat) (hj : j < s.size) : w.frozen? ⟨B, j, none⟩ = false := by
  obtain ⟨cells, m, hb, hm, _⟩ := h
  simp [World.frozen?, hb]; omega
theorem LowRow.skip {w : World} {B e : Nat} {s : ByteArray} {k : Nat} (h : LowRow w B e s k) (hl : lowI (bt s k) = bt s k) : LowRow w B e s (k + 1) := by
  obtain ⟨cells, m, hb, hm, hc⟩ := h
  refine ⟨cells, m, hb, hm, fun j hj => ?_⟩
  rw [hc j hj]
  by_cases e : j = k
  · subst e; rw [if_neg (by omega), if_pos (by omega), hl]
  · by_cases h1 : j < k
    · rw [if_pos h1, if_pos (by omega)]
    · rw [if_neg h1, if_neg (by omega)]
theorem LowRow.put {w : World} {B e : Nat} {s : ByteArray} {k : Nat} (h : LowRow w B e s k) (hk : k < s.size) (x : Int) (hl : lowI (bt s k) = x) : LowRow (w.setCell ⟨B, k, none⟩ (.int .u8 x)) B e s (k + 1) := by
  obtain ⟨cells, m, hb, hm, hc⟩ := h
  refine ⟨cells.setIfInBounds k (.int .u8 x), m, ?_, hm, fun j hj => ?_⟩
  · simp only [World.setCell, Array.getElem?_modify, if_pos rfl, hb]; rfl
  · have hk2 : k < cells.size := by
      have := hc k hk
      exact (Array.getElem?_eq_some_iff.1 this).1
    by_cases e : j = k
    · subst e; rw [Array.getElem?_setIfInBounds_self_of_lt hk2, if_pos (by omega), hl]
    · rw [Array.getElem?_setIfInBounds_ne (by omega), hc j hj]
      by_cases h1 : j < k
      · rw [if_pos h1, if_pos (by omega)]
      · rw [if_neg h1, if_neg (by omega)]
theorem LowRow.string {P : Program} {w : World} {B e : Nat} {s : ByteArray} {k : Nat} (h : LowRow w B e s k) (hk : s.size ≤ k) (src dst cap : Nat) (hs : P.underlying src = some (.slice e)) (he : P.underlying e = some (.int .u8)) (hd : P.underlying dst = some .string) :
    (convert src dst (.slice (some ⟨B, 0, none⟩) s.size cap)).run P w = .ok (.string (lowerB s)) w := by
  refine run_convert_bytes_arg w src e hs he B 0 s.size cap _ (by rw [List.length_map, bytesOf_length]) (fun i hi => ?_) dst hd
  rw [Nat.zero_add, h.cell i hi, if_pos (by omega), ← rd_bytesOf]
  have h' : i < (bytesOf s).length := by rw [bytesOf_length]; exact hi
  simp [rd, List.getD_eq_getElem?_getD, List.getElem?_eq_getElem h']
theorem low_or (c : Int) (h0 : 0 ≤ c) (h1 : c ≤ 255) (h : 65 ≤ c ∧ c ≤ 90) : Go.bits .or .u8 c 32 = lowI c := by
  have : ∀ n : Fin 256, 65 ≤ n.val ∧ n.val ≤ 90 → Go.bits .or .u8 (n.val : Int) 32 = lowI n.val := by decide +kernel
  have h2 := this ⟨c.toNat, by omega⟩ (by simp only; omega)
  simpa [Int.toNat_of_nonneg h0] using h2
set_option maxHeartbeats 1000000 in
theorem lower_calls (s : ByteArray) (w : World) (hs : s.size ≤ 9223372036854775807) :
    Calls Tryd.prog 18 #[.string s] w fun e w' => e = .returned (.string (lowerB s)) ∧ Below w.heap.size w w' := by
  have kb := fun W => print_bytes (P := Tryd.prog) 9 52 5 Tryd.underlying9 Tryd.underlying52 Tryd.underlying5 s W
  have R0 := LowRow.start w 5 s
  have B0 := bytes_below (Below.refl w.heap.size w) (Nat.le_refl _) 5 s
  go_enter Tryd.func18, Tryd.ntmps18
  go_wp2
  go_loopw [10] (fun i wr => ∃ k : Nat, k ≤ s.size ∧ i = .int .i64 k ∧ LowRow wr w.heap.size 5 s k ∧ Below w.heap.size w wr) (fun i _ => s.size - (intOf i).toNat)
  case atStart => exact ⟨0, Nat.zero_le _, rfl, R0, B0⟩
  case round =>
    clear kb R0 B0
    obtain ⟨k, hk, rfl, hR, hB⟩ := hrel
    by_cases hlt : k < s.size
    · have hc := hR.cell k hlt
      rw [if_neg (Nat.lt_irrefl k)] at hc
      have hf := hR.free k hlt
      obtain ⟨hb0, hb1⟩ := bt_range s k
      have hlow : 65 ≤ bt s k ∧ bt s k ≤ 90 → Go.bits .or .u8 (bt s k) 32 = lowI (bt s k) := low_or _ hb0 hb1
      obtain ⟨c, hcc⟩ : ∃ c, c = bt s k := ⟨_, rfl⟩
      rw [← hcc] at hc hb0 hb1 hlow
      have HR := Lib.hid hR
      have HC := Lib.hid hcc
      have HL := Lib.hid hlow
      clear hR hcc hlow
      by_cases h65 : 65 ≤ c
      · by_cases h90 : c ≤ 90
        · have hx := HL.out ⟨h65, h90⟩
          have HX := Lib.hid hx
          clear hx
          go_wp2
          go_roundw
          case rel => exact ⟨k + 1, by omega, by go_num, HR.out.put hlt _ (by rw [← HC.out]; exact HX.out.symm), hB.setCell (Nat.le_refl _) _⟩
          case measure => simp [intOf]; omega
        · go_wp2
          go_roundw
          case rel => exact ⟨k + 1, by omega, by go_num, HR.out.skip (by rw [← HC.out]; unfold lowI; rw [if_neg (by omega)]), hB⟩
          case measure => simp [intOf]; omega
      · go_wp2
        go_roundw
        case rel => exact ⟨k + 1, by omega, by go_num, HR.out.skip (by rw [← HC.out]; unfold lowI; rw [if_neg (by omega)]), hB⟩
        case measure => simp [intOf]; omega
    · have hk2 : s.size ≤ k := by omega
      have kc := fun cp => hR.string (P := Tryd.prog) hk2 52 9 cp Tryd.underlying52 Tryd.underlying5 Tryd.underlying9
      have HR := Lib.hid hR
      clear hR
      go_wp2
      go_ret
      exact ⟨rfl, hB⟩
set_option maxHeartbeats 1000000 in
theorem ref_lower_calls (s : ByteArray) (w : World) (hs : s.size ≤ 9223372036854775807) :
    Calls Tryd.prog 25 #[.string s] w fun e w' => e = .returned (.string (lowerB s)) ∧ Below w.heap.size w w' := by
  have kb := fun W => print_bytes (P := Tryd.prog) 9 52 5 Tryd.underlying9 Tryd.underlying52 Tryd.underlying5 s W
  have R0 := LowRow.start w 5 s
  have B0 := bytes_below (Below.refl w.heap.size w) (Nat.le_refl _) 5 s
  go_enter Tryd.func25, Tryd.ntmps25
  go_wp2
  go_loopw [4] (fun i wr => ∃ k : Nat, k ≤ s.size ∧ i = .int .i64 k ∧ LowRow wr w.heap.size 5 s k ∧ Below w.heap.size w wr) (fun i _ => s.size - (intOf i).toNat)
  case atStart => exact ⟨0, Nat.zero_le _, rfl, R0, B0⟩
  case round =>
    clear kb R0 B0
    obtain ⟨k, hk, rfl, hR, hB⟩ := hrel
    by_cases hlt : k < s.size
    · have hc := hR.cell k hlt
      rw [if_neg (Nat.lt_irrefl k)] at hc
      have hf := hR.free k hlt
      obtain ⟨hb0, hb1⟩ := bt_range s k
      have hlow : 65 ≤ bt s k ∧ bt s k ≤ 90 → (bt s k + 32) = lowI (bt s k) := fun h => by unfold lowI; rw [if_pos h]
      obtain ⟨c, hcc⟩ : ∃ c, c = bt s k := ⟨_, rfl⟩
      rw [← hcc] at hc hb0 hb1 hlow
      have HR := Lib.hid hR
      have HC := Lib.hid hcc
      have HL := Lib.hid hlow
      clear hR hcc hlow
      by_cases h65 : 65 ≤ c
      · by_cases h90 : c ≤ 90
        · have hx := HL.out ⟨h65, h90⟩
          have HX := Lib.hid hx
          clear hx
          go_wp2
          go_roundw
          case rel => exact ⟨k + 1, by omega, by go_num, HR.out.put hlt _ (by rw [← HC.out]; exact HX.out.symm), hB.setCell (Nat.le_refl _) _⟩
          case measure => simp [intOf]; omega
        · go_wp2
          go_roundw
          case rel => exact ⟨k + 1, by omega, by go_num, HR.out.skip (by rw [← HC.out]; unfold lowI; rw [if_neg (by omega)]), hB⟩
          case measure => simp [intOf]; omega
      · go_wp2
        go_roundw
        case rel => exact ⟨k + 1, by omega, by go_num, HR.out.skip (by rw [← HC.out]; unfold lowI; rw [if_neg (by omega)]), hB⟩
        case measure => simp [intOf]; omega
    · have hk2 : s.size ≤ k := by omega
      have kc := fun cp => hR.string (P := Tryd.prog) hk2 52 9 cp Tryd.underlying52 Tryd.underlying5 Tryd.underlying9
      have HR := Lib.hid hR
      clear hR
      go_wp2
      go_ret
      exact ⟨rfl, hB⟩
end Go.Proofs.YtbhlmdaogdhjdaaDoor.H
