-- Written by a program of this session for this claim (the kit's printer, with contracts of this session's own); Lean checks it.
import Derived.Test.YtdccplnfnjpfpaaX0
namespace Go.Proofs.Ytdccplnfnjpfpaa.X
open Go.RowKit Go.Proofs.YtdccplnfnjpfpaaW.PrintWords Go.Proofs.YtdccplnfnjpfpaaW.PrintLast Go.Proofs.YtdccplnfnjpfpaaW.PrintMore
attribute [local go_sem] max2_int min2_int max_two min_two max_three min_three max_four min_four   -- for this text's walks alone
set_option linter.unusedVariables false
set_option linter.unusedSimpArgs false

/-! ### common -/
def lowI (c : Int) : Int := if 65 ≤ c ∧ c ≤ 90 then c + 32 else c
def lowerB (s : ByteArray) : ByteArray := strOfNums ((bytesOf s).map lowI)
/-- Block B is the row of a conversion of s, of which the first k bytes are small by now. -/
def LowRow (w : World) (B e : Nat) (s : ByteArray) (k : Nat) : Prop :=
  ∃ cells m, w.heap[B]? = some (.cells cells e (m, m + 1)) ∧ s.size ≤ m ∧ ∀ j, j < s.size → cells[j]? = some (.int .u8 (if j < k then lowI (bt s j) else bt s j))
theorem LowRow.start (w : World) (e : Nat) (s : ByteArray) : LowRow (Lib.bytesWorld w e s) w.heap.size e s 0 := by
  have hsz : s.size ≤ (Lib.bytesCells w e s).size := by simp only [Lib.bytesCells, Array.size_append, Array.size_map]; exact Nat.le_add_right _ _
  refine ⟨_, _, Lib.bytesWorld_at_new w e s, hsz, fun j hj => ?_⟩
  have h1 := Lib.bytesWorld_cell w e s j hj
  rw [cell_of_row _ _ _ _ _ _ (Lib.bytesWorld_at_new w e s)] at h1
  rw [h1, if_neg (by omega)]
  have h' : j < s.data.toList.length := by rw [data_length]; exact hj
  rw [← rd_bytesOf]
  simp [rd, bytesOf, List.getD_eq_getElem?_getD, List.getElem?_eq_getElem h']
theorem LowRow.cell {w : World} {B e : Nat} {s : ByteArray} {k : Nat} (h : LowRow w B e s k) (j : Nat) (hj : j < s.size) : w.cell? ⟨B, j, none⟩ = some (.int .u8 (if j < k then lowI (bt s j) else bt s j)) := by
  obtain ⟨cells, m, hb, _, hc⟩ := h
  rw [cell_of_row _ _ _ _ _ _ hb]; exact hc j hj
theorem LowRow.free {w : World} {B e : Nat} {s : ByteArray} {k : Nat} (h : LowRow w B e s k) (j : Nat) (hj : j < s.size) : w.frozen? ⟨B, j, none⟩ = false := by
  obtain ⟨cells, m, hb, hm, _⟩ := h
  simp [World.frozen?, hb]; omega
theorem LowRow.skip {w : World} {B e : Nat} {s : ByteArray} {k : Nat} (h : LowRow w B e s k) (hl : lowI (bt s k) = bt s k) : LowRow w B e s (k + 1) := by
  obtain ⟨cells, m, hb, hm, hc⟩ := h
  refine ⟨cells, m, hb, hm, fun j hj => ?_⟩
  rw [hc j hj]
  by_cases e : j = k
  · subst e; rw [if_neg (by omega), if_pos (by omega), hl]
  · by_cases h1 : j < k
    · rw [if_pos h1, if_pos (by omega)]
    · rw [if_neg h1, if_neg (by omega)]
theorem LowRow.put {w : World} {B e : Nat} {s : ByteArray} {k : Nat} (h : LowRow w B e s k) (hk : k < s.size) (x : Int) (hl : lowI (bt s k) = x) : LowRow (w.setCell ⟨B, k, none⟩ (.int .u8 x)) B e s (k + 1) := by
  obtain ⟨cells, m, hb, hm, hc⟩ := h
  refine ⟨cells.setIfInBounds k (.int .u8 x), m, ?_, hm, fun j hj => ?_⟩
  · simp only [World.setCell, Array.getElem?_modify, if_pos rfl, hb]; rfl
  · have hk2 : k < cells.size := by
      have := hc k hk
      exact (Array.getElem?_eq_some_iff.1 this).1
    by_cases e : j = k
    · subst e; rw [Array.getElem?_setIfInBounds_self_of_lt hk2, if_pos (by omega), hl]
    · rw [Array.getElem?_setIfInBounds_ne (by omega), hc j hj]
      by_cases h1 : j < k
      · rw [if_pos h1, if_pos (by omega)]
      · rw [if_neg h1, if_neg (by omega)]
theorem LowRow.string {P : Program} {w : World} {B e : Nat} {s : ByteArray} {k : Nat} (h : LowRow w B e s k) (hk : s.size ≤ k) (src dst cap : Nat) (hs : P.underlying src = some (.slice e)) (he : P.underlying e = some (.int .u8)) (hd : P.underlying dst = some .string) :
    (convert src dst (.slice (some ⟨B, 0, none⟩) s.size cap)).run P w = .ok (.string (lowerB s)) w := by
  refine run_convert_bytes_arg w src e hs he B 0 s.size cap _ (by rw [List.length_map, bytesOf_length]) (fun i hi => ?_) dst hd
  rw [Nat.zero_add, h.cell i hi, if_pos (by omega), ← rd_bytesOf]
  have h' : i < (bytesOf s).length := by rw [bytesOf_length]; exact hi
  simp [rd, List.getD_eq_getElem?_getD, List.getElem?_eq_getElem h']
theorem low_or (c : Int) (h0 : 0 ≤ c) (h1 : c ≤ 255) (h : 65 ≤ c ∧ c ≤ 90) : Go.bits .or .u8 c 32 = lowI c := by
  have : ∀ n : Fin 256, 65 ≤ n.val ∧ n.val ≤ 90 → Go.bits .or .u8 (n.val : Int) 32 = lowI n.val := by decide +kernel
  have h2 := this ⟨c.toNat, by omega⟩ (by simp only; omega)
  simpa [Int.toNat_of_nonneg h0] using h2

/-! ### octet_Lower: function 26 -/
def octet_Lower.f (a0 : ByteArray) : Option ByteArray := if a0.size ≤ 9223372036854775807 then some (lowerB a0) else none
set_option maxHeartbeats 1000000 in
theorem octet_Lower.total (s : ByteArray) (w : World) (hs : s.size ≤ 9223372036854775807) :
    Calls Try.prog 26 #[.string s] w fun e w' => e = .returned (.string (lowerB s)) ∧ Below w.heap.size w w' := by
  have kb := fun W => print_bytes (P := Try.prog) 9 43 5 Try.underlying9 Try.underlying43 Try.underlying5 s W
  have R0 := LowRow.start w 5 s
  have B0 := bytes_below (Below.refl w.heap.size w) (Nat.le_refl _) 5 s
  go_enter Try.func26, Try.ntmps26
  go_wp2
  go_loopw [10] (fun i wr => ∃ k : Nat, k ≤ s.size ∧ i = .int .i64 k ∧ LowRow wr w.heap.size 5 s k ∧ Below w.heap.size w wr) (fun i _ => s.size - (intOf i).toNat)
  case atStart => exact ⟨0, Nat.zero_le _, rfl, R0, B0⟩
  case round =>
    clear kb R0 B0
    obtain ⟨k, hk, rfl, hR, hB⟩ := hrel
    by_cases hlt : k < s.size
    · have hc := hR.cell k hlt
      rw [if_neg (Nat.lt_irrefl k)] at hc
      have hf := hR.free k hlt
      obtain ⟨hb0, hb1⟩ := bt_range s k
      have hlow : 65 ≤ bt s k ∧ bt s k ≤ 90 → Go.bits .or .u8 (bt s k) 32 = lowI (bt s k) := low_or _ hb0 hb1
      obtain ⟨c, hcc⟩ : ∃ c, c = bt s k := ⟨_, rfl⟩
      rw [← hcc] at hc hb0 hb1 hlow
      have HR := Lib.hid hR
      have HC := Lib.hid hcc
      have HL := Lib.hid hlow
      clear hR hcc hlow
      by_cases h65 : 65 ≤ c
      · by_cases h90 : c ≤ 90
        · have hx := HL.out ⟨h65, h90⟩
          have HX := Lib.hid hx
          clear hx
          go_wp2
          go_roundw
          case rel => exact ⟨k + 1, by omega, by go_num, HR.out.put hlt _ (by rw [← HC.out]; exact HX.out.symm), hB.setCell (Nat.le_refl _) _⟩
          case measure => simp [intOf]; omega
        · go_wp2
          go_roundw
          case rel => exact ⟨k + 1, by omega, by go_num, HR.out.skip (by rw [← HC.out]; unfold lowI; rw [if_neg (by omega)]), hB⟩
          case measure => simp [intOf]; omega
      · go_wp2
        go_roundw
        case rel => exact ⟨k + 1, by omega, by go_num, HR.out.skip (by rw [← HC.out]; unfold lowI; rw [if_neg (by omega)]), hB⟩
        case measure => simp [intOf]; omega
    · have hk2 : s.size ≤ k := by omega
      have kc := fun cp => hR.string (P := Try.prog) hk2 43 9 cp Try.underlying43 Try.underlying5 Try.underlying9
      have HR := Lib.hid hR
      clear hR
      go_wp2
      go_ret
      exact ⟨rfl, hB⟩
theorem octet_Lower.calls (a0 : ByteArray) (r : ByteArray) (w : World) (h : octet_Lower.f a0 = some r) :
    Calls Try.prog 26 #[.string a0] w fun e w' => e = .returned (.string r) ∧ Below w.heap.size w w' := by
  unfold octet_Lower.f at h
  by_cases hs : a0.size ≤ 9223372036854775807
  · rw [if_pos hs] at h
    obtain rfl := Option.some.inj h
    exact octet_Lower.total a0 w hs
  · rw [if_neg hs] at h
    exact absurd h (by simp)

/-! ### sandbox_names: function 21 -/
def sandbox_names.f  : Option (List ByteArray) := some (([(⟨#[97, 108, 108, 111, 119, 45, 115, 99, 114, 105, 112, 116, 115]⟩ : ByteArray), (⟨#[97, 108, 108, 111, 119, 45, 115, 97, 109, 101, 45, 111, 114, 105, 103, 105, 110]⟩ : ByteArray), (⟨#[97, 108, 108, 111, 119, 45, 102, 111, 114, 109, 115]⟩ : ByteArray), (⟨#[97, 108, 108, 111, 119, 45, 112, 111, 112, 117, 112, 115]⟩ : ByteArray), (⟨#[97, 108, 108, 111, 119, 45, 112, 111, 112, 117, 112, 115, 45, 116, 111, 45, 101, 115, 99, 97, 112, 101, 45, 115, 97, 110, 100, 98, 111, 120]⟩ : ByteArray), (⟨#[97, 108, 108, 111, 119, 45, 116, 111, 112, 45, 110, 97, 118, 105, 103, 97, 116, 105, 111, 110]⟩ : ByteArray)] : List ByteArray))
set_option maxHeartbeats 8000000 in
set_option maxRecDepth 100000 in
theorem sandbox_names.calls  (r : List ByteArray) (w : World) (h : sandbox_names.f  = some r) :
    Calls Try.prog 21 #[] w fun e w' => ∃ v0_ : Value, e = .returned (v0_) ∧ Kd.R Kd.string 9 w' w.heap.size (fun _ => True) v0_ r ∧ Below w.heap.size w w' := by
  have HB := Aside0.mk (Below.refl w.heap.size w)
  have H : (some (([(⟨#[97, 108, 108, 111, 119, 45, 115, 99, 114, 105, 112, 116, 115]⟩ : ByteArray), (⟨#[97, 108, 108, 111, 119, 45, 115, 97, 109, 101, 45, 111, 114, 105, 103, 105, 110]⟩ : ByteArray), (⟨#[97, 108, 108, 111, 119, 45, 102, 111, 114, 109, 115]⟩ : ByteArray), (⟨#[97, 108, 108, 111, 119, 45, 112, 111, 112, 117, 112, 115]⟩ : ByteArray), (⟨#[97, 108, 108, 111, 119, 45, 112, 111, 112, 117, 112, 115, 45, 116, 111, 45, 101, 115, 99, 97, 112, 101, 45, 115, 97, 110, 100, 98, 111, 120]⟩ : ByteArray), (⟨#[97, 108, 108, 111, 119, 45, 116, 111, 112, 45, 110, 97, 118, 105, 103, 97, 116, 105, 111, 110]⟩ : ByteArray)] : List ByteArray))) = some r := h
  clear h
  obtain ⟨y101, hy101⟩ : ∃ y_ : List ByteArray, y_ = (([(⟨#[97, 108, 108, 111, 119, 45, 115, 99, 114, 105, 112, 116, 115]⟩ : ByteArray), (⟨#[97, 108, 108, 111, 119, 45, 115, 97, 109, 101, 45, 111, 114, 105, 103, 105, 110]⟩ : ByteArray), (⟨#[97, 108, 108, 111, 119, 45, 102, 111, 114, 109, 115]⟩ : ByteArray), (⟨#[97, 108, 108, 111, 119, 45, 112, 111, 112, 117, 112, 115]⟩ : ByteArray), (⟨#[97, 108, 108, 111, 119, 45, 112, 111, 112, 117, 112, 115, 45, 116, 111, 45, 101, 115, 99, 97, 112, 101, 45, 115, 97, 110, 100, 98, 111, 120]⟩ : ByteArray), (⟨#[97, 108, 108, 111, 119, 45, 116, 111, 112, 45, 110, 97, 118, 105, 103, 97, 116, 105, 111, 110]⟩ : ByteArray)] : List ByteArray)) := ⟨_, rfl⟩
  replace H : (some y101) = some r := by first | (rw [hy101]; with_reducible exact H) | (have H2_ := (Option.bind_some _ _).symm.trans H; rw [hy101]; with_reducible exact H2_) | (have H2_ := (Option.bind_some _ _).symm.trans H; with_reducible exact H2_) | with_reducible exact H | (rw [hy101]; exact H) | exact H
  have Ny101 := Aside0.mk hy101
  clear hy101
  obtain rfl := Option.some.inj H
  go_enter Try.func21, Try.ntmps21
  go_wp2_with (first | ((with_reducible refine gate_dst (N := 1) rfl ?_); refine Kd.R_lit Kd.string _ 9 ?hg (N := 1) ?hd (xs := ([(⟨#[97, 108, 108, 111, 119, 45, 115, 99, 114, 105, 112, 116, 115]⟩ : ByteArray), (⟨#[97, 108, 108, 111, 119, 45, 115, 97, 109, 101, 45, 111, 114, 105, 103, 105, 110]⟩ : ByteArray), (⟨#[97, 108, 108, 111, 119, 45, 102, 111, 114, 109, 115]⟩ : ByteArray), (⟨#[97, 108, 108, 111, 119, 45, 112, 111, 112, 117, 112, 115]⟩ : ByteArray), (⟨#[97, 108, 108, 111, 119, 45, 112, 111, 112, 117, 112, 115, 45, 116, 111, 45, 101, 115, 99, 97, 112, 101, 45, 115, 97, 110, 100, 98, 111, 120]⟩ : ByteArray), (⟨#[97, 108, 108, 111, 119, 45, 116, 111, 112, 45, 110, 97, 118, 105, 103, 97, 116, 105, 111, 110]⟩ : ByteArray)] : List ByteArray)) (inner := [.string (⟨#[97, 108, 108, 111, 119, 45, 115, 99, 114, 105, 112, 116, 115]⟩ : ByteArray), .string (⟨#[97, 108, 108, 111, 119, 45, 115, 97, 109, 101, 45, 111, 114, 105, 103, 105, 110]⟩ : ByteArray), .string (⟨#[97, 108, 108, 111, 119, 45, 102, 111, 114, 109, 115]⟩ : ByteArray), .string (⟨#[97, 108, 108, 111, 119, 45, 112, 111, 112, 117, 112, 115]⟩ : ByteArray), .string (⟨#[97, 108, 108, 111, 119, 45, 112, 111, 112, 117, 112, 115, 45, 116, 111, 45, 101, 115, 99, 97, 112, 101, 45, 115, 97, 110, 100, 98, 111, 120]⟩ : ByteArray), .string (⟨#[97, 108, 108, 111, 119, 45, 116, 111, 112, 45, 110, 97, 118, 105, 103, 97, 116, 105, 111, 110]⟩ : ByteArray)]) (ok := fun _ => True) (okp := fun _ => True) ?hr ?hp (fun _ hk => hk) trivial (Below.refl _ _) (Nat.le_refl _) (by simp) ?_; (case hd => rfl); (case hg => rfl); (case hr => first | (go_simp; done) | (go_simp; rfl)); (case hp => exact (Reps.one (show Kd.M Kd.string _ _ _ (⟨#[97, 108, 108, 111, 119, 45, 115, 99, 114, 105, 112, 116, 115]⟩ : ByteArray) [.string (⟨#[97, 108, 108, 111, 119, 45, 115, 99, 114, 105, 112, 116, 115]⟩ : ByteArray)] from rfl) (Reps.one (show Kd.M Kd.string _ _ _ (⟨#[97, 108, 108, 111, 119, 45, 115, 97, 109, 101, 45, 111, 114, 105, 103, 105, 110]⟩ : ByteArray) [.string (⟨#[97, 108, 108, 111, 119, 45, 115, 97, 109, 101, 45, 111, 114, 105, 103, 105, 110]⟩ : ByteArray)] from rfl) (Reps.one (show Kd.M Kd.string _ _ _ (⟨#[97, 108, 108, 111, 119, 45, 102, 111, 114, 109, 115]⟩ : ByteArray) [.string (⟨#[97, 108, 108, 111, 119, 45, 102, 111, 114, 109, 115]⟩ : ByteArray)] from rfl) (Reps.one (show Kd.M Kd.string _ _ _ (⟨#[97, 108, 108, 111, 119, 45, 112, 111, 112, 117, 112, 115]⟩ : ByteArray) [.string (⟨#[97, 108, 108, 111, 119, 45, 112, 111, 112, 117, 112, 115]⟩ : ByteArray)] from rfl) (Reps.one (show Kd.M Kd.string _ _ _ (⟨#[97, 108, 108, 111, 119, 45, 112, 111, 112, 117, 112, 115, 45, 116, 111, 45, 101, 115, 99, 97, 112, 101, 45, 115, 97, 110, 100, 98, 111, 120]⟩ : ByteArray) [.string (⟨#[97, 108, 108, 111, 119, 45, 112, 111, 112, 117, 112, 115, 45, 116, 111, 45, 101, 115, 99, 97, 112, 101, 45, 115, 97, 110, 100, 98, 111, 120]⟩ : ByteArray)] from rfl) (Reps.one (show Kd.M Kd.string _ _ _ (⟨#[97, 108, 108, 111, 119, 45, 116, 111, 112, 45, 110, 97, 118, 105, 103, 97, 116, 105, 111, 110]⟩ : ByteArray) [.string (⟨#[97, 108, 108, 111, 119, 45, 116, 111, 112, 45, 110, 97, 118, 105, 103, 97, 116, 105, 111, 110]⟩ : ByteArray)] from rfl) (Reps.none _ _)))))))); intro v102 w1 ho2 hb hg_ hnew_; clear hg_ hnew_; (first | rw [← Ny101.out] at ho2 | (simp only [Int.reduceToNat] at ho2; rw [← Ny101.out] at ho2)); have n0_ := Aside0.mk (Kd.R_lower ho2 (below_size (by repeat (first | (with_reducible first | exact HB.out | apply below_alloc | apply pw_below_drewN | apply below_drew1) | exact HB.out)))); have n1_ := Aside0.mk (below_step (by repeat (first | (with_reducible first | exact HB.out | apply below_alloc | apply pw_below_drewN | apply below_drew1) | exact HB.out)) hb); clear HB; have HO103 := n0_; have HB := n1_; clear n0_ n1_; clear hb ho2))
  go_ret
  exact ⟨_, by first | rfl | (simp [errW_none, errW_some] <;> rfl) | (simp [*, errW_none, errW_some] <;> rfl), by (with_reducible repeat (first | apply Kd.R_alloc | apply Kd.R_drewN | apply Kd.R_drew)); exact HO103.out, by repeat (first | (with_reducible first | exact HB.out | apply below_alloc | apply pw_below_drewN | apply below_drew1) | exact HB.out)⟩

/-! ### sandbox_Words: function 12 -/
def sandbox_Words.l0 : Nat → Int → List ByteArray → List ByteArray → Int → Int → Option (List ByteArray)
  | 0, _, _, _, _, _ => none
  | k + 1, x0, x2, x5, x6, x7 => if x7 < x6 then (if 0 ≤ x7 then (if x7 < (x5.length : Int) then (if (Go.bits .and .i64 x0 (shl .i64 1 x7)) = 0 then (if x2.length < 8796093022208 then (sandbox_Words.l0 k x0 (x2 ++ [rdOf ByteArray.empty x5 x7]) x5 x6 (wrap64 (x7 + 1))) else (none)) else (sandbox_Words.l0 k x0 x2 x5 x6 (wrap64 (x7 + 1)))) else (none)) else (none)) else (some x2)
def sandbox_Words.f (k : Nat) (a0 : Int) : Option (List ByteArray) := (sandbox_names.f).bind fun t104 => (sandbox_Words.l0 k a0 ([] : List ByteArray) t104 (t104.length : Int) 0)
theorem sandbox_Words.mono_l : ∀ k, (∀ y0 y1 y2 y3 y4, LeO (sandbox_Words.l0 k y0 y1 y2 y3 y4) (sandbox_Words.l0 (k + 1) y0 y1 y2 y3 y4))
  | 0 => fun _ _ _ _ _ r h => by simp [sandbox_Words.l0] at h
  | k + 1 => by
    have ih0 := sandbox_Words.mono_l k
    · intro y0 y1 y2 y3 y4
      unfold sandbox_Words.l0
      repeat' first
      | (with_reducible exact ih0 _ _ _ _ _)
      | (with_reducible exact LeO.refl _)
      | (with_reducible exact LeO.none _)
      | (with_reducible refine LeO.ite ?_ ?_)
      | (with_reducible refine LeO.bind ?_ (fun _ => ?_))
      | exact ih0 _ _ _ _ _
      | exact LeO.none _
      | refine LeO.ite ?_ ?_
      | refine LeO.bind ?_ (fun _ => ?_)
theorem sandbox_Words.mono : ∀ a0 k, LeO (sandbox_Words.f k a0) (sandbox_Words.f (k + 1) a0) := by
  intro a0 k
  have ih0 := sandbox_Words.mono_l k
  unfold sandbox_Words.f
  repeat' first
      | (with_reducible exact ih0 _ _ _ _ _)
      | (with_reducible exact LeO.refl _)
      | (with_reducible exact LeO.none _)
      | (with_reducible refine LeO.ite ?_ ?_)
      | (with_reducible refine LeO.bind ?_ (fun _ => ?_))
      | exact ih0 _ _ _ _ _
      | exact LeO.none _
      | refine LeO.ite ?_ ?_
      | refine LeO.bind ?_ (fun _ => ?_)
set_option maxHeartbeats 8000000 in
set_option maxRecDepth 100000 in
theorem sandbox_Words.calls (k : Nat) (a0 : Int) (r : List ByteArray) (w : World) (h : sandbox_Words.f k a0 = some r) :
    Calls Try.prog 12 #[.int .i64 a0] w fun e w' => ∃ v0_ : Value, e = .returned (v0_) ∧ Kd.R Kd.string 9 w' w.heap.size (fun _ => True) v0_ r ∧ Below w.heap.size w w' := by
  have HB := Aside0.mk (Below.refl w.heap.size w)
  have H : ((sandbox_names.f).bind fun t104 => (sandbox_Words.l0 k a0 ([] : List ByteArray) t104 (t104.length : Int) 0)) = some r := h
  clear h
  replace H := Option.bind_eq_some_iff.mp H
  obtain ⟨t104, A20, H⟩ := H
  replace H : (sandbox_Words.l0 k a0 ([] : List ByteArray) t104 (t104.length : Int) 0) = some r := H
  have A2 := Aside0.mk A20
  clear A20
  have H' := Aside0.mk H
  clear H
  go_enter Try.func12, Try.ntmps12
  go_wp2_with (first | ((with_reducible refine gate_callee (f := 21) rfl ?_); refine goesL_ (some 5) rfl rfl Try.func21 (by kernel_rfl) rfl #[] rfl (by (try simp only [List.map_toArray, List.map_cons, List.map_nil]); first | done | rfl | (simp only [List.length_drop, List.length_take]; rfl)) ?_; (with_reducible refine (sandbox_names.calls  t104 _ A2.out).mono ?_); rintro e w3 ⟨v105, rfl, ho0, hb⟩; refine ⟨_, rfl, ?_⟩; have n0_ := Aside0.mk (Kd.R_lower ho0 (below_size (by repeat (first | (with_reducible first | exact HB.out | apply below_alloc | apply pw_below_drewN | apply below_drew1) | exact HB.out)))); have n1_ := Aside0.mk (below_step (by repeat (first | (with_reducible first | exact HB.out | apply below_alloc | apply pw_below_drewN | apply below_drew1) | exact HB.out)) hb); clear HB; have HO106 := n0_; have HB := n1_; clear n0_ n1_; (try clear hb); (try clear hb2); (try clear hk); (try clear hi); (try clear ho0); obtain ⟨Ao4, co4, eo4⟩ := Kd.R_slice HO106.out; subst eo4))
  go_loopg [2, 7] k (fun kq v2 v7 w' => ∃ (x2_1 : List ByteArray) (x7_1 : Int), v7 = .int .i64 x7_1 ∧ Aside0 (sandbox_Words.l0 kq a0 x2_1 t104 (t104.length : Int) x7_1 = some r) ∧ Aside0 (kq ≤ k) ∧ Aside0 (Kd.R Kd.string 9 w' w.heap.size (fun k_ => some k_ ≠ ((.slice Ao4 t104.length co4) : Value).ownBlock) v2 x2_1) ∧ Aside0 (Kd.R Kd.string 9 w' w.heap.size (fun k_ => some k_ ≠ (v2 : Value).ownBlock) (.slice Ao4 t104.length co4) t104) ∧ Aside0 (Below w.heap.size w w'))
  case atStart => exact ⟨(([] : List ByteArray)), (0), (by first | rfl | (simp; done) | (simp [*]; done)), H', ⟨Nat.le_refl _⟩, ⟨by first | exact Kd.R_nil _ _ _ _ _ | exact Kd.N_nil _ _ _ _ _ | exact Kd.V_nil _ _ _ _ _ | exact Kd.Q_nil _ _ _ _ _ | exact Kd.S_nil _ _ _ _ _⟩, ⟨by (with_reducible repeat (first | apply Kd.R_alloc | apply Kd.R_drewN | apply Kd.R_drew)); exact Kd.R_mono HO106.out (fun _ hk => (by simp [Value.ownBlock]))⟩, ⟨by repeat (first | (with_reducible first | exact HB.out | apply below_alloc | apply pw_below_drewN | apply below_drew1) | exact HB.out)⟩⟩
  case round =>
    clear H'
    try clear c1
    try clear c2
    try clear p2
    obtain ⟨x2_1, x7_1, rfl, HA, HK1, HO_2, HO_5, HB⟩ := hrel
    cases gk with
    | zero => exact absurd HA.out (by simp [sandbox_Words.l0])
    | succ k1 =>
      have H := HA.out
      clear HA
      simp only [sandbox_Words.l0] at H
      by_cases c5 : x7_1 < (t104.length : Int)
      · rw [if_pos c5] at H
        have c5b0 : decide (x7_1 < (t104.length : Int)) = true := decide_eq_true c5
        clear c5
        by_cases c6 : 0 ≤ x7_1
        · rw [if_pos c6] at H
          have c6b0 : decide (0 ≤ x7_1) = true := decide_eq_true c6
          clear c6
          by_cases c7 : x7_1 < (t104.length : Int)
          · rw [if_pos c7] at H
            have c7b0 : decide (x7_1 < (t104.length : Int)) = true := decide_eq_true c7
            clear c7
            have c8b0 := eq_true (of_decide_eq_true (by first | (with_reducible assumption) | assumption) : 0 ≤ x7_1)
            obtain ⟨ji9, hji9⟩ : ∃ j_ : Int, (shl .i64 1 x7_1) = j_ := ⟨_, rfl⟩
            replace H : (if (Go.bits .and .i64 a0 (ji9)) = 0 then (if x2_1.length < 8796093022208 then (sandbox_Words.l0 k1 a0 (x2_1 ++ [rdOf ByteArray.empty t104 x7_1]) t104 (t104.length : Int) (wrap64 (x7_1 + 1))) else (none)) else (sandbox_Words.l0 k1 a0 x2_1 t104 (t104.length : Int) (wrap64 (x7_1 + 1)))) = some r := by first | (rw [hji9] at H; exact H) | (simp only [hji9] at H ⊢; exact H)
            have hji9_ : (IntKind.i64.wrap (1 * 2 ^ min x7_1.toNat 64)) = ji9 := hji9
            have hji9z : x7_1 ≤ 64 → (IntKind.i64.wrap (1 * 2 ^ x7_1.toNat)) = ji9 := shl_small hji9
            have hji9u : (IntKind.i64.wrap (2 ^ min x7_1.toNat 64)) = ji9 := by have h_ := hji9_; rw [Int.one_mul] at h_; exact h_
            have hji9v : x7_1 ≤ 64 → (IntKind.i64.wrap (2 ^ x7_1.toNat)) = ji9 := fun hle_ => by have h_ := hji9z hle_; rw [Int.one_mul] at h_; exact h_
            have hji9y : (wrap64 (1 * 2 ^ min x7_1.toNat 64)) = ji9 := (i64_w _).symm.trans hji9_
            have hji9x : x7_1 ≤ 64 → (wrap64 (1 * 2 ^ x7_1.toNat)) = ji9 := fun h_ => (i64_w _).symm.trans (hji9z h_)
            by_cases c10 : (Go.bits .and .i64 a0 (ji9)) = 0
            · rw [if_pos c10] at H
              have c10b0 : ((Go.bits .and .i64 a0 (ji9)) == 0) = true := beq_iff_eq.mpr c10
              have c10b1 : ((Go.bits .and .i64 a0 (ji9)) != 0) = false := bne_eq_false_iff_eq.mpr c10
              clear c10
              by_cases c11 : x2_1.length < 8796093022208
              · rw [if_pos c11] at H
                have LMc11 := Aside0.mk c11
                clear c11
                obtain ⟨y108, hy108⟩ : ∃ y_ : List ByteArray, y_ = (x2_1 ++ [rdOf ByteArray.empty t104 x7_1]) := ⟨_, rfl⟩
                replace H : (sandbox_Words.l0 k1 a0 y108 t104 (t104.length : Int) (wrap64 (x7_1 + 1))) = some r := by first | (rw [hy108]; with_reducible exact H) | (have H2_ := (Option.bind_some _ _).symm.trans H; rw [hy108]; with_reducible exact H2_) | (have H2_ := (Option.bind_some _ _).symm.trans H; with_reducible exact H2_) | with_reducible exact H | (rw [hy108]; exact H) | exact H
                have Ny108 := Aside0.mk hy108
                clear hy108
                have H' := Aside0.mk H
                clear H
                have p107 : 0 ≤ (x7_1 : Int) := of_decide_eq_true (by first | (with_reducible assumption) | assumption)
                have q107 : x7_1 < (t104.length : Int) := of_decide_eq_true (by first | (with_reducible assumption) | assumption)
                obtain ⟨ad107, e107, hx107_0⟩ := Kd.at_string (Kd.R_reads' HO_5.out).2.2 x7_1 p107 q107
                cases e107
                replace p107 := eq_true p107
                replace q107 := eq_true q107
                go_wp2_with (first | ((with_reducible refine gate_builtin (b := .append) (xs := #[.tmp 17, .tmp 19]) rfl ?_); at_builtin; refine Kd.R_append Kd.string (w0 := w) w.heap.size rfl (.tmp 17) (.tmp 19) 23 9 (.string ⟨#[]⟩) 16 rfl Try.underlying23 info9 rfl (by decide) (by omega) u2 x2_1 (rdOf ByteArray.empty t104 x7_1) [.string (rdOf ByteArray.empty t104 x7_1)] (fun k_ => some k_ ≠ (.slice (some ad107) t104.length co4 : Value).ownBlock) (fun _ => False) rfl rfl ?aP (fun _ hk => hk.elim) ?aF ?aO ?aB ?aS ?aL ?_; (case aP => exact rfl); (case aB => exact (by repeat (first | (with_reducible first | exact HB.out | apply below_alloc | apply pw_below_drewN | apply below_drew1) | exact HB.out))); (case aF => exact (fun k_ hk => Kd.fresh' (Kd.R_lt (by (with_reducible repeat (first | apply Kd.R_alloc | apply Kd.R_drewN | apply Kd.R_drew)); exact HO_5.out)) k_ hk)); (case aO => exact (by (with_reducible repeat (first | apply Kd.R_alloc | apply Kd.R_drewN | apply Kd.R_drew)); exact HO_2.out)); (case aS => exact (below_size (by repeat (first | (with_reducible first | exact HB.out | apply below_alloc | apply pw_below_drewN | apply below_drew1) | exact HB.out)))); (case aL => have := LMc11.out; omega); intro v109 w12 ho hb hg hat; rw [← Ny108.out] at ho; have n0_ := Aside0.mk (Kd.R_after (ok := (fun _ => True)) (by (with_reducible repeat (first | apply Kd.R_alloc | apply Kd.R_drewN | apply Kd.R_drew)); exact Kd.R_mono HO_5.out (fun _ hk => ⟨trivial, hk⟩)) hg hat); have n1_ := Aside0.mk (hb); have n2_ := Aside0.mk (ho); clear HO_5; clear HB; clear HO_2; have HO_5 := n0_; have HB := n1_; have HO110 := n2_; clear n0_ n1_ n2_; clear ho hb hg hat))
                go_roundg k1
                case measure => have := HK1.out; omega
                case rel => exact ⟨(y108), (wrap64 (x7_1 + 1)), (by first | rfl | (simp; done) | (simp [*]; done)), H', ⟨by have := HK1.out; omega⟩, ⟨by (with_reducible repeat (first | apply Kd.R_alloc | apply Kd.R_drewN | apply Kd.R_drew)); exact HO110.out⟩, ⟨by (with_reducible repeat (first | apply Kd.R_alloc | apply Kd.R_drewN | apply Kd.R_drew)); exact Kd.R_mono HO_5.out (fun _ hk => hk.2)⟩, ⟨by repeat (first | (with_reducible first | exact HB.out | apply below_alloc | apply pw_below_drewN | apply below_drew1) | exact HB.out)⟩⟩
              · rw [if_neg c11] at H
                exact absurd H (by simp)
            · rw [if_neg c10] at H
              have c10b0 : ((Go.bits .and .i64 a0 (ji9)) == 0) = false := beq_eq_false_iff_ne.mpr c10
              have c10b1 : ((Go.bits .and .i64 a0 (ji9)) != 0) = true := bne_iff_ne.mpr c10
              have H' := Aside0.mk H
              clear H
              have p107 : 0 ≤ (x7_1 : Int) := of_decide_eq_true (by first | (with_reducible assumption) | assumption)
              have q107 : x7_1 < (t104.length : Int) := of_decide_eq_true (by first | (with_reducible assumption) | assumption)
              obtain ⟨ad107, e107, hx107_0⟩ := Kd.at_string (Kd.R_reads' HO_5.out).2.2 x7_1 p107 q107
              cases e107
              replace p107 := eq_true p107
              replace q107 := eq_true q107
              go_wp2
              go_roundg k1
              case measure => have := HK1.out; omega
              case rel => exact ⟨(x2_1), (wrap64 (x7_1 + 1)), (by first | rfl | (simp; done) | (simp [*]; done)), H', ⟨by have := HK1.out; omega⟩, ⟨by (with_reducible repeat (first | apply Kd.R_alloc | apply Kd.R_drewN | apply Kd.R_drew)); exact HO_2.out⟩, ⟨by (with_reducible repeat (first | apply Kd.R_alloc | apply Kd.R_drewN | apply Kd.R_drew)); exact HO_5.out⟩, ⟨by repeat (first | (with_reducible first | exact HB.out | apply below_alloc | apply pw_below_drewN | apply below_drew1) | exact HB.out)⟩⟩
          · rw [if_neg c7] at H
            exact absurd H (by simp)
        · rw [if_neg c6] at H
          exact absurd H (by simp)
      · rw [if_neg c5] at H
        have c5b0 : decide (x7_1 < (t104.length : Int)) = false := decide_eq_false c5
        clear c5
        obtain rfl := Option.some.inj H
        go_wp2
        go_ret
        exact ⟨_, by first | rfl | (simp [errW_none, errW_some] <;> rfl) | (simp [*, errW_none, errW_some] <;> rfl), by (with_reducible repeat (first | apply Kd.R_alloc | apply Kd.R_drewN | apply Kd.R_drew)); exact Kd.R_mono HO_2.out (fun _ hk => trivial), by repeat (first | (with_reducible first | exact HB.out | apply below_alloc | apply pw_below_drewN | apply below_drew1) | exact HB.out)⟩

end Go.Proofs.Ytdccplnfnjpfpaa.X
