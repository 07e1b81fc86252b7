import Derived.Test.YtpkaihjiecihlaaLb
import Derived.Test.YtpkaihjiecihlaaX
import Derived.Lib.Hide
import Derived.WalkSpells
/-! The ledger: New, Room, Add, From. -/
namespace Go.Proofs.Ytpkaihjiecihlaa.L
open Go.RowKit Go.Proofs.YtpkaihjiecihlaaW.PrintWords Go.Proofs.YtpkaihjiecihlaaW.PrintLast Go.Proofs.YtpkaihjiecihlaaW.PrintMore Go.Proofs.Ytpkaihjiecihlaa.X
attribute [local go_sem] max2_int min2_int max_two min_two

/-- Notes lead to nothing. -/
theorem note_M {w : World} {base : Nat} {ok : Nat → Prop} (x : S44) (cs : List Value) (h : k44.K w x cs) : k44.M w base ok x cs := by
  rw [k44_open h]; exact k44_mkM w base ok x
theorem infoN : (Try.prog.info? 44).map (fun i => (i.zero, i.size, i.bytes)) = some (some (.agg #[.int .i64 0, .int .i64 0, .int .i64 0, .int .i64 0, .string ⟨#[]⟩]), 5, 48) := by kernel_rfl
/-- A ledger, or its reference, as it stands. -/
structure LSt where
  notes : List S44
  most : Int
  shut : Bool
/-- What the calls keep. -/
def LSt.fine (s : LSt) : Prop := 0 ≤ s.most ∧ s.most ≤ 5000 ∧ (s.notes.length : Int) ≤ s.most
/-- Blocks S (from b on) hold the ledger at g. -/
def LedIn (w : World) (b : Nat) (S : Nat → Prop) (g : Nat) (s : LSt) : Prop :=
  s.fine ∧ (∀ k, S k → b ≤ k ∧ k < w.heap.size) ∧ S g ∧ ∃ v, w.heap[g]? = some (.cells (led v s.most (bn s.shut) 0 (bn s.shut)) 58 (0, 0)) ∧ k44.R 44 w b (fun k => S k ∧ k ≠ g) v s.notes
theorem LedIn.move {w w1 : World} {b g : Nat} {S : Nat → Prop} {s : LSt} (h : LedIn w b S g s) (hsz : w.heap.size ≤ w1.heap.size) (hm : ∀ k, S k → w1.heap[k]? = w.heap[k]?) : LedIn w1 b S g s := by
  obtain ⟨hf, hS, hg, v, hb, hr⟩ := h
  exact ⟨hf, fun k hk => ⟨(hS k hk).1, Nat.lt_of_lt_of_le (hS k hk).2 hsz⟩, hg, v, (hm g hg).trans hb, Kd.R_move hr (fun k hk => hm k hk.1)⟩
theorem LedIn.below {w w1 : World} {b g : Nat} {S : Nat → Prop} {s : LSt} (h : LedIn w b S g s) (hb : Below w.heap.size w w1) : LedIn w1 b S g s := h.move hb.size (fun k hk => hb.block k (h.2.1 k hk).2)
theorem LedIn.turn {w w1 : World} {b g : Nat} {S T : Nat → Prop} {s : LSt} (h : LedIn w b S g s) (ht : Turn T w w1) (hd : ∀ k, S k → ¬ T k) : LedIn w1 b S g s := h.move ht.size (fun k hk => ht.block k (h.2.1 k hk).2 (hd k hk))

theorem room_calls (g b : Nat) (S : Nat → Prop) (s : LSt) (w : World) (h : LedIn w b S g s) :
    Calls Try.prog 19 #[.pointer (some ⟨g, 0, none⟩)] w fun e w' => e = .returned (.int .i64 (s.most - s.notes.length)) ∧ Drawn0 w w' := by
  obtain ⟨⟨h1, h2, h3⟩, hS, hg, v, hb, hr⟩ := h
  obtain ⟨A, c, rfl⟩ := Kd.R_slice hr
  have c0 : w.cell? ⟨g, 0, none⟩ = some (.slice A s.notes.length c) := blk_cell hb 0
  have c1 : w.cell? ⟨g, 1, none⟩ = some (.int .i64 s.most) := blk_cell hb 1
  clear hb hr
  go_enter Try.func19, Try.ntmps19
  go_wp2
  go_quiet (fail)
  go_wp2
  go_ret
  exact ⟨rfl, ⟨⟨_, rfl⟩⟩⟩
theorem room_nil (w : World) : Calls Try.prog 19 #[.pointer none] w fun e w' => e = .returned (.int .i64 0) ∧ w' = w := by
  go_enter Try.func19, Try.ntmps19
  go_wp2
  go_ret
  exact ⟨rfl, rfl⟩
/-- What a list that comes is answered, and what it leaves. -/
def addTo (s : LSt) (l : List S44) : Int × LSt :=
  if s.shut then (201, s) else if (l.length : Int) > s.most - s.notes.length then (200, s) else (0, { s with notes := s.notes ++ l })
theorem addTo_fine {s : LSt} (h : s.fine) (l : List S44) : (addTo s l).2.fine := by
  unfold addTo
  split
  · exact h
  · split
    · exact h
    · obtain ⟨h1, h2, h3⟩ := h
      exact ⟨h1, h2, by simp only [List.length_append]; omega⟩
set_option maxHeartbeats 1000000 in
theorem add_calls (g b : Nat) (S : Nat → Prop) (s : LSt) (A : Option Addr) (c : Nat) (l : List S44) (w : World) (hbw : b ≤ w.heap.size) (h : LedIn w b S g s) (hl : k44.C w A l.length l) :
    Calls Try.prog 14 #[.pointer (some ⟨g, 0, none⟩), .slice A l.length c] w fun e w' => e = .returned (.int .i64 (addTo s l).1) ∧ LedIn w' b (fun k => S k ∨ (w.heap.size ≤ k ∧ k < w'.heap.size)) g (addTo s l).2 ∧ Turn S w w' := by
  have h0 := h
  obtain ⟨⟨h1, h2, h3⟩, hS, hg, v, hb, hr⟩ := h
  have c5 : w.cell? ⟨g, 5, none⟩ = some (.int .u32 (bn s.shut)) := blk_cell hb 5
  have hld := load_calls ⟨g, 5, none⟩ _ w c5
  have hrm := room_calls g b S s w h0
  have HLD := Lib.hid hld
  have HRM := Lib.hid hrm
  have wide : ∀ (w' : World) (s' : LSt), LedIn w' b S g s' → LedIn w' b (fun k => S k ∨ (w.heap.size ≤ k ∧ k < w'.heap.size)) g s' := by
    rintro w' s' ⟨hf, hS', hg', v', hb', hr'⟩
    exact ⟨hf, fun k hk => hk.elim (hS' k) (fun h => ⟨Nat.le_trans hbw h.1, h.2⟩), .inl hg', v', hb', Kd.R_mono hr' (fun k hk => ⟨.inl hk.1, hk.2⟩)⟩
  have WIDE := Lib.hid wide
  have H0 := Lib.hid h0
  by_cases hsh : s.shut = true
  · have hfin : addTo s l = (201, s) := by unfold addTo; rw [if_pos hsh]
    have hbn : (bn s.shut != 0) = true := by rw [hsh]; rfl
    have HF := Lib.hid hfin
    clear c5 hld hrm hb hr hS wide h0 hl hfin hsh
    go_enter Try.func14, Try.ntmps14
    go_wp2_with (go_at_call 24; refine HLD.out.mono ?_; rintro e w' ⟨rfl, rfl⟩)
    go_ret
    rw [HF.out]
    exact ⟨rfl, WIDE.out _ _ H0.out, Turn.refl _ _⟩
  · have hsh' : s.shut = false := by simpa using hsh
    have hbn : (bn s.shut != 0) = false := by rw [hsh']; rfl
    by_cases hfull : (l.length : Int) > s.most - s.notes.length
    · have hfin : addTo s l = (200, s) := by unfold addTo; rw [if_neg hsh, if_pos hfull]
      have HF := Lib.hid hfin
      have hd : decide (s.most - (s.notes.length : Int) < (l.length : Int)) = true := decide_eq_true hfull
      clear c5 hld hrm hb hr hS wide h0 hl hfin hsh hsh'
      go_enter Try.func14, Try.ntmps14
      go_wp2_with (first | (go_at_call 24; refine HLD.out.mono ?_; rintro e w' ⟨rfl, rfl⟩) | (go_at_call 19; refine HRM.out.mono ?_; rintro e w' ⟨rfl, ⟨nd, rfl⟩⟩))
      go_ret
      rw [HF.out]
      exact ⟨rfl, WIDE.out _ _ (H0.out.move (w1 := w.drewN nd) (Nat.le_refl _) (fun _ _ => rfl)), (Turn.of_below (pw_below_drewN (Below.refl _ _) _))⟩
    · have hfin : addTo s l = (0, { s with notes := s.notes ++ l }) := by unfold addTo; rw [if_neg hsh, if_neg hfull]
      have HF := Lib.hid hfin
      have hd : decide (s.most - (s.notes.length : Int) < (l.length : Int)) = false := decide_eq_false hfull
      have hfine : ({ s with notes := s.notes ++ l } : LSt).fine := ⟨h1, h2, by simp only [List.length_append]; omega⟩
      have HFINE := Lib.hid hfine
      have HB := Lib.hid hb
      have HR := Lib.hid hr
      have HSS := Lib.hid hS
      have HC := Lib.hid hl
      have haf : ∀ k, w.heap.size ≤ k → (S k ∨ w.heap.size ≤ k) ∧ k ≠ g := fun k hk => ⟨.inr hk, fun e => by have := (hS g hg).2; omega⟩
      have AF := Lib.hid haf
      clear haf
      have hlen : s.notes.length + l.length ≤ 5000 := by omega
      have c0 : w.cell? ⟨g, 0, none⟩ = some v := blk_cell hb 0
      clear c5 hld hrm hb hr hS wide h0 hl hfin hsh hsh' hfine
      go_enter Try.func14, Try.ntmps14
      go_wp2_with (first | (go_at_call 24; refine HLD.out.mono ?_; rintro e w' ⟨rfl, rfl⟩) | (go_at_call 19; refine HRM.out.mono ?_; rintro e w' ⟨rfl, ⟨nd, rfl⟩⟩) | ((with_reducible refine gate_builtin (b := .append) (xs := #[.tmp 23, .tmp 24]) rfl ?_); at_builtin; refine Kd.R_append_rows k44 (Rr := k44.K w) (w0 := w) b rfl (.tmp 23) (.tmp 24) 31 44 _ 48 rfl Try.underlying31 infoN rfl (by decide) (by omega) v s.notes l A l.length c (fun k => (S k ∨ w.heap.size ≤ k) ∧ k ≠ g) (fun _ => False) rfl rfl ?aO ?aR (fun x cs hx => note_M x cs hx) (fun _ hk => hk.elim) ?aF ?aB hbw ?aL ?_; (case aO => exact Kd.R_drewN (Kd.R_mono HR.out (fun k hk => ⟨.inl hk.1, hk.2⟩)) _); (case aR => exact HC.out); (case aF => exact AF.out); (case aB => exact pw_below_drewN (Below.refl _ _) _); (case aL => omega); intro v1 w1 hown hb1 hg1 hat1; obtain ⟨A1, c1, rfl⟩ := Kd.R_slice hown; have e1 := blk_grown (w := w.drewN nd) HB.out hg1 (fun e => (HR.out.1 g e.symm).2 rfl); have d1 : w1.cell? ⟨g, 0, none⟩ = some v := blk_cell e1 0; have f1 := blk_frozen e1 0; have E1 := Lib.hid e1; have HO := Lib.hid hown; have HG := Lib.hid hg1; clear e1 hown hg1 hb1 hat1))
      go_ret
      rw [HF.out]
      have hsz : w.heap.size ≤ w1.heap.size := HG.out.size
      have hz : ∀ u, (w1.setCell ⟨g, 0, none⟩ u).heap.size = w1.heap.size := fun u => by simp [World.setCell]
      have R0 : k44.R 44 w1 b (fun k => (S k ∨ w.heap.size ≤ k) ∧ k ≠ g) (.slice A1 (s.notes.length + l.length) c1) (s.notes ++ l) := by rw [← List.length_append]; exact HO.out
      have R1 := Kd.R_bound (Kd.R_far (p := ⟨g, 0, none⟩) R0 (fun k hk => hk.2) (.slice A1 (s.notes.length + l.length) c1))
      refine ⟨rfl, ⟨HFINE.out, fun k hk => ?_, .inl hg, _, blk_set E1.out 0 _, Kd.R_mono R1 (fun k hk => ⟨hk.1.1.elim .inl (fun h => .inr ⟨h, hk.2.2.1⟩), hk.1.2⟩)⟩, ?_⟩
      · rcases hk with hk | hk
        · rw [hz]
          exact ⟨(HSS.out k hk).1, Nat.lt_of_lt_of_le (HSS.out k hk).2 hsz⟩
        · exact ⟨Nat.le_trans hbw hk.1, hk.2⟩
      · exact ((Turn.of_below (S := S) (pw_below_drewN (Below.refl w.heap.size w) nd)).grown HG.out (fun k hk => .inl (HR.out.1 k hk).1)).set_ ⟨g, 0, none⟩ _ (.inl hg)
theorem add_nil (A : Option Addr) (n c : Nat) (w : World) : Calls Try.prog 14 #[.pointer none, .slice A n c] w fun e w' => e = .returned (.int .i64 1) ∧ w' = w := by
  go_enter Try.func14, Try.ntmps14
  go_wp2
  go_ret
  exact ⟨rfl, rfl⟩

theorem new_bad (m : Int) (hm : m < 0 ∨ 5000 < m) (w : World) : Calls Try.prog 10 #[.int .i64 m] w fun e w' => e = .returned (.tuple #[.pointer none, .int .i64 1]) ∧ w = w' := by
  by_cases h0 : m < 0
  · go_enter Try.func10, Try.ntmps10
    go_wp2
    go_ret2
    exact ⟨rfl, rfl⟩
  · have h1 : 5000 < m := by omega
    go_enter Try.func10, Try.ntmps10
    go_wp2
    go_ret2
    exact ⟨rfl, rfl⟩
theorem new_good (m : Int) (h0 : 0 ≤ m) (h1 : m ≤ 5000) (w : World) (b : Nat) (hb : b ≤ w.heap.size) : Calls Try.prog 10 #[.int .i64 m] w fun e w' => e = .returned (.tuple #[.pointer (some ⟨w.heap.size, 0, none⟩), .int .i64 0]) ∧ LedIn w' b (fun k => k = w.heap.size) w.heap.size ⟨[], m, false⟩ ∧ Below w.heap.size w w' := by
  have hu := Try.underlying58
  go_enter Try.func10, Try.ntmps10
  go_wp2
  go_ret2
  refine ⟨rfl, ⟨⟨h0, h1, by simpa using h0⟩, fun k hk => ⟨by rw [hk]; exact hb, by rw [hk]; simp⟩, rfl, _, (MapKept.heap_alloc _ _).1, Kd.R_nil _ _ _ _ _⟩, (Below.refl _ _).alloc (Nat.le_refl _) _⟩
end Go.Proofs.Ytpkaihjiecihlaa.L
