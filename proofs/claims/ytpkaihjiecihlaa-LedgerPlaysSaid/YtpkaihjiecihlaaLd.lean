import Derived.Test.YtpkaihjiecihlaaLc
import Derived.Lib.LazyBuf
/-! The ledger's From; the reference's New, Room, Add, From, Shut. -/
namespace Go.Proofs.Ytpkaihjiecihlaa.L
open Go.RowKit Go.Proofs.YtpkaihjiecihlaaW.PrintWords Go.Proofs.YtpkaihjiecihlaaW.PrintLast Go.Proofs.YtpkaihjiecihlaaW.PrintMore Go.Proofs.Ytpkaihjiecihlaa.X
attribute [local go_sem] max2_int min2_int max_two min_two

theorem R_empty {α : Type} (d : Kd α) (e : TypeId) (W : World) (base : Nat) (hb : base ≤ W.heap.size) : d.R e (W.alloc (.cells #[] e)) base (fun k => k = W.heap.size) (.slice (some ⟨W.heap.size, 0, none⟩) 0 0) [] :=
  ⟨fun k hk => by simpa [Value.ownBlock] using hk.symm, [], ⟨by simp, .inr ⟨W.heap.size, 0, #[], rfl, hb, (MapKept.heap_alloc W _).1, Nat.le_refl _, Nat.zero_le _, by simp, by simp⟩⟩, by simp, fun j p h => by simp at h⟩
theorem infoNi : ∃ i, Try.prog.info? 44 = some i ∧ i.size = 5 := by
  obtain ⟨i, hi, hz⟩ := Option.map_eq_some_iff.1 infoN
  simp only [Prod.mk.injEq] at hz
  exact ⟨i, hi, hz.2.1⟩
/-- What is told of a nil slice that is read: its form. -/
def Formed (A : Option Addr) (n c : Nat) : Prop := A = none → n = 0 ∧ c = 0
set_option maxHeartbeats 1000000 in
theorem clone_calls (A : Option Addr) (c : Nat) (l : List S44) (w : World) (hA : Formed A l.length c) (hn : l.length ≤ 1000000) (hl : k44.C w A l.length l) :
    Calls Try.prog 25 #[.slice A l.length c] w fun e w' => ∃ A' c', e = .returned (.slice A' l.length c') ∧ k44.R 44 w' w.heap.size (fun _ => True) (.slice A' l.length c') l ∧ Below w.heap.size w w' := by
  have heq := fun (W : World) (a : Option Addr) (n c : Nat) => run_eql_slice_nil (P := Try.prog) W 31 44 a n c Try.underlying31
  rcases A with _ | ad
  · obtain ⟨h0, rfl⟩ := hA rfl
    obtain rfl : l = [] := List.eq_nil_of_length_eq_zero h0
    clear hl hn h0 hA
    go_enter Try.func25, Try.ntmps25
    go_wp2
    go_ret
    exact ⟨none, 0, rfl, Kd.R_nil _ _ _ _ _, Below.refl _ _⟩
  · have HC := Lib.hid hl
    have HE := Lib.hid (R_empty k44 44 w w.heap.size (Nat.le_refl _))
    clear hl hA
    go_enter Try.func25, Try.ntmps25
    go_wp2_with ((with_reducible refine gate_builtin (b := .append) (xs := #[.tmp 5, .tmp 6]) rfl ?_); at_builtin; refine Kd.R_append_rows k44 (Rr := k44.K (w.alloc (.cells #[] 44))) (w0 := w) w.heap.size rfl (.tmp 5) (.tmp 6) 31 44 _ 48 rfl Try.underlying31 infoN rfl (by decide) (by omega) (.slice (some ⟨w.heap.size, 0, none⟩) 0 0) [] l (some ad) l.length c (fun _ => True) (fun _ => False) rfl rfl ?aO ?aR (fun x cs hx => note_M x cs hx) (fun _ hk => hk.elim) (fun _ _ => trivial) ?aB ?aS ?aL ?_; (case aO => exact Kd.R_mono HE.out (fun _ _ => trivial)); (case aR => exact Kd.C_alloc HC.out _); (case aB => exact below_alloc (Below.refl _ _) _); (case aS => simp); (case aL => simp; omega); intro v1 w1 hown hb1 hg1 hat1; have HO := Lib.hid hown; have HB := Lib.hid hb1; clear hown hg1 hb1 hat1)
    go_ret
    obtain ⟨A1, c1, rfl⟩ := Kd.R_slice HO.out
    exact ⟨A1, c1, by simp, by simpa using HO.out, HB.out⟩
/-- The notes from a place on. -/
def fromL (l : List S44) (at_ : Int) : List S44 := if at_ > (l.length : Int) then [] else l.drop at_.toNat
theorem formed_own {e base : Nat} {w : World} {ok : Nat → Prop} {A : Option Addr} {n c : Nat} {xs : List S44} (h : k44.R e w base ok (.slice A n c) xs) : (A = none → n = 0 ∧ c = 0) ∧ n ≤ c := by
  obtain ⟨_, inner, ho, _⟩ := h
  rcases ho.2 with ⟨hv, _⟩ | ⟨g, cap, cur, hv, _, _, hnc, _⟩
  · injection hv with h1 h2 h3
    subst h2; subst h3
    exact ⟨fun _ => ⟨rfl, rfl⟩, Nat.le_refl _⟩
  · injection hv with h1 h2 h3
    subst h1; subst h3
    exact ⟨(fun h => by cases h), by omega⟩
set_option maxHeartbeats 1000000 in
theorem from_calls (g b : Nat) (S : Nat → Prop) (s : LSt) (at_ : Int) (hi0 : -9223372036854775808 ≤ at_) (hi1 : at_ ≤ 9223372036854775807) (w : World) (h : LedIn w b S g s) :
    Calls Try.prog 17 #[.pointer (some ⟨g, 0, none⟩), .int .i64 at_] w fun e w' => ∃ A' c', e = .returned (.slice A' (fromL s.notes at_).length c') ∧ k44.R 44 w' w.heap.size (fun _ => True) (.slice A' (fromL s.notes at_).length c') (fromL s.notes at_) ∧ Below w.heap.size w w' := by
  obtain ⟨⟨h1, h2, h3⟩, hS, hg, v, hb, hr⟩ := h
  obtain ⟨A, c, rfl⟩ := Kd.R_slice hr
  obtain ⟨hform, hnc⟩ := formed_own hr
  have hC := (Kd.R_reads' hr).2.2
  have c0 : w.cell? ⟨g, 0, none⟩ = some (.slice A s.notes.length c) := blk_cell hb 0
  by_cases hgt : at_ > (s.notes.length : Int)
  · have hf : fromL s.notes at_ = [] := by unfold fromL; rw [if_pos hgt]
    have hd : decide ((s.notes.length : Int) < at_) = true := decide_eq_true hgt
    have HF := Lib.hid hf
    clear hb hr hC hf hform
    go_enter Try.func17, Try.ntmps17
    go_wp2
    go_ret
    rw [HF.out]
    exact ⟨none, 0, rfl, Kd.R_nil _ _ _ _ _, Below.refl _ _⟩
  · have hd : decide ((s.notes.length : Int) < at_) = false := decide_eq_false hgt
    obtain ⟨j, hj⟩ : ∃ j : Int, (at_ < 0 ∧ j = 0) ∨ (0 ≤ at_ ∧ j = at_) := by
      by_cases h : at_ < 0
      · exact ⟨0, .inl ⟨h, rfl⟩⟩
      · exact ⟨at_, .inr ⟨by omega, rfl⟩⟩
    have hj0 : 0 ≤ j := by omega
    have hj1 : j ≤ (s.notes.length : Int) := by omega
    have hjt : j.toNat = at_.toNat := by omega
    have hf : fromL s.notes at_ = s.notes.drop j.toNat := by unfold fromL; rw [if_neg hgt, hjt]
    have hC2 := Kd.C_drop hC (m := j.toNat) (by omega) hnc
    obtain ⟨ti, hti, htz⟩ := infoNi
    have hcut := cut_from (P := Try.prog) 31 44 .i64 Try.underlying31 hti 5 htz A s.notes.length c j hj0 (by omega)
    have hlen : (s.notes.drop j.toNat).length = s.notes.length - j.toNat := List.length_drop
    have hcl := clone_calls (if c = j.toNat then A else A.map (·.add (j.toNat * 5))) (c - j.toNat) (s.notes.drop j.toNat) w (fun hA => by
      by_cases e : c = j.toNat
      · rw [if_pos e] at hA
        obtain ⟨hz, hz2⟩ := hform hA
        rw [hlen]; omega
      · rw [if_neg e] at hA
        have : A = none := by cases A <;> simp_all
        obtain ⟨hz, hz2⟩ := hform this
        omega) (by rw [hlen]; omega) hC2
    rw [hlen] at hcl
    obtain ⟨A2, hA2⟩ : ∃ A2 : Option Addr, A2 = (if c = j.toNat then A else A.map (·.add (j.toNat * 5))) := ⟨_, rfl⟩
    obtain ⟨n2, hn2⟩ : ∃ n2 : Nat, n2 = s.notes.length - j.toNat := ⟨_, rfl⟩
    obtain ⟨c2, hc2⟩ : ∃ c2 : Nat, c2 = c - j.toNat := ⟨_, rfl⟩
    rw [← hA2, ← hn2, ← hc2] at hcut hcl
    rw [← hn2] at hlen
    clear hA2 hn2 hc2
    have HCL := Lib.hid hcl
    have HF := Lib.hid hf
    have HLEN := Lib.hid hlen
    clear hb hr hC hf hform hC2 hcl hlen hjt hj0 hj1 hgt
    rcases hj with ⟨hneg, rfl⟩ | ⟨hpos, rfl⟩
    all_goals
      go_enter Try.func17, Try.ntmps17
      go_wp2_with (go_at_call 25; refine HCL.out.mono ?_; rintro e w' ⟨A', c', rfl, ho, hb⟩; have HO := Lib.hid ho; have HB := Lib.hid hb; clear ho hb)
      go_ret
      rw [HF.out, HLEN.out]
      exact ⟨A', c', rfl, HO.out, HB.out⟩

/-! ### the reference -/
def rled (v : Value) (m : Int) (d : Bool) : Array Value := #[v, .int .i64 m, .bool d]
def RefIn (w : World) (b : Nat) (S : Nat → Prop) (g : Nat) (s : LSt) : Prop :=
  s.fine ∧ (∀ k, S k → b ≤ k ∧ k < w.heap.size) ∧ S g ∧ ∃ v, w.heap[g]? = some (.cells (rled v s.most s.shut) 36 (0, 0)) ∧ k44.R 44 w b (fun k => S k ∧ k ≠ g) v s.notes
theorem RefIn.move {w w1 : World} {b g : Nat} {S : Nat → Prop} {s : LSt} (h : RefIn w b S g s) (hsz : w.heap.size ≤ w1.heap.size) (hm : ∀ k, S k → w1.heap[k]? = w.heap[k]?) : RefIn w1 b S g s := by
  obtain ⟨hf, hS, hg, v, hb, hr⟩ := h
  exact ⟨hf, fun k hk => ⟨(hS k hk).1, Nat.lt_of_lt_of_le (hS k hk).2 hsz⟩, hg, v, (hm g hg).trans hb, Kd.R_move hr (fun k hk => hm k hk.1)⟩
theorem RefIn.below {w w1 : World} {b g : Nat} {S : Nat → Prop} {s : LSt} (h : RefIn w b S g s) (hb : Below w.heap.size w w1) : RefIn w1 b S g s := h.move hb.size (fun k hk => hb.block k (h.2.1 k hk).2)
theorem RefIn.turn {w w1 : World} {b g : Nat} {S T : Nat → Prop} {s : LSt} (h : RefIn w b S g s) (ht : Turn T w w1) (hd : ∀ k, S k → ¬ T k) : RefIn w1 b S g s := h.move ht.size (fun k hk => ht.block k (h.2.1 k hk).2 (hd k hk))
theorem ref_room_calls (g b : Nat) (S : Nat → Prop) (s : LSt) (w : World) (h : RefIn w b S g s) :
    Calls Try.prog 20 #[.pointer (some ⟨g, 0, none⟩)] w fun e w' => e = .returned (.int .i64 (s.most - s.notes.length)) ∧ Drawn0 w w' := by
  obtain ⟨⟨h1, h2, h3⟩, hS, hg, v, hb, hr⟩ := h
  obtain ⟨A, c, rfl⟩ := Kd.R_slice hr
  have c0 : w.cell? ⟨g, 0, none⟩ = some (.slice A s.notes.length c) := blk_cell hb 0
  have c1 : w.cell? ⟨g, 1, none⟩ = some (.int .i64 s.most) := blk_cell hb 1
  clear hb hr
  go_enter Try.func20, Try.ntmps20
  go_wp2
  go_quiet (fail)
  go_wp2
  go_ret
  exact ⟨rfl, ⟨⟨_, rfl⟩⟩⟩
theorem ref_shut_calls (g b : Nat) (S : Nat → Prop) (s : LSt) (w : World) (h : RefIn w b S g s) :
    Calls Try.prog 13 #[.pointer (some ⟨g, 0, none⟩)] w fun e w' => e = .returned (.bool (!s.shut)) ∧ RefIn w' b S g { s with shut := true } ∧ Turn S w w' := by
  obtain ⟨hf, hS, hg, v, hb, hr⟩ := h
  have c2 : w.cell? ⟨g, 2, none⟩ = some (.bool s.shut) := blk_cell hb 2
  have f2 := blk_frozen hb 2
  have HB := Lib.hid hb
  have HR := Lib.hid hr
  have HS := Lib.hid hS
  clear hb hr hS
  go_enter Try.func13, Try.ntmps13
  go_wp2
  go_ret
  exact ⟨rfl, ⟨hf, fun k hk => by have := HS.out k hk; simpa [World.setCell] using this, hg, v, blk_set HB.out 2 _, Kd.R_far (p := ⟨g, 2, none⟩) HR.out (fun k hk => hk.2) _⟩, (Turn.refl S w).set_ ⟨g, 2, none⟩ _ (.inl hg)⟩
set_option maxHeartbeats 1000000 in
theorem ref_add_calls (g b : Nat) (S : Nat → Prop) (s : LSt) (A : Option Addr) (c : Nat) (l : List S44) (w : World) (hbw : b ≤ w.heap.size) (h : RefIn w b S g s) (hl : k44.C w A l.length l) :
    Calls Try.prog 15 #[.pointer (some ⟨g, 0, none⟩), .slice A l.length c] w fun e w' => e = .returned (.int .i64 (addTo s l).1) ∧ RefIn w' b (fun k => S k ∨ (w.heap.size ≤ k ∧ k < w'.heap.size)) g (addTo s l).2 ∧ Turn S w w' := by
  have h0 := h
  obtain ⟨⟨h1, h2, h3⟩, hS, hg, v, hb, hr⟩ := h
  obtain ⟨Av, cv, rfl⟩ := Kd.R_slice hr
  have c0 : w.cell? ⟨g, 0, none⟩ = some (.slice Av s.notes.length cv) := blk_cell hb 0
  have c1 : w.cell? ⟨g, 1, none⟩ = some (.int .i64 s.most) := blk_cell hb 1
  have c2 : w.cell? ⟨g, 2, none⟩ = some (.bool s.shut) := blk_cell hb 2
  have wide : ∀ (w' : World) (s' : LSt), RefIn w' b S g s' → RefIn w' b (fun k => S k ∨ (w.heap.size ≤ k ∧ k < w'.heap.size)) g s' := by
    rintro w' s' ⟨hf, hS', hg', v', hb', hr'⟩
    exact ⟨hf, fun k hk => hk.elim (hS' k) (fun h => ⟨Nat.le_trans hbw h.1, h.2⟩), .inl hg', v', hb', Kd.R_mono hr' (fun k hk => ⟨.inl hk.1, hk.2⟩)⟩
  have WIDE := Lib.hid wide
  have H0 := Lib.hid h0
  by_cases hsh : s.shut = true
  · have hfin : addTo s l = (201, s) := by unfold addTo; rw [if_pos hsh]
    rw [hsh] at c2
    have HF := Lib.hid hfin
    clear hb hr hS wide h0 hl hfin hsh
    go_enter Try.func15, Try.ntmps15
    go_wp2
    go_ret
    rw [HF.out]
    exact ⟨rfl, WIDE.out _ _ H0.out, Turn.refl _ _⟩
  · have hsh' : s.shut = false := by simpa using hsh
    rw [hsh'] at c2
    by_cases hfull : (l.length : Int) > s.most - s.notes.length
    · have hfin : addTo s l = (200, s) := by unfold addTo; rw [if_neg hsh, if_pos hfull]
      have HF := Lib.hid hfin
      have hd : decide (s.most - (s.notes.length : Int) < (l.length : Int)) = true := decide_eq_true hfull
      clear hb hr hS wide h0 hl hfin hsh hsh'
      go_enter Try.func15, Try.ntmps15
      go_wp2
      go_quiet (fail)
      go_wp2
      go_ret
      rw [HF.out]
      exact ⟨rfl, WIDE.out _ _ (H0.out.move (Nat.le_refl _) (fun _ _ => rfl)), Turn.of_below (pw_below_drewN (Below.refl _ _) _)⟩
    · have hfin : addTo s l = (0, { s with notes := s.notes ++ l }) := by unfold addTo; rw [if_neg hsh, if_neg hfull]
      have HF := Lib.hid hfin
      have hd : decide (s.most - (s.notes.length : Int) < (l.length : Int)) = false := decide_eq_false hfull
      have hfine : ({ s with notes := s.notes ++ l } : LSt).fine := ⟨h1, h2, by simp only [List.length_append]; omega⟩
      have HFINE := Lib.hid hfine
      have HB := Lib.hid hb
      have HR := Lib.hid hr
      have HSS := Lib.hid hS
      have HC := Lib.hid hl
      have haf : ∀ k, w.heap.size ≤ k → (S k ∨ w.heap.size ≤ k) ∧ k ≠ g := fun k hk => ⟨.inr hk, fun e => by have := (hS g hg).2; omega⟩
      have AF := Lib.hid haf
      clear haf
      have hlen : s.notes.length + l.length ≤ 5000 := by omega
      clear hb hr hS wide h0 hl hfin hsh hsh' hfine
      go_enter Try.func15, Try.ntmps15
      go_wp2
      go_quiet (fail)
      obtain ⟨nd, hnd⟩ : ∃ nd, nd = nq := ⟨_, rfl⟩
      rw [← hnd]
      clear c1 c2 hd hnd
      go_wp2_with ((with_reducible refine gate_builtin (b := .append) (xs := #[.tmp 26, .tmp 27]) rfl ?_); at_builtin; refine Kd.R_append_rows k44 (Rr := k44.K w) (w0 := w) b rfl (.tmp 26) (.tmp 27) 31 44 _ 48 rfl Try.underlying31 infoN rfl (by decide) (by omega) (.slice Av s.notes.length cv) s.notes l A l.length c (fun k => (S k ∨ w.heap.size ≤ k) ∧ k ≠ g) (fun _ => False) rfl rfl ?aO ?aR (fun x cs hx => note_M x cs hx) (fun _ hk => hk.elim) ?aF ?aB hbw ?aL ?_; (case aO => exact Kd.R_drewN (Kd.R_mono HR.out (fun k hk => ⟨.inl hk.1, hk.2⟩)) _); (case aR => exact HC.out); (case aF => exact AF.out); (case aB => exact pw_below_drewN (Below.refl _ _) _); (case aL => omega); intro v1 w1 hown hb1 hg1 hat1; obtain ⟨A1, c1, rfl⟩ := Kd.R_slice hown; have e1 := blk_grown (w := w.drewN nd) HB.out hg1 (fun e => (HR.out.1 g e.symm).2 rfl); have d1 : w1.cell? ⟨g, 0, none⟩ = some (.slice Av s.notes.length cv) := blk_cell e1 0; have f1 := blk_frozen e1 0; have E1 := Lib.hid e1; have HO := Lib.hid hown; have HG := Lib.hid hg1; clear e1 hown hg1 hb1 hat1)
      go_ret
      rw [HF.out]
      have hsz : w.heap.size ≤ w1.heap.size := HG.out.size
      have hz : ∀ u, (w1.setCell ⟨g, 0, none⟩ u).heap.size = w1.heap.size := fun u => by simp [World.setCell]
      have R0 : k44.R 44 w1 b (fun k => (S k ∨ w.heap.size ≤ k) ∧ k ≠ g) (.slice A1 (s.notes.length + l.length) c1) (s.notes ++ l) := by rw [← List.length_append]; exact HO.out
      have R1 := Kd.R_bound (Kd.R_far (p := ⟨g, 0, none⟩) R0 (fun k hk => hk.2) (.slice A1 (s.notes.length + l.length) c1))
      refine ⟨rfl, ⟨HFINE.out, fun k hk => ?_, .inl hg, _, blk_set E1.out 0 _, Kd.R_mono R1 (fun k hk => ⟨hk.1.1.elim .inl (fun h => .inr ⟨h, hk.2.2.1⟩), hk.1.2⟩)⟩, ?_⟩
      · rcases hk with hk | hk
        · rw [hz]
          exact ⟨(HSS.out k hk).1, Nat.lt_of_lt_of_le (HSS.out k hk).2 hsz⟩
        · exact ⟨Nat.le_trans hbw hk.1, hk.2⟩
      · exact ((Turn.of_below (S := S) (pw_below_drewN (Below.refl w.heap.size w) nd)).grown HG.out (fun k hk => .inl (HR.out.1 k hk).1)).set_ ⟨g, 0, none⟩ _ (.inl hg)
theorem ref_new_bad (m : Int) (hm : m < 0 ∨ 5000 < m) (w : World) : Calls Try.prog 11 #[.int .i64 m] w fun e w' => e = .returned (.tuple #[.pointer none, .int .i64 1]) ∧ w = w' := by
  by_cases h0 : m < 0
  · go_enter Try.func11, Try.ntmps11
    go_wp2
    go_ret2
    exact ⟨rfl, rfl⟩
  · have h1 : 5000 < m := by omega
    go_enter Try.func11, Try.ntmps11
    go_wp2
    go_ret2
    exact ⟨rfl, rfl⟩
theorem ref_new_good (m : Int) (h0 : 0 ≤ m) (h1 : m ≤ 5000) (w : World) (b : Nat) (hb : b ≤ w.heap.size) : Calls Try.prog 11 #[.int .i64 m] w fun e w' => e = .returned (.tuple #[.pointer (some ⟨w.heap.size, 0, none⟩), .int .i64 0]) ∧ RefIn w' b (fun k => k = w.heap.size) w.heap.size ⟨[], m, false⟩ ∧ Below w.heap.size w w' := by
  have hu := Try.underlying36
  go_enter Try.func11, Try.ntmps11
  go_wp2
  go_ret2
  refine ⟨rfl, ⟨⟨h0, h1, by simpa using h0⟩, fun k hk => ⟨by rw [hk]; exact hb, by rw [hk]; simp⟩, rfl, _, (MapKept.heap_alloc _ _).1, Kd.R_nil _ _ _ _ _⟩, (Below.refl _ _).alloc (Nat.le_refl _) _⟩
set_option maxHeartbeats 1000000 in
theorem ref_from_calls (g b : Nat) (S : Nat → Prop) (s : LSt) (at_ : Int) (w : World) (h : RefIn w b S g s) :
    Calls Try.prog 18 #[.pointer (some ⟨g, 0, none⟩), .int .i64 at_] w fun e w' => ∃ A' c', e = .returned (.slice A' (fromL s.notes at_).length c') ∧ k44.C w' A' (fromL s.notes at_).length (fromL s.notes at_) ∧ (fromL s.notes at_).length ≤ c' ∧ w = w' := by
  obtain ⟨⟨h1, h2, h3⟩, hS, hg, v, hb, hr⟩ := h
  obtain ⟨A, c, rfl⟩ := Kd.R_slice hr
  obtain ⟨hform, hnc⟩ := formed_own hr
  have hC := (Kd.R_reads' hr).2.2
  have c0 : w.cell? ⟨g, 0, none⟩ = some (.slice A s.notes.length c) := blk_cell hb 0
  by_cases hgt : at_ > (s.notes.length : Int)
  · have hf : fromL s.notes at_ = [] := by unfold fromL; rw [if_pos hgt]
    have hd : decide ((s.notes.length : Int) < at_) = true := decide_eq_true hgt
    have hneg : decide (at_ < 0) = false := decide_eq_false (by omega)
    have HF := Lib.hid hf
    clear hb hr hC hf hform
    go_enter Try.func18, Try.ntmps18
    go_wp2
    go_ret
    rw [HF.out]
    exact ⟨none, 0, rfl, Kd.C_nil _ _, Nat.le_refl _, rfl⟩
  · obtain ⟨j, hj⟩ : ∃ j : Int, (at_ < 0 ∧ j = 0) ∨ (0 ≤ at_ ∧ j = at_) := by
      by_cases h : at_ < 0
      · exact ⟨0, .inl ⟨h, rfl⟩⟩
      · exact ⟨at_, .inr ⟨by omega, rfl⟩⟩
    have hj0 : 0 ≤ j := by omega
    have hj1 : j ≤ (s.notes.length : Int) := by omega
    have hjt : j.toNat = at_.toNat := by omega
    have hf : fromL s.notes at_ = s.notes.drop j.toNat := by unfold fromL; rw [if_neg hgt, hjt]
    have hC2 := Kd.C_drop hC (m := j.toNat) (by omega) hnc
    obtain ⟨ti, hti, htz⟩ := infoNi
    have hcut := cut_from (P := Try.prog) 31 44 .i64 Try.underlying31 hti 5 htz A s.notes.length c j hj0 (by omega)
    have hlen : (s.notes.drop j.toNat).length = s.notes.length - j.toNat := List.length_drop
    have hcc : (s.notes.drop j.toNat).length ≤ c - j.toNat := by rw [hlen]; omega
    have hd : decide ((s.notes.length : Int) < j) = false := decide_eq_false (by omega)
    obtain ⟨A2, hA2⟩ : ∃ A2 : Option Addr, A2 = (if c = j.toNat then A else A.map (·.add (j.toNat * 5))) := ⟨_, rfl⟩
    obtain ⟨n2, hn2⟩ : ∃ n2 : Nat, n2 = s.notes.length - j.toNat := ⟨_, rfl⟩
    obtain ⟨c2, hc2⟩ : ∃ c2 : Nat, c2 = c - j.toNat := ⟨_, rfl⟩
    have hC3 : k44.C w A2 (s.notes.drop j.toNat).length (s.notes.drop j.toNat) := by rw [hA2]; exact hC2
    rw [← hA2, ← hn2, ← hc2] at hcut
    rw [← hn2] at hlen
    rw [← hc2] at hcc
    clear hA2 hn2 hc2
    have HF := Lib.hid hf
    have HLEN := Lib.hid hlen
    have HC3 := Lib.hid hC3
    have HCC := Lib.hid hcc
    clear hb hr hC hf hform hC2 hlen hC3 hcc hjt hj0 hj1 hgt
    rcases hj with ⟨hneg, rfl⟩ | ⟨hpos, rfl⟩
    · have hng := decide_eq_true hneg
      go_enter Try.func18, Try.ntmps18
      go_wp2
      go_ret
      rw [HF.out]
      exact ⟨A2, c2, by rw [HLEN.out]; rfl, HC3.out, HCC.out, rfl⟩
    · have hng : decide (j < 0) = false := decide_eq_false (by omega)
      go_enter Try.func18, Try.ntmps18
      go_wp2
      go_ret
      rw [HF.out]
      exact ⟨A2, c2, by rw [HLEN.out]; rfl, HC3.out, HCC.out, rfl⟩
end Go.Proofs.Ytpkaihjiecihlaa.L
