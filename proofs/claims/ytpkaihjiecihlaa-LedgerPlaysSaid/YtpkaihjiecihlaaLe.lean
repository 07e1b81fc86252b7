import Derived.Test.YtpkaihjiecihlaaLd
/-! Same of a list and itself; awake; LedgerNames; LedgerNil. -/
namespace Go.Proofs.Ytpkaihjiecihlaa.L
open Go.RowKit Go.Proofs.YtpkaihjiecihlaaW.PrintWords Go.Proofs.YtpkaihjiecihlaaW.PrintLast Go.Proofs.YtpkaihjiecihlaaW.PrintMore Go.Proofs.Ytpkaihjiecihlaa.X

theorem same_loop (l : List S44) (hl : l.length ≤ 1000000) : ∀ (d k : Nat) (x : Int), 0 ≤ x → x + d = (l.length : Int) → d < k → glacisref20_Same.l0 k l l x = some true := by
  intro d
  induction d with
  | zero =>
    intro k x h0 hd hk
    obtain ⟨k, rfl⟩ : ∃ m, k = m + 1 := ⟨k - 1, by omega⟩
    simp only [glacisref20_Same.l0]
    rw [if_neg (by omega)]
  | succ d ih =>
    intro k x h0 hd hk
    obtain ⟨k, rfl⟩ : ∃ m, k = m + 1 := ⟨k - 1, by omega⟩
    have hw : wrap64 (x + 1) = x + 1 := by unfold wrap64; omega
    simp only [glacisref20_Same.l0]
    rw [if_pos (by omega), if_pos h0, if_pos (by omega), if_neg (by simp), hw]
    exact ih k (x + 1) (by omega) (by omega) (by omega)
theorem same_true (l : List S44) (hl : l.length ≤ 1000000) : glacisref20_Same.f (l.length + 1) l l = some true := by
  unfold glacisref20_Same.f
  rw [if_pos rfl]
  exact same_loop l hl l.length _ 0 (by omega) (by omega) (by omega)
theorem same_calls (A0 A1 : Option Addr) (c0 c1 : Nat) (l : List S44) (w : World) (hl : l.length ≤ 1000000) (h0 : k44.C w A0 l.length l) (hc0 : l.length ≤ c0) (h1 : k44.C w A1 l.length l) (hc1 : l.length ≤ c1) :
    Calls Try.prog 16 #[.slice A0 l.length c0, .slice A1 l.length c1] w fun e w' => e = .returned (.bool true) ∧ Drawn0 w w' :=
  glacisref20_Same.calls (l.length + 1) A0 c0 l A1 c1 l true w h0 hc0 h1 hc1 (same_true l hl)

/-- A list that is written out. -/
def noteCells (l : List S44) : List Value := l.flatMap fun x => [.int .i64 x.f0, .int .i64 x.f1, .int .i64 x.f2, .int .i64 x.f3, .string x.f4]
theorem noteCells_reps (W : World) : ∀ l : List S44, Reps (k44.K W) 5 l (noteCells l) := by
  have : ∀ l : List S44, Reps (k44.K W) 5 l.reverse (noteCells l.reverse) := by
    intro l
    induction l with
    | nil => exact Reps.none _ _
    | cons x l ih =>
      rw [List.reverse_cons]
      have e : noteCells (l.reverse ++ [x]) = noteCells l.reverse ++ [.int .i64 x.f0, .int .i64 x.f1, .int .i64 x.f2, .int .i64 x.f3, .string x.f4] := by simp [noteCells]
      rw [e]
      exact Reps.snoc ih (k44_mk W x) rfl
  intro l
  have h := this l.reverse
  rwa [List.reverse_reverse] at h
theorem note_lit (W : World) (l : List S44) (hl : l.length ≤ 1000000) : k44.C (W.alloc (.cells (noteCells l).toArray 44)) (some ⟨W.heap.size, 0, none⟩) l.length l := by
  have h := World.ownsRow_lit (base := 0) (e := 44) (size := 5) W (noteCells l).toArray l.length (Nat.zero_le _) (by unfold maxLen; omega) (by
    have := (noteCells_reps W l).1
    simpa using this)
  obtain ⟨A, c, hv, hr⟩ := own_reads_row h (by simpa using noteCells_reps (W.alloc (.cells (noteCells l).toArray 44)) l) rfl
  injection hv with h1 h2 h3
  rw [h1]
  exact hr

theorem C_turn {w w1 : World} {A : Option Addr} {n : Nat} {l : List S44} {S : Nat → Prop} (h : k44.C w A n l) (ht : Turn S w w1) (hd : ∀ ad, A = some ad → 0 < n → ¬ S ad.block) : k44.C w1 A n l := by
  refine ⟨h.1, h.2.1, fun hn => ?_⟩
  obtain ⟨ad, e, hc⟩ := h.2.2 hn
  refine ⟨ad, e, fun j p hj => ?_⟩
  obtain ⟨c, hs, hr, hcell⟩ := hc j p hj
  refine ⟨c, hs, ?_, fun i u hu => ?_⟩
  · rw [k44_open hr]; exact k44_mk _ _
  · have h1 := hcell i u hu
    have hlt := World.block_lt_of_cell? w _ h1
    have hbk : (ad.add (j * k44.sz + i)).block = ad.block := by unfold Addr.add; split <;> rfl
    rw [hbk] at hlt
    have h2 := ht.block ad.block hlt (hd ad e hn)
    rw [← hbk] at h2
    rw [World.cell?_of_block (w := w) h2]
    exact h1
/-- One ledger, apart from the blocks P. -/
def LedG (w : World) (b : Nat) (P : Nat → Prop) (g : Nat) (s : LSt) : Prop := (∀ k, P k → k < w.heap.size) ∧ ∃ S : Nat → Prop, (∀ k, S k → ¬ P k) ∧ LedIn w b S g s
theorem LedG.below {w w1 : World} {b g : Nat} {P : Nat → Prop} {s : LSt} (h : LedG w b P g s) (hb : Below w.heap.size w w1) : LedG w1 b P g s := by
  obtain ⟨hP, S, hS, h⟩ := h
  exact ⟨fun k hk => Nat.lt_of_lt_of_le (hP k hk) hb.size, S, hS, h.below hb⟩
/-- What is new since is apart, too. -/
theorem LedG.more {w w1 : World} {b g : Nat} {P : Nat → Prop} {s : LSt} (h : LedG w b P g s) (hb : Below w.heap.size w w1) : LedG w1 b (fun k => P k ∨ (w.heap.size ≤ k ∧ k < w1.heap.size)) g s := by
  obtain ⟨hP, S, hS, h⟩ := h
  exact ⟨fun k hk => hk.elim (fun h => Nat.lt_of_lt_of_le (hP k h) hb.size) (fun h => h.2), S, fun k hk hp => hp.elim (hS k hk) (fun h2 => by have := (h.2.1 k hk).2; omega), h.below hb⟩
theorem LedG.fine {w : World} {b g : Nat} {P : Nat → Prop} {s : LSt} (h : LedG w b P g s) : s.fine := by
  obtain ⟨_, S, hS, h⟩ := h
  exact h.1
theorem add_callsG (g b : Nat) (P : Nat → Prop) (s : LSt) (A : Option Addr) (c : Nat) (l : List S44) (w : World) (hbw : b ≤ w.heap.size) (h : LedG w b P g s) (hl : k44.C w A l.length l) :
    Calls Try.prog 14 #[.pointer (some ⟨g, 0, none⟩), .slice A l.length c] w fun e w' => e = .returned (.int .i64 (addTo s l).1) ∧ LedG w' b P g (addTo s l).2 ∧ Turn (fun k => ¬ P k ∧ b ≤ k) w w' := by
  obtain ⟨hP, S, hS, h⟩ := h
  refine (add_calls g b S s A c l w hbw h hl).mono ?_
  rintro e w' ⟨rfl, h1, h2⟩
  exact ⟨rfl, ⟨fun k hk => Nat.lt_of_lt_of_le (hP k hk) h2.size, _, fun k hk => hk.elim (hS k) (fun h hp => by have := hP k hp; omega), h1⟩, h2.mono (fun k hk => ⟨hS k hk, (h.2.1 k hk).1⟩)⟩
theorem shut_callsG (g b : Nat) (P : Nat → Prop) (s : LSt) (w : World) (h : LedG w b P g s) :
    Calls Try.prog 12 #[.pointer (some ⟨g, 0, none⟩)] w fun e w' => e = .returned (.bool (!s.shut)) ∧ LedG w' b P g { s with shut := true } ∧ Turn (fun k => ¬ P k ∧ b ≤ k) w w' := by
  obtain ⟨hP, S, hS, hf, hSb, hg, v, hb, hr⟩ := h
  refine (shut_calls g v s.most s.shut w hb).mono ?_
  rintro e w' ⟨rfl, h1, h2⟩
  exact ⟨rfl, ⟨fun k hk => Nat.lt_of_lt_of_le (hP k hk) h2.size, S, hS, hf, fun k hk => ⟨(hSb k hk).1, Nat.lt_of_lt_of_le (hSb k hk).2 h2.size⟩, hg, v, h1, Kd.R_move hr (fun k hk => h2.block k (hSb k hk.1).2 hk.2)⟩, h2.mono (fun k hk => by rw [hk]; exact ⟨hS g hg, (hSb g hg).1⟩)⟩
theorem room_callsG (g b : Nat) (P : Nat → Prop) (s : LSt) (w : World) (h : LedG w b P g s) :
    Calls Try.prog 19 #[.pointer (some ⟨g, 0, none⟩)] w fun e w' => e = .returned (.int .i64 (s.most - s.notes.length)) ∧ Drawn0 w w' := by
  obtain ⟨_, S, hS, h⟩ := h
  exact room_calls g b S s w h
/-- What came in lies in what was there. -/
theorem C_lt {w : World} {A : Option Addr} {n : Nat} {l : List S44} (h : k44.C w A n l) (ad : Addr) (e : A = some ad) (hn : 0 < n) : ad.block < w.heap.size := by
  subst e
  obtain ⟨ad', e, c0, _⟩ := at_T44 h 0 (by omega) (by omega)
  cases e
  have := World.block_lt_of_cell? w _ c0
  simpa [Addr.add] using this
/-- A list that is read: its notes, where it lies. -/
def Reads (w : World) (P : Nat → Prop) (A : Option Addr) (c : Nat) (l : List S44) : Prop := k44.C w A l.length l ∧ l.length ≤ c ∧ ∀ ad, A = some ad → 0 < l.length → P ad.block
theorem Reads.turn {w w1 : World} {P S : Nat → Prop} {A : Option Addr} {c : Nat} {l : List S44} (h : Reads w P A c l) (ht : Turn S w w1) (hd : ∀ k, P k → ¬ S k) : Reads w1 P A c l := ⟨C_turn h.1 ht (fun ad e hn => hd _ (h.2.2 ad e hn)), h.2.1, h.2.2⟩
theorem Reads.below {w w1 : World} {P : Nat → Prop} {A : Option Addr} {c : Nat} {l : List S44} (h : Reads w P A c l) (hb : Below w.heap.size w w1) : Reads w1 P A c l := ⟨Kd.C_below h.1 hb, h.2.1, h.2.2⟩
theorem Reads.mono {w : World} {P Q : Nat → Prop} {A : Option Addr} {c : Nat} {l : List S44} (h : Reads w P A c l) (hd : ∀ k, P k → Q k) : Reads w Q A c l := ⟨h.1, h.2.1, fun ad e hn => hd _ (h.2.2 ad e hn)⟩
theorem from_callsG (g b : Nat) (P : Nat → Prop) (s : LSt) (at_ : Int) (hi0 : -9223372036854775808 ≤ at_) (hi1 : at_ ≤ 9223372036854775807) (w : World) (h : LedG w b P g s) :
    Calls Try.prog 17 #[.pointer (some ⟨g, 0, none⟩), .int .i64 at_] w fun e w' => ∃ A' c', e = .returned (.slice A' (fromL s.notes at_).length c') ∧ Reads w' (fun k => P k ∨ (w.heap.size ≤ k ∧ k < w'.heap.size)) A' c' (fromL s.notes at_) ∧ LedG w' b (fun k => P k ∨ (w.heap.size ≤ k ∧ k < w'.heap.size)) g s ∧ Below w.heap.size w w' := by
  have h0 := h
  obtain ⟨_, S, hS, h⟩ := h
  refine (from_calls g b S s at_ hi0 hi1 w h).mono ?_
  rintro e w' ⟨A', c', rfl, h1, h2⟩
  obtain ⟨_, hc, hC⟩ := Kd.R_reads' h1
  exact ⟨A', c', rfl, ⟨hC, hc, fun ad e _ => .inr ⟨Kd.R_base h1 ad.block (by rw [e]; rfl), Kd.R_lt h1 ad.block (by rw [e]; rfl)⟩⟩, h0.more h2, h2⟩
theorem new_goodG (m : Int) (h0 : 0 ≤ m) (h1 : m ≤ 5000) (w : World) (b : Nat) (hb : b ≤ w.heap.size) : Calls Try.prog 10 #[.int .i64 m] w fun e w' => e = .returned (.tuple #[.pointer (some ⟨w.heap.size, 0, none⟩), .int .i64 0]) ∧ LedG w' b (fun k => k < w.heap.size) w.heap.size ⟨[], m, false⟩ ∧ Below w.heap.size w w' := by
  refine (new_good m h0 h1 w b hb).mono ?_
  rintro e w' ⟨rfl, h1, h2⟩
  exact ⟨rfl, ⟨fun k hk => Nat.lt_of_lt_of_le hk h2.size, _, fun k hk => by rw [hk]; exact Nat.lt_irrefl _, h1⟩, h2⟩
def one : List S44 := [⟨7, 0, 0, 0, ⟨#[]⟩⟩]
def two : List S44 := [z44, z44]
set_option maxRecDepth 100000 in
set_option maxHeartbeats 2000000 in
theorem awake_calls (w : World) : Calls Try.prog 9 #[] w fun e w' => e = .returned (.bool true) ∧ Below w.heap.size w w' := by
  go_enter Try.func9, Try.ntmps9
  go_wp2_with fail
  refine (new_goodG 2 (by omega) (by omega) _ w.heap.size (Nat.le_refl _)).mono ?_
  rintro e w1 ⟨rfl, hl, hb⟩
  have L2 := hl.more (below_alloc (below_alloc (Below.refl w1.heap.size w1) (.cells (noteCells one).toArray 44)) (.cells (noteCells two).toArray 44))
  have B2 := below_alloc (below_alloc hb (.cells (noteCells one).toArray 44)) (.cells (noteCells two).toArray 44)
  have C1 := Kd.C_alloc (note_lit w1 one (by decide)) (.cells (noteCells two).toArray 44)
  have C2 := note_lit (w1.alloc (.cells (noteCells one).toArray 44)) two (by decide)
  obtain ⟨W2, hW2⟩ : ∃ W, W = (w1.alloc (.cells (noteCells one).toArray 44)).alloc (.cells (noteCells two).toArray 44) := ⟨_, rfl⟩
  have s2 : W2.heap.size = w1.heap.size + 2 := by rw [hW2]; simp
  rw [show (w1.alloc (.cells (noteCells one).toArray 44)).heap.size = w1.heap.size + 1 by simp] at C2
  rw [← hW2] at L2 B2 C1 C2
  obtain ⟨P, hP⟩ : ∃ P : Nat → Prop, P = fun k => k < w.heap.size ∨ w1.heap.size ≤ k ∧ k < W2.heap.size := ⟨_, rfl⟩
  rw [← hP] at L2
  have R1 : Reads W2 P (some ⟨w1.heap.size, 0, none⟩) 1 one := ⟨C1, by decide, fun ad e _ => by cases e; rw [hP]; exact .inr ⟨Nat.le_refl _, by rw [s2]; exact Nat.lt_add_of_pos_right (by omega)⟩⟩
  have R2 : Reads W2 P (some ⟨w1.heap.size + 1, 0, none⟩) 2 two := ⟨C2, by decide, fun ad e _ => by cases e; rw [hP]; exact .inr ⟨Nat.le_succ _, by rw [s2]; exact Nat.lt_succ_self _⟩⟩
  have HW2 := Lib.hid hW2
  have HL := Lib.hid L2
  have HB := Lib.hid B2
  have HR1 := Lib.hid R1
  have HR2 := Lib.hid R2
  clear hl hb hW2 L2 B2 C1 C2 s2 R1 R2 hP
  go_wp2_with fail
  rw [show (w1.alloc (.cells #[.int .i64 7, .int .i64 0, .int .i64 0, .int .i64 0, .string ⟨#[]⟩] 44)).alloc (.cells #[.int .i64 0, .int .i64 0, .int .i64 0, .int .i64 0, .string ⟨#[]⟩, .int .i64 0, .int .i64 0, .int .i64 0, .int .i64 0, .string ⟨#[]⟩] 44) = W2 from HW2.out.symm]
  clear HW2
  -- Add(one)
  refine (add_callsG w.heap.size w.heap.size P ⟨[], 2, false⟩ (some ⟨w1.heap.size, 0, none⟩) 1 one W2 HB.out.size HL.out HR1.out.1).mono ?_
  rintro e w3 ⟨rfl, hl, ht⟩
  have HL3 := Lib.hid (show LedG w3 w.heap.size P w.heap.size ⟨one, 2, false⟩ from hl)
  have HR13 := Lib.hid (HR1.out.turn ht (fun k hk h => h.1 hk))
  have HR23 := Lib.hid (HR2.out.turn ht (fun k hk h => h.1 hk))
  have HB3 := Lib.hid ((show Below w.heap.size w w3 from HB.out.trans (ht.below HB.out.size (fun k hk => hk.2))))
  rw [show (addTo ⟨[], 2, false⟩ one).1 = 0 from rfl]
  clear hl ht HL HR1 HR2 HB W2
  go_wp2_with fail
  -- Add(two)
  refine (add_callsG w.heap.size w.heap.size P ⟨one, 2, false⟩ (some ⟨w1.heap.size + 1, 0, none⟩) 2 two w3 HB3.out.size HL3.out HR23.out.1).mono ?_
  rintro e w4 ⟨rfl, hl, ht⟩
  have HL4 := Lib.hid (show LedG w4 w.heap.size P w.heap.size ⟨one, 2, false⟩ from hl)
  have HR14 := Lib.hid (HR13.out.turn ht (fun k hk h => h.1 hk))
  have HB4 := Lib.hid ((show Below w.heap.size w w4 from HB3.out.trans (ht.below HB3.out.size (fun k hk => hk.2))))
  rw [show (addTo ⟨one, 2, false⟩ two).1 = 200 from rfl]
  clear hl ht HL3 HR13 HR23 HB3 w3
  go_wp2_with fail
  -- Room
  refine (room_callsG w.heap.size w.heap.size P ⟨one, 2, false⟩ w4 HL4.out).mono ?_
  rintro e w5 ⟨rfl, hd⟩
  rw [show ((⟨one, 2, false⟩ : LSt).most - ((⟨one, 2, false⟩ : LSt).notes.length : Int)) = 1 from rfl]
  have HL5 := Lib.hid (HL4.out.below hd.below)
  have HR15 := Lib.hid (HR14.out.below hd.below)
  have HB5 := Lib.hid (below_then HB4.out HB4.out.size hd.below)
  clear hd HL4 HR14 HB4 w4
  go_wp2_with fail
  -- Add(one)
  refine (add_callsG w.heap.size w.heap.size P ⟨one, 2, false⟩ (some ⟨w1.heap.size, 0, none⟩) 1 one w5 HB5.out.size HL5.out HR15.out.1).mono ?_
  rintro e w6 ⟨rfl, hl, ht⟩
  have HL6 := Lib.hid (show LedG w6 w.heap.size P w.heap.size ⟨one ++ one, 2, false⟩ from hl)
  have HB6 := Lib.hid ((show Below w.heap.size w w6 from HB5.out.trans (ht.below HB5.out.size (fun k hk => hk.2))))
  rw [show (addTo ⟨one, 2, false⟩ one).1 = 0 from rfl]
  clear hl ht HL5 HR15 HB5 w5
  go_wp2_with fail
  -- From(1)
  refine (from_callsG w.heap.size w.heap.size P ⟨one ++ one, 2, false⟩ 1 (by omega) (by omega) w6 HL6.out).mono ?_
  rintro e w7 ⟨A', c', rfl, hR, hL, hb⟩
  obtain ⟨P7, hP7⟩ : ∃ P7 : Nat → Prop, P7 = fun k => P k ∨ w6.heap.size ≤ k ∧ k < w7.heap.size := ⟨_, rfl⟩
  rw [← hP7] at hR hL
  have HL7 := Lib.hid hL
  have HB7 := Lib.hid (below_then HB6.out HB6.out.size hb)
  have HR7 := Lib.hid (show Reads w7 P7 A' c' one from hR)
  rw [show (fromL (⟨one ++ one, 2, false⟩ : LSt).notes 1).length = 1 from rfl]
  clear hR hL hb HL6 HB6 hP7 w6
  go_wp2_with fail
  -- Shut
  refine (shut_callsG w.heap.size w.heap.size P7 ⟨one ++ one, 2, false⟩ w7 HL7.out).mono ?_
  rintro e w8 ⟨rfl, hl, ht⟩
  have HL8 := Lib.hid (show LedG w8 w.heap.size P7 w.heap.size ⟨one ++ one, 2, true⟩ from hl)
  have HB8 := Lib.hid ((show Below w.heap.size w w8 from HB7.out.trans (ht.below HB7.out.size (fun k hk => hk.2))))
  have HR8 := Lib.hid (HR7.out.turn ht (fun k hk h => h.1 hk))
  clear hl ht HL7 HB7 HR7 w7
  go_wp2_with fail
  refine (shut_callsG w.heap.size w.heap.size P7 ⟨one ++ one, 2, true⟩ w8 HL8.out).mono ?_
  rintro e w9 ⟨rfl, hl, ht⟩
  have HL9 := Lib.hid (show LedG w9 w.heap.size P7 w.heap.size ⟨one ++ one, 2, true⟩ from hl)
  have HB9 := Lib.hid ((show Below w.heap.size w w9 from HB8.out.trans (ht.below HB8.out.size (fun k hk => hk.2))))
  have HR9 := Lib.hid (HR8.out.turn ht (fun k hk h => h.1 hk))
  clear hl ht HL8 HB8 HR8 w8
  go_wp2_with fail
  -- Add(nil)
  refine (add_callsG w.heap.size w.heap.size P7 ⟨one ++ one, 2, true⟩ none 0 [] w9 HB9.out.size HL9.out (Kd.C_nil _ _)).mono ?_
  rintro e wa ⟨rfl, hl, ht⟩
  have HBa := Lib.hid ((show Below w.heap.size w wa from HB9.out.trans (ht.below HB9.out.size (fun k hk => hk.2))))
  have hRa := HR9.out.turn ht (fun k hk h => h.1 hk)
  obtain ⟨ad, rfl, e0, _⟩ := at_T44 hRa.1 0 (by omega) (by decide)
  have hx : wa.cell? ad = some (.int .i64 (rd_T44 one 0).f0) := by simpa [Addr.add] using e0
  have hx : wa.cell? ad = some (.int .i64 7) := hx
  rw [show (addTo ⟨one ++ one, 2, true⟩ []).1 = 201 from rfl]
  clear hl ht HL9 HB9 HR9 hRa e0 w9
  go_wp2
  go_ret
  exact ⟨rfl, HBa.out⟩
end Go.Proofs.Ytpkaihjiecihlaa.L
