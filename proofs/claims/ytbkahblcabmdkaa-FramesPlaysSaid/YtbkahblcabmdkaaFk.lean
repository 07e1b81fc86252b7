import Derived.Test.YtbkahblcabmdkaaFj
/-! A script played on a tree. -/
namespace Go.Proofs.Ytbkahblcabmdkaa.F
open Go.RowKit Go.Proofs.YtbkahblcabmdkaaW.PrintWords Go.Proofs.Ytbkahblcabmdkaa.X
set_option linter.unusedVariables false

/-- A call of a script. -/
structure Cl where
  kd : Int
  nn : Int
  mm : Int
def zCl : Cl := ⟨0, 0, 0⟩
def kCl : Kd Cl := Kd.iso (Kd.pair (Kd.int .i64) (Kd.pair (Kd.int .i64) (Kd.int .i64))) (fun x : Cl => (x.kd, x.nn, x.mm))
theorem kCl_open {w : World} {x : Cl} {cs : List Value} (h : kCl.K w x cs) : cs = [.int .i64 x.kd, .int .i64 x.nn, .int .i64 x.mm] := by
  obtain ⟨_, _, rfl, rfl, ⟨_, _, rfl, rfl, rfl⟩⟩ := h
  exact rfl
theorem at_Cl {w : World} {A : Option Addr} {n : Nat} {xs : List Cl} (h : Kd.C kCl w A n xs) (k : Nat) (hk : k < xs.length) : ∃ ad, A = some ad ∧ w.cell? (ad.add (k * 3)) = some (.int .i64 xs[k].kd) ∧ w.cell? ⟨(ad.add (k * 3)).block, (ad.add (k * 3)).off + 1, none⟩ = some (.int .i64 xs[k].nn) ∧ w.cell? ⟨(ad.add (k * 3)).block, (ad.add (k * 3)).off + 2, none⟩ = some (.int .i64 xs[k].mm) := by
  have hn := h.1
  obtain ⟨ad, c, e, _, hK, hc0⟩ := Kd.C_get h zCl (k : Int) (by omega) (by omega)
  have hc : ∀ j u, c[j]? = some u → w.cell? (ad.add ((k : Int).toNat * 3 + j)) = some u := hc0
  have hx : xs.getD (k : Int).toNat zCl = xs[k] := by simp [hk]
  rw [hx] at hK
  obtain rfl := kCl_open hK
  have hcast : (k : Int).toNat = k := by omega
  rw [hcast] at hc
  exact ⟨ad, e, hc 0 _ rfl, by rw [← add_field _ _ 1 (by omega)]; exact hc 1 _ rfl, by rw [← add_field _ _ 2 (by omega)]; exact hc 2 _ rfl⟩
/-- The numbers that were given: 1, 2 .. -/
def rng (n : Int) : List Int := (List.range n.toNat).map fun i : Nat => (i : Int) + 1
theorem rng_succ (n : Int) (h : 0 ≤ n) : rng (n + 1) = rng n ++ [n + 1] := by
  unfold rng
  rw [show (n + 1).toNat = n.toNat + 1 by omega, List.range_succ, List.map_append]
  simp [Int.toNat_of_nonneg h]
theorem rng_len (n : Int) : (rng n).length = n.toNat := by simp [rng]
def stepP (s : Tr) (c : Cl) : Tr :=
  if c.kd = 1 then (addF s c.nn).2.2 else if c.kd = 2 then (remF s c.nn).2.2 else if c.kd = 3 then ⟨s.most, s.last, setF s.F c.nn c.mm⟩ else s
def playF (m : Int) (sc : List Cl) : Tr := sc.foldl stepP (fresh m)
theorem addF_cases (s : Tr) (p : Int) : ((addF s p).2.1 ≠ 0 ∧ (addF s p).2.2 = s) ∨ ((addF s p).2.1 = 0 ∧ (addF s p).1 = s.last + 1 ∧ (addF s p).2.2 = ⟨s.most, s.last + 1, s.F ++ [⟨s.last + 1, p, 0⟩]⟩) := by
  unfold addF
  split
  · exact .inl ⟨by show (161 : Int) ≠ 0; omega, rfl⟩
  · split
    · exact .inl ⟨by show (160 : Int) ≠ 0; omega, rfl⟩
    · exact .inr ⟨rfl, rfl, rfl⟩
theorem addF_fine {s : Tr} (h : s.fine) (p : Int) (hl : s.last < 4611686018427387904) : (addF s p).2.2.fine := by
  unfold addF
  split
  · exact h
  · rename_i h1
    split
    · exact h
    · rename_i h2
      refine add_fine h p ?_ (by omega) (by omega) hl
      by_cases hp : p = 0
      · exact .inl hp
      · right
        cases hg : getF s.F p with
        | none => exact absurd ⟨hp, hg⟩ h1
        | some x => rfl
theorem stepP_last (s : Tr) (c : Cl) (h : 0 ≤ s.last) : 0 ≤ (stepP s c).last ∧ (stepP s c).last ≤ s.last + 1 := by
  unfold stepP
  split
  · rcases addF_cases s c.nn with ⟨_, h1⟩ | ⟨_, _, h1⟩
    · rw [h1]; omega
    · rw [h1]; simp only; omega
  · split
    · show 0 ≤ s.last ∧ s.last ≤ s.last + 1; omega
    · split
      · show 0 ≤ s.last ∧ s.last ≤ s.last + 1; omega
      · omega
theorem stepP_fine {s : Tr} (h : s.fine) (c : Cl) (hl : s.last < 4611686018427387904) : (stepP s c).fine := by
  unfold stepP
  split
  · exact addF_fine h c.nn hl
  · split
    · exact remF_fine h c.nn
    · split
      · exact setF_fine h c.nn c.mm
      · exact h
theorem stepP_most (s : Tr) (c : Cl) : (stepP s c).most = s.most := by
  unfold stepP
  split
  · rcases addF_cases s c.nn with ⟨_, h1⟩ | ⟨_, _, h1⟩ <;> rw [h1]
  · split
    · rfl
    · split <;> rfl
theorem play_take (m : Int) (sc : List Cl) (k : Nat) (hk : k < sc.length) : playF m (sc.take (k + 1)) = stepP (playF m (sc.take k)) sc[k] := by
  unfold playF
  rw [List.take_succ_eq_append_getElem hk, List.foldl_append]
  rfl
theorem play_last (m : Int) (sc : List Cl) : ∀ k, 0 ≤ (playF m (sc.take k)).last ∧ (playF m (sc.take k)).last ≤ k
  | 0 => ⟨Int.le_refl _, Int.le_refl _⟩
  | k + 1 => by
    have ih := play_last m sc k
    by_cases hk : k < sc.length
    · rw [play_take m sc k hk]
      have := stepP_last (playF m (sc.take k)) sc[k] ih.1
      omega
    · rw [List.take_of_length_le (by omega)]
      rw [List.take_of_length_le (by omega)] at ih
      omega
theorem play_most (m : Int) (sc : List Cl) : ∀ k, (playF m (sc.take k)).most = m
  | 0 => rfl
  | k + 1 => by
    by_cases hk : k < sc.length
    · rw [play_take m sc k hk, stepP_most, play_most m sc k]
    · have ih := play_most m sc k
      rw [List.take_of_length_le (by omega)]
      rw [List.take_of_length_le (by omega)] at ih
      exact ih
theorem R_turn {α : Type} {d : Kd α} {e : TypeId} {w w1 : World} {b : Nat} {ok S : Nat → Prop} {v : Value} {xs : List α} (h : d.R e w b ok v xs) (ht : Turn S w w1) (hS : ∀ i, ok i → ¬ S i) : d.R e w1 b ok v xs :=
  Kd.R_mono (Kd.R_move (Kd.R_bound h) (fun k hk => ht.block k hk.2.2.1 (hS k hk.1))) (fun k hk => hk.1)
/-- Between two rounds. -/
structure PSt (w : World) (g bm : Nat) (s : Tr) (v : Value) (wr : World) : Prop where
  tr : TreeIn wr g bm s
  ids : Kd.R (Kd.int .i64) 3 wr w.heap.size (fun i => i ≠ g ∧ i ≠ bm) v (rng s.last)
  below : Below w.heap.size w wr
theorem PSt.turn {w : World} {g bm : Nat} {s s' : Tr} {v : Value} {wr w2 : World} (h : PSt w g bm s v wr) (hg : w.heap.size ≤ g ∧ w.heap.size ≤ bm) (hT : TreeIn w2 g bm s') (hU : Turn (fun i => i = g ∨ i = bm) wr w2) (hl : s'.last = s.last) : PSt w g bm s' v w2 :=
  ⟨hT, by rw [hl]; exact R_turn h.ids hU (fun i hi h1 => by rcases h1 with h1 | h1; exact hi.1 h1; exact hi.2 h1), below_turn h.below h.below.size hU (fun i hi => by rcases hi with rfl | rfl; exact hg.1; exact hg.2)⟩
theorem PSt.alloc {w : World} {g bm : Nat} {s : Tr} {v : Value} {wr : World} (h : PSt w g bm s v wr) (o : Obj) : PSt w g bm s v (wr.alloc o) :=
  ⟨h.tr.below (below_alloc (Below.refl _ _) o), Kd.R_below h.ids (below_alloc (Below.refl _ _) o), below_alloc h.below o⟩
set_option maxRecDepth 100000 in
theorem played_bad (m : Int) (hm : m < 1 ∨ 200 < m) (A : Option Addr) (c : Nat) (sc : List Cl) (w : World) :
    Calls Try.prog 10 #[.int .i64 m, .slice A sc.length c] w fun e w' => e = .returned (.tuple #[.pointer none, .slice none 0 0]) ∧ Below w.heap.size w w' := by
  go_enter Try.func10, Try.ntmps10
  go_wp2_with fail
  refine (new_bad m hm w).mono ?_
  rintro e w1 ⟨rfl, rfl⟩
  go_wp2_with fail
  go_loopw [8, 9] (fun v i wr => v = .slice none 0 0 ∧ i = .int .i64 0 ∧ Hid (Below w.heap.size w wr)) (fun _ _ _ => 0)
  case atStart => exact ⟨rfl, rfl, Below.refl _ _⟩
  case round =>
    obtain ⟨rfl, rfl, HB⟩ := hrel
    by_cases hz : (0 : Int) < (sc.length : Int)
    · have hd : decide ((0 : Int) < (sc.length : Int)) = true := decide_eq_true hz
      have hd2 : decide (0 < sc.length) = true := decide_eq_true (by omega)
      go_wp2
      go_ret2
      exact ⟨rfl, HB.out⟩
    · have hd : decide ((0 : Int) < (sc.length : Int)) = false := decide_eq_false hz
      have hd2 : decide (0 < sc.length) = false := decide_eq_false (by omega)
      go_wp2
      go_ret2
      exact ⟨rfl, HB.out⟩
set_option maxRecDepth 100000 in
set_option maxHeartbeats 2000000 in
theorem played_good (m : Int) (h0 : 1 ≤ m) (h1 : m ≤ 200) (A : Option Addr) (c : Nat) (sc : List Cl) (w : World) (hC : Kd.C kCl w A sc.length sc) (hq : ∀ x ∈ sc, -9223372036854775808 ≤ x.nn ∧ x.nn ≤ 9223372036854775807) :
    Calls Try.prog 10 #[.int .i64 m, .slice A sc.length c] w fun e w' => ∃ g bm v, e = .returned (.tuple #[.pointer (some ⟨g, 0, none⟩), v]) ∧ w.heap.size ≤ g ∧ w.heap.size ≤ bm ∧ PSt w g bm (playF m (sc.take 120)) v w' := by
  have HC := Lib.hid hC
  have HQ := Lib.hid hq
  have hsl : sc.length ≤ 9223372036854775807 := HC.out.2.1
  clear hC hq
  go_enter Try.func10, Try.ntmps10
  go_wp2_with fail
  refine (new_good m h0 h1 w).mono ?_
  rintro e w1 ⟨rfl, hT, hb⟩
  obtain ⟨g, hg⟩ : ∃ k, k = w.heap.size + 1 := ⟨_, rfl⟩
  obtain ⟨bm, hbm⟩ : ∃ k, k = w.heap.size := ⟨_, rfl⟩
  rw [← hg] at hT ⊢
  have HGB : Hid (w.heap.size ≤ g ∧ w.heap.size ≤ bm) := Lib.hid (by omega)
  rw [show TreeIn w1 g w.heap.size (fresh m) = TreeIn w1 g bm (fresh m) by rw [hbm]] at hT
  have HP := Lib.hid (show PSt w g bm (fresh m) (.slice none 0 0) w1 from ⟨hT, Kd.R_nil _ _ _ _ _, hb⟩)
  clear hT hb hg hbm
  go_wp2_with fail
  go_loopw [8, 9] (fun v i wr => ∃ k : Nat, k ≤ sc.length ∧ k ≤ 120 ∧ i = .int .i64 k ∧ Hid (PSt w g bm (playF m (sc.take k)) v wr)) (fun _ i _ => sc.length - (RowKit.intOf i).toNat)
  case atStart => exact ⟨0, Nat.zero_le _, by omega, rfl, HP.out⟩
  case round =>
    clear HP
    obtain ⟨k, hk, hk2, rfl, HP⟩ := hrel
    by_cases hlt : k < sc.length
    · by_cases hlt2 : k < 120
      · have hd2 : decide ((k : Int) < 120) = true := decide_eq_true (by omega)
        have hd3 : decide (k < 120) = true := decide_eq_true hlt2
        obtain ⟨ad, e1, g0, g1, g2⟩ := at_Cl (Kd.C_below HC.out HP.out.below) k hlt
        subst e1
        have hqx := HQ.out _ (List.getElem_mem hlt)
        have HNX := Lib.hid (play_take m sc k hlt)
        have hpl := play_last m sc k
        obtain ⟨x, hx⟩ : ∃ x, x = sc[k] := ⟨_, rfl⟩
        rw [← hx] at g0 g1 g2 hqx HNX
        obtain ⟨s, hs⟩ : ∃ s, s = playF m (sc.take k) := ⟨_, rfl⟩
        rw [← hs] at HP HNX hpl
        clear hx hs
        obtain ⟨kd, nn, mm⟩ := x
        dsimp only at g0 g1 g2 hqx
        have HPA := Lib.hid (HP.out.alloc (.cells #[.int .i64 kd, .int .i64 nn, .int .i64 mm] 50))
        by_cases k1 : kd = 1
        · subst k1
          have hst : stepP s ⟨1, nn, mm⟩ = (addF s nn).2.2 := by unfold stepP; rw [if_pos rfl]
          rw [hst] at HNX
          clear hst
          go_wp2_with fail
          refine (add_calls g bm s nn hqx.1 hqx.2 _ HPA.out.tr (by omega)).mono ?_
          rintro e w2 ⟨rfl, hT, hU⟩
          have hac := addF_cases s nn
          obtain ⟨ai, hai⟩ : ∃ a, a = (addF s nn).1 := ⟨_, rfl⟩
          obtain ⟨ae, hae⟩ : ∃ a, a = (addF s nn).2.1 := ⟨_, rfl⟩
          rw [← hai, ← hae] at hac ⊢
          clear hai hae
          rcases hac with ⟨hne, hsame⟩ | ⟨rfl, rfl, hs2⟩
          · have HP2 := Lib.hid (HPA.out.turn HGB.out hT hU (by rw [hsame]))
            have hd4 : (ae == 0) = false := by simpa using hne
            clear hT hU hsame
            go_wp2
            go_roundw
            case rel => exact ⟨k + 1, by omega, by omega, by simp, by rw [HNX.out]; exact HP2.out⟩
            case measure => simp [RowKit.intOf]; omega
          · rw [hs2] at HNX hT
            clear hs2
            have hbt := below_turn HPA.out.below HPA.out.below.size hU (fun i hi => by have := HGB.out; rcases hi with rfl | rfl; exact this.1; exact this.2)
            have hrt := R_turn HPA.out.ids hU (fun i hi h1 => by rcases h1 with h1 | h1; exact hi.1 h1; exact hi.2 h1)
            obtain ⟨A1, c1, e2⟩ := Kd.R_slice hrt
            subst e2
            have HT2 := Lib.hid hT
            have HB2 := Lib.hid hbt
            have HR2 := Lib.hid hrt
            have HLT := Lib.hid HPA.out.tr.lt
            have hlen : (rng s.last).length ≤ 120 := by rw [rng_len]; omega
            clear hT hU hbt hrt
            go_wp2_with ((with_reducible refine gate_builtin (b := .append) (xs := #[.tmp 49, .tmp 51]) rfl ?_); at_builtin; refine Kd.R_append (Kd.int .i64) (w0 := w) w.heap.size rfl (.tmp 49) (.tmp 51) 25 3 (.int .i64 0) 8 rfl Try.underlying25 infoI rfl (by decide) (by omega) (.slice A1 (rng s.last).length c1) (rng s.last) (s.last + 1) [.int .i64 (s.last + 1)] (fun i => i ≠ g ∧ i ≠ bm) (fun _ => False) rfl rfl ?aP (fun _ hk => hk.elim) ?aF ?aO ?aB ?aS ?aL ?_; (case aP => exact rfl); (case aF => exact fun i hi => by have := HT2.out.lt; exact ⟨by omega, by omega⟩); (case aO => exact HR2.out); (case aB => exact HB2.out); (case aS => exact HB2.out.size); (case aL => omega); intro v3 w3 hown3 hb3 hg3 hat3; have HP3 := Lib.hid (show PSt w g bm ⟨s.most, s.last + 1, s.F ++ [⟨s.last + 1, nn, 0⟩]⟩ v3 w3 from ⟨HT2.out.move (hg3.block g HT2.out.lt.1 (fun e => (HR2.out.1 g e.symm).1 rfl)) (hg3.block bm HT2.out.lt.2 (fun e => (HR2.out.1 bm e.symm).2 rfl)), by rw [rng_succ _ hpl.1]; exact hown3, hb3⟩); clear hown3 hb3 hg3 hat3)
            go_roundw
            case rel => exact ⟨k + 1, by omega, by omega, by simp, by rw [HNX.out]; exact HP3.out⟩
            case measure => simp [RowKit.intOf]; omega
        · have d1 : (kd == 1) = false := by simpa using k1
          by_cases k2 : kd = 2
          · subst k2
            have hst : stepP s ⟨2, nn, mm⟩ = (remF s nn).2.2 := by unfold stepP; rw [if_neg k1, if_pos rfl]
            rw [hst] at HNX
            clear hst
            go_wp2_with fail
            refine (remove_calls g bm s nn hqx.1 hqx.2 _ HPA.out.tr).mono ?_
            rintro e w2 ⟨v2, rfl, _, hT, hU⟩
            have HP2 := Lib.hid (HPA.out.turn HGB.out hT (hU.mono (fun i hi => .inr hi)) rfl)
            clear hT hU
            go_wp2
            go_roundw
            case rel => exact ⟨k + 1, by omega, by omega, by simp, by rw [HNX.out]; exact HP2.out⟩
            case measure => simp [RowKit.intOf]; omega
          · have d2 : (kd == 2) = false := by simpa using k2
            by_cases k3 : kd = 3
            · subst k3
              have hst : stepP s ⟨3, nn, mm⟩ = ⟨s.most, s.last, setF s.F nn mm⟩ := by unfold stepP; rw [if_neg k1, if_neg k2, if_pos rfl]
              rw [hst] at HNX
              clear hst
              go_wp2_with fail
              refine (set_calls g bm s nn mm hqx.1 hqx.2 _ HPA.out.tr).mono ?_
              rintro e w2 ⟨rfl, hT, hU⟩
              have HP2 := Lib.hid (HPA.out.turn HGB.out hT (hU.mono (fun i hi => .inr hi)) rfl)
              clear hT hU
              go_wp2
              go_roundw
              case rel => exact ⟨k + 1, by omega, by omega, by simp, by rw [HNX.out]; exact HP2.out⟩
              case measure => simp [RowKit.intOf]; omega
            · have d3 : (kd == 3) = false := by simpa using k3
              have hst : stepP s ⟨kd, nn, mm⟩ = s := by unfold stepP; rw [if_neg k1, if_neg k2, if_neg k3]
              rw [hst] at HNX
              clear hst
              go_wp2
              go_roundw
              case rel => exact ⟨k + 1, by omega, by omega, by simp, by rw [HNX.out]; exact HPA.out⟩
              case measure => simp [RowKit.intOf]; omega
      · obtain rfl : k = 120 := by omega
        go_wp2
        go_ret2
        exact ⟨g, bm, _, rfl, HGB.out.1, HGB.out.2, HP.out⟩
    · obtain rfl : k = sc.length := by omega
      have HE : Hid (sc.take sc.length = sc.take 120) := Lib.hid (by rw [List.take_length, List.take_of_length_le hk2])
      go_wp2
      go_ret2
      exact ⟨g, bm, _, rfl, HGB.out.1, HGB.out.2, by rw [← HE.out]; exact HP.out⟩
end Go.Proofs.Ytbkahblcabmdkaa.F
