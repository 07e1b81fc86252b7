import Derived.Test.YtbkahblcabmdkaaFm
/-! The reference's tree: New, Get, Ancestors. -/
namespace Go.Proofs.Ytbkahblcabmdkaa.F
open Go.RowKit Go.Proofs.YtbkahblcabmdkaaW.PrintWords Go.Proofs.Ytbkahblcabmdkaa.X
set_option linter.unusedVariables false

/-- Blocks S (from b on) hold the reference's tree at g. -/
def RefIn (w : World) (b : Nat) (S : Nat → Prop) (g : Nat) (s : Tr) : Prop :=
  s.fine ∧ (∀ k, S k → b ≤ k ∧ k < w.heap.size) ∧ S g ∧ ∃ v, w.heap[g]? = some (.cells #[v, .int .i64 s.most, .int .i64 (s.last + 1)] 54 (0, 0)) ∧ Kd.R kFr 36 w b (fun k => S k ∧ k ≠ g) v s.F
theorem RefIn.move {w w1 : World} {b g : Nat} {S : Nat → Prop} {s : Tr} (h : RefIn w b S g s) (hsz : w.heap.size ≤ w1.heap.size) (hm : ∀ k, S k → w1.heap[k]? = w.heap[k]?) : RefIn w1 b S g s := by
  obtain ⟨hf, hS, hg, v, hb, hr⟩ := h
  exact ⟨hf, fun k hk => ⟨(hS k hk).1, Nat.lt_of_lt_of_le (hS k hk).2 hsz⟩, hg, v, (hm g hg).trans hb, Kd.R_move hr (fun k hk => hm k hk.1)⟩
theorem RefIn.below {w w1 : World} {b g : Nat} {S : Nat → Prop} {s : Tr} (h : RefIn w b S g s) (hb : Below w.heap.size w w1) : RefIn w1 b S g s := h.move hb.size (fun k hk => hb.block k (h.2.1 k hk).2)
theorem RefIn.turn {w w1 : World} {b g : Nat} {S T : Nat → Prop} {s : Tr} (h : RefIn w b S g s) (ht : Turn T w w1) (hd : ∀ k, S k → ¬ T k) : RefIn w1 b S g s := h.move ht.size (fun k hk => ht.block k (h.2.1 k hk).2 (hd k hk))
set_option maxRecDepth 100000 in
theorem ref_new_bad (m : Int) (hm : m < 1 ∨ 200 < m) (w : World) : Calls Try.prog 20 #[.int .i64 m] w fun e w' => e = .returned (.tuple #[.pointer none, .int .i64 1]) ∧ w = w' := by
  by_cases h0 : m < 1
  · go_enter Try.func20, Try.ntmps20
    go_wp2
    go_ret2
    exact ⟨rfl, rfl⟩
  · have h1 : 200 < m := by omega
    go_enter Try.func20, Try.ntmps20
    go_wp2
    go_ret2
    exact ⟨rfl, rfl⟩
set_option maxRecDepth 100000 in
theorem ref_new_good (m : Int) (h0 : 1 ≤ m) (h1 : m ≤ 200) (w : World) (b : Nat) (hb : b ≤ w.heap.size) (hf : (fresh m).fine) : Calls Try.prog 20 #[.int .i64 m] w fun e w' => e = .returned (.tuple #[.pointer (some ⟨w.heap.size, 0, none⟩), .int .i64 0]) ∧ RefIn w' b (fun k => k = w.heap.size) w.heap.size (fresh m) ∧ Below w.heap.size w w' := by
  have hu := Try.underlying54
  have HF := Lib.hid hf
  clear hf
  go_enter Try.func20, Try.ntmps20
  go_wp2
  go_ret2
  refine ⟨rfl, ⟨HF.out, fun k hk => ⟨by rw [hk]; exact hb, by rw [hk]; simp⟩, rfl, _, (MapKept.heap_alloc _ _).1, Kd.R_nil _ _ _ _ _⟩, (Below.refl _ _).alloc (Nat.le_refl _) _⟩
theorem getF_none {F : List Fr} {k : Int} (h : ∀ f ∈ F, f.f0 ≠ k) : getF F k = none := by
  rw [getF_find, List.find?_eq_none]
  intro f hf e
  exact h f hf (by simpa using e)
theorem rd_Fr (F : List Fr) (k : Nat) (hk : k < F.length) : rd_T36 F (k : Int) = F[k] := by unfold rd_T36; simp [hk]
set_option maxRecDepth 100000 in
set_option maxHeartbeats 1000000 in
theorem ref_get (g b : Nat) (S : Nat → Prop) (s : Tr) (id : Int) (w : World) (h : RefIn w b S g s) :
    Calls Try.prog 32 #[.pointer (some ⟨g, 0, none⟩), .int .i64 id] w fun e w' => e = .returned (.tuple #[frV ((getF s.F id).getD z0), .int .i64 (if (getF s.F id).isSome = true then 0 else 161)]) ∧ Below w.heap.size w w' := by
  obtain ⟨hfine, hS, hg, v, hb, hr⟩ := h
  obtain ⟨A, c, rfl⟩ := Kd.R_slice hr
  have hlen : s.F.length ≤ 200 := by have := hfine.room; have := hfine.m1; omega
  have c0 : (w.alloc (.cells #[.int .i64 0, .int .i64 0, .int .i64 0] 36)).cell? ⟨g, 0, none⟩ = some (.slice A s.F.length c) := blk_cell (blk_alloc hb _) 0
  have HC := Lib.hid (Kd.C_alloc (Kd.R_reads' hr).2.2 (.cells #[.int .i64 0, .int .i64 0, .int .i64 0] 36))
  have HF := Lib.hid hfine
  obtain ⟨er, her⟩ : ∃ x : Int, x = (if (getF s.F id).isSome = true then 0 else 161) := ⟨_, rfl⟩
  obtain ⟨an, han⟩ : ∃ x : Fr, x = (getF s.F id).getD z0 := ⟨_, rfl⟩
  rw [← her, ← han]
  have HER := Lib.hid her
  have HAN := Lib.hid han
  clear hb hr hfine hS hg her han
  go_enter Try.func32, Try.ntmps32
  go_wp2_with fail
  go_loopw [6] (fun i wr => ∃ k : Nat, k ≤ s.F.length ∧ i = .int .i64 k ∧ Hid (∀ f ∈ s.F.take k, f.f0 ≠ id) ∧ Hid (wr = w.alloc (.cells #[.int .i64 0, .int .i64 0, .int .i64 0] 36))) (fun i _ => s.F.length - (RowKit.intOf i).toNat)
  case atStart => exact ⟨0, Nat.zero_le _, rfl, Lib.hid (fun f hf => by simp at hf), Lib.hid rfl⟩
  case round =>
    obtain ⟨k, hk, rfl, HN, HW⟩ := hrel
    obtain rfl := HW.out
    clear HW
    by_cases hlt : k < s.F.length
    · obtain ⟨ad, e1, q0, q1, q2⟩ := at_T36 HC.out (k : Int) (by omega) (by omega)
      subst e1
      have hcast : (k : Int).toNat = k := by omega
      rw [hcast, rd_Fr _ _ hlt] at q0 q1 q2
      have HG := Lib.hid (getF_of_mem HF.out (List.getElem_mem hlt))
      have HNX : Hid (s.F[k].f0 ≠ id → ∀ f ∈ s.F.take (k + 1), f.f0 ≠ id) := Lib.hid (fun hne f hf => by
        rw [List.take_succ_eq_append_getElem hlt] at hf
        rcases List.mem_append.1 hf with hf | hf
        · exact HN.out f hf
        · rw [List.mem_singleton] at hf; rw [hf]; exact hne)
      obtain ⟨f, hf⟩ : ∃ f, f = s.F[k] := ⟨_, rfl⟩
      rw [← hf] at q0 q1 q2 HG HNX
      clear hcast hf HN
      obtain ⟨n, hn⟩ : ∃ n, n = s.F.length := ⟨_, rfl⟩
      rw [← hn] at hlt hk c0 HC hlen ⊢
      have HNN := Lib.hid hn
      clear hn
      by_cases he : f.f0 = id
      · have hG := HG.out
        rw [he] at hG
        have HGI := Lib.hid hG
        have hd : (f.f0 == id) = true := by simpa using he
        clear hG HNX HG HC
        have HE := Lib.hid he
        clear he
        go_wp2
        exact bodyPost_ret (v := .tuple #[.agg #[.int .i64 f.f0, .int .i64 f.f1, .int .i64 f.f2], .int .i64 0]) (by simp [results, Try.results32, go_sem]) rfl ⟨by rw [HER.out, HAN.out, HGI.out]; rfl, below_alloc (Below.refl _ _) _⟩
      · have hd : (f.f0 == id) = false := by simpa using he
        have HN2 := Lib.hid (HNX.out he)
        clear HNX HG he HC
        go_wp2
        go_roundw
        case rel => exact ⟨k + 1, by omega, by simp, HN2, Lib.hid trivial⟩
        case measure => simp [RowKit.intOf]; omega
    · obtain rfl : k = s.F.length := by omega
      have hno := HN.out
      rw [List.take_length] at hno
      have HGI := Lib.hid (getF_none hno)
      clear hno HN
      go_wp2
      exact bodyPost_ret (v := .tuple #[.agg #[.int .i64 0, .int .i64 0, .int .i64 0], .int .i64 161]) (by simp [results, Try.results32, go_sem]) rfl ⟨by rw [HER.out, HAN.out, HGI.out]; rfl, below_alloc (Below.refl _ _) _⟩
end Go.Proofs.Ytbkahblcabmdkaa.F
