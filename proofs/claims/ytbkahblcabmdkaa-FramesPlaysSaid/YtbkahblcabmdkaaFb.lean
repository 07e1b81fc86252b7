import Derived.Test.YtbkahblcabmdkaaFa
import Derived.WalkKit
import Derived.Tactics
import Derived.Tactics2
import Derived.Laws.Pointers
import Derived.Laws.LoneSync
import Derived.Laws.NewBlocks
import Derived.RegionTactic
import Derived.RegionCalls
import Derived.ChangeAlike
import Derived.WalkSpells
import Derived.Deep.QuietTactic
import Derived.BigQuiet
/-! The tree: its state, Get, Set, Ancestors, Top. -/
namespace Go.Proofs.Ytbkahblcabmdkaa.F
open Go.RowKit Go.Proofs.YtbkahblcabmdkaaW.PrintWords Go.Proofs.Ytbkahblcabmdkaa.X
set_option linter.unusedVariables false

/-- From w to w' only blocks of S have turned, and new ones have come. -/
structure Turn (S : Nat → Prop) (w w' : World) : Prop where
  os : w'.os = w.os
  tape : w'.tape = w.tape
  output : w'.output = w.output
  size : w.heap.size ≤ w'.heap.size
  block : ∀ k, k < w.heap.size → ¬ S k → w'.heap[k]? = w.heap[k]?
namespace Turn
variable {S T : Nat → Prop} {a b c w w' : World}
theorem refl (S : Nat → Prop) (w : World) : Turn S w w := ⟨rfl, rfl, rfl, Nat.le_refl _, fun _ _ _ => rfl⟩
theorem drew (h : Turn S a b) : Turn S a b.drew := ⟨h.os, h.tape, h.output, h.size, h.block⟩
theorem alloc (h : Turn S a b) (o : Obj) : Turn S a (b.alloc o) := ⟨h.os, h.tape, h.output, by simp; exact Nat.le_succ_of_le h.size, fun k hk hS => (Below.heap_alloc _ _ _ (Nat.lt_of_lt_of_le hk h.size)).trans (h.block k hk hS)⟩
theorem set_ (h : Turn S a b) (p : Addr) (u : Value) (hp : S p.block ∨ a.heap.size ≤ p.block) : Turn S a (b.setCell p u) :=
  ⟨h.os, h.tape, h.output, by simpa [World.setCell] using h.size, fun k hk hS => (Below.heap_setCell _ _ _ _ (fun e => by
    rcases hp with hp | hp
    · exact hS (by rw [e]; exact hp)
    · omega)).trans (h.block k hk hS)⟩
theorem trans (h : Turn S a b) (k : Turn T b c) (hT : ∀ i, T i → S i ∨ a.heap.size ≤ i) : Turn S a c :=
  ⟨k.os.trans h.os, k.tape.trans h.tape, k.output.trans h.output, Nat.le_trans h.size k.size, fun i hi hS =>
    (k.block i (Nat.lt_of_lt_of_le hi h.size) (fun hTi => by
      rcases hT i hTi with h1 | h1
      · exact hS h1
      · omega)).trans (h.block i hi hS)⟩
theorem grown {row : Option Nat} (h : Turn S a b) (hg : b.grownBy c row) (hr : ∀ k, row = some k → S k ∨ a.heap.size ≤ k) : Turn S a c :=
  h.trans (T := fun i => row = some i) ⟨hg.os, hg.tape, hg.output, hg.size, fun k hk hne => hg.block k hk (fun e => hne e.symm)⟩ (fun i hi => hr i hi)
theorem of_below (h : Below w.heap.size w w') : Turn S w w' := ⟨h.os, h.tape, h.output, h.size, fun k hk _ => h.block k hk⟩
theorem below (h : Turn S w w') {B : Nat} (hB : B ≤ w.heap.size) (hS : ∀ k, S k → B ≤ k) : Below B w w' := ⟨h.os, h.tape, h.output, h.size, fun k hk => h.block k (by omega) (fun h1 => by have := hS k h1; omega)⟩
theorem mono (h : Turn S w w') (hS : ∀ k, S k → T k) : Turn T w w' := ⟨h.os, h.tape, h.output, h.size, fun k hk hT => h.block k hk (fun h1 => hT (hS k h1))⟩
theorem keep (h : Turn S w w') {k : Nat} {o : Obj} (hb : w.heap[k]? = some o) (hS : ¬ S k) : w'.heap[k]? = some o := (h.block k (blk_lt hb) hS).trans hb
end Turn
theorem blk_after {w W w1 : World} {g : Nat} {o : Obj} (h : w.heap[g]? = some o) (hb : Below W.heap.size W w1) (hW : W.heap = w.heap) : w1.heap[g]? = some o := by
  have hlt := blk_lt h
  rw [hb.block g (by rw [hW]; exact hlt), hW]; exact h

/-- Frames by their numbers. -/
def prs (F : List Fr) : List (Int × Fr) := F.map fun f => (f.f0, f)
def getF (F : List Fr) (k : Int) : Option Fr := look (prs F) k
def frD0 : Fr → DataW Unit := frD
def parF (F : List Fr) (k : Int) : Int := ((getF F k).getD z0).f1
def chain (F : List Fr) : Nat → Int → List Int
  | 0, _ => []
  | n + 1, a => if a = 0 then [] else a :: chain F n (parF F a)
def anc (F : List Fr) (a : Int) : List Int := chain F a.toNat a
structure Tr where
  most : Int
  last : Int
  F : List Fr
/-- What the calls keep. -/
structure Tr.fine (s : Tr) : Prop where
  m0 : 1 ≤ s.most
  m1 : s.most ≤ 200
  l0 : 0 ≤ s.last
  l1 : s.last ≤ 4611686018427387904
  rise : s.F.Pairwise (fun a b => a.f0 < b.f0)
  ids : ∀ f ∈ s.F, 1 ≤ f.f0 ∧ f.f0 ≤ s.last
  par : ∀ f ∈ s.F, f.f1 = 0 ∨ (1 ≤ f.f1 ∧ f.f1 < f.f0 ∧ (getF s.F f.f1).isSome = true)
  room : (s.F.length : Int) ≤ s.most
  deep : ∀ f ∈ s.F, (anc s.F f.f1).length ≤ 15
theorem getF_mem {F : List Fr} {k : Int} {f : Fr} (h : getF F k = some f) : f ∈ F ∧ f.f0 = k := by
  have hm := look_mem h
  obtain ⟨g, hg, e⟩ := List.mem_map.1 hm
  simp only [Prod.mk.injEq] at e
  obtain ⟨e1, rfl⟩ := e
  exact ⟨hg, e1⟩
theorem Tr.fine.nodup {s : Tr} (h : s.fine) : ((prs s.F).map (·.1)).Nodup := by
  unfold prs List.Nodup
  rw [List.map_map, List.pairwise_map]
  exact h.rise.imp (fun {a b} hab => by simp only [Function.comp]; omega)
theorem rise_inj : ∀ {F : List Fr}, F.Pairwise (fun a b => a.f0 < b.f0) → ∀ {f g : Fr}, f ∈ F → g ∈ F → g.f0 = f.f0 → g = f
  | [], _, _, _, hf, _, _ => by cases hf
  | x :: xs, hn, f, g, hf, hm, he => by
    rw [List.pairwise_cons] at hn
    rcases List.mem_cons.1 hf with e1 | hf
    · rcases List.mem_cons.1 hm with e2 | hm
      · rw [e1, e2]
      · have := hn.1 g hm; rw [e1] at he; omega
    · rcases List.mem_cons.1 hm with e2 | hm
      · have := hn.1 f hf; rw [e2] at he; omega
      · exact rise_inj hn.2 hf hm he
theorem getF_of_mem {s : Tr} (h : s.fine) {f : Fr} (hf : f ∈ s.F) : getF s.F f.f0 = some f := by
  cases hg : getF s.F f.f0 with
  | none => exact absurd rfl (look_none hg (f.f0, f) (List.mem_map.2 ⟨f, hf, rfl⟩))
  | some g =>
    obtain ⟨hm, he⟩ := getF_mem hg
    rw [rise_inj h.rise hf hm he]
/-- The chain does not ask for more fuel than its number. -/
theorem chain_fuel {s : Tr} (h : s.fine) : ∀ (n m : Nat) (a : Int), (a = 0 ∨ (getF s.F a).isSome = true) → a.toNat ≤ n → a.toNat ≤ m → chain s.F n a = chain s.F m a := by
  intro n
  induction n with
  | zero =>
    intro m a ha h0 h1
    have : a = 0 := by
      rcases ha with ha | ha
      · exact ha
      · obtain ⟨f, hf⟩ := Option.isSome_iff_exists.1 ha
        have := getF_mem hf
        have := h.ids f this.1
        omega
    subst this
    cases m <;> simp [chain]
  | succ n ih =>
    intro m a ha h0 h1
    by_cases hz : a = 0
    · subst hz
      cases m <;> simp [chain]
    · rcases ha with ha | ha
      · exact absurd ha hz
      · obtain ⟨f, hf⟩ := Option.isSome_iff_exists.1 ha
        obtain ⟨hm, he⟩ := getF_mem hf
        have hid := h.ids f hm
        obtain ⟨m, rfl⟩ : ∃ k, m = k + 1 := ⟨m - 1, by omega⟩
        have hp : parF s.F a = f.f1 := by unfold parF; rw [hf]; rfl
        simp only [chain, if_neg hz, hp]
        rcases h.par f hm with h2 | ⟨h2, h3, h4⟩
        · rw [h2, ih m 0 (.inl rfl) (by simp) (by simp)]
        · rw [ih m f.f1 (.inr h4) (by omega) (by omega)]
theorem anc_zero (F : List Fr) : anc F 0 = [] := rfl
theorem anc_step {s : Tr} (h : s.fine) {a : Int} {f : Fr} (hf : getF s.F a = some f) : anc s.F a = a :: anc s.F f.f1 := by
  obtain ⟨hm, he⟩ := getF_mem hf
  have hid := h.ids f hm
  have hp : parF s.F a = f.f1 := by unfold parF; rw [hf]; rfl
  unfold anc
  obtain ⟨n, hn⟩ : ∃ n, a.toNat = n + 1 := ⟨a.toNat - 1, by omega⟩
  rw [hn, chain, if_neg (by omega), hp]
  congr 1
  rcases h.par f hm with h2 | ⟨h2, h3, h4⟩
  · rw [h2]; exact chain_fuel h _ _ 0 (.inl rfl) (by simp) (by simp)
  · exact chain_fuel h _ _ f.f1 (.inr h4) (by omega) (Nat.le_refl _)

/-- Block g is a tree, block bm its map. -/
structure TreeIn (w : World) (g bm : Nat) (s : Tr) : Prop where
  fine : s.fine
  t : w.heap[g]? = some (.cells #[.int .i64 s.most, .int .i64 s.last, .map (some bm)] 68 (0, 0))
  m : ∃ n D, w.ownsMap Try.prog 3 frElem bm n D ∧ MapIs frD D (prs s.F)
theorem TreeIn.ne {w : World} {g bm : Nat} {s : Tr} (h : TreeIn w g bm s) : g ≠ bm := by
  rintro rfl
  obtain ⟨n, D, ⟨es, clock, hb, _⟩, _⟩ := h.m
  rw [h.t] at hb
  cases hb
theorem TreeIn.lt {w : World} {g bm : Nat} {s : Tr} (h : TreeIn w g bm s) : g < w.heap.size ∧ bm < w.heap.size := by
  obtain ⟨n, D, hm, _⟩ := h.m
  exact ⟨blk_lt h.t, hm.lt⟩
theorem TreeIn.move {w w1 : World} {g bm : Nat} {s : Tr} (h : TreeIn w g bm s) (h1 : w1.heap[g]? = w.heap[g]?) (h2 : w1.heap[bm]? = w.heap[bm]?) : TreeIn w1 g bm s := by
  obtain ⟨n, D, ⟨es, clock, hb, r⟩, hM⟩ := h.m
  exact ⟨h.fine, h1.trans h.t, n, D, ⟨es, clock, h2.trans hb, r⟩, hM⟩
theorem TreeIn.below {w w1 : World} {g bm : Nat} {s : Tr} (h : TreeIn w g bm s) (hb : Below w.heap.size w w1) : TreeIn w1 g bm s := h.move (hb.block g h.lt.1) (hb.block bm h.lt.2)
theorem TreeIn.turn {w w1 : World} {g bm : Nat} {S : Nat → Prop} {s : Tr} (h : TreeIn w g bm s) (ht : Turn S w w1) (h1 : ¬ S g) (h2 : ¬ S bm) : TreeIn w1 g bm s := h.move (ht.block g h.lt.1 h1) (ht.block bm h.lt.2 h2)
theorem TreeIn.look {w : World} {g bm : Nat} {s : Tr} (h : TreeIn w g bm s) {k : Int} (h0 : -9223372036854775808 ≤ k) (h1 : k ≤ 9223372036854775807) {f : Fr} (hf : (getF s.F k).getD z0 = f) :
    (Instr.lookup 61 (.map (some bm)) (.int .i64 k) false).run Try.prog w = .ok (.agg #[.int .i64 f.f0, .int .i64 f.f1, .int .i64 f.f2]) w := by
  obtain ⟨n, D, hm, hM⟩ := h.m
  obtain ⟨v, ps, hrun, hv⟩ := hm.lookup (t := 61) intLaw Try.underlying61 (zeroF _) (show frElem (frV z0) = some (frD z0, []) from frElem_mk z0) (keyOf_mk h0 h1)
  rw [hM.at_ h.fine.nodup k z0] at hv
  have := frElem_inv hv
  rw [this] at hrun
  rw [← hf]
  exact hrun
theorem TreeIn.look_ok {w : World} {g bm : Nat} {s : Tr} (h : TreeIn w g bm s) {k : Int} (h0 : -9223372036854775808 ≤ k) (h1 : k ≤ 9223372036854775807) {f : Fr} {b : Bool} (hf : (getF s.F k).getD z0 = f) (hb : (getF s.F k).isSome = b) :
    (Instr.lookup 61 (.map (some bm)) (.int .i64 k) true).run Try.prog w = .ok (.tuple #[.agg #[.int .i64 f.f0, .int .i64 f.f1, .int .i64 f.f2], .bool b]) w := by
  obtain ⟨n, D, hm, hM⟩ := h.m
  obtain ⟨v, ps, hrun, hv⟩ := hm.look_ok (t := 61) intLaw Try.underlying61 (zeroF _) (show frElem (frV z0) = some (frD z0, []) from frElem_mk z0) (keyOf_mk h0 h1)
  rw [hM.at_ h.fine.nodup k z0] at hv
  have := frElem_inv hv
  rw [this, hM.has k] at hrun
  rw [← hf, ← hb]
  exact hrun
theorem TreeIn.len {w : World} {g bm : Nat} {s : Tr} (h : TreeIn w g bm s) (ty : TypeId) : (Builtin.len_ #[61] ty #[.map (some bm)]).run Try.prog w = .ok (.int .i64 s.F.length) w := by
  obtain ⟨n, D, hm, hM⟩ := h.m
  have := hm.len Try.underlying61 ty
  rw [hM.size] at this
  rw [this]
  simp [prs]
def fr0 : Value := .agg #[.int .i64 0, .int .i64 0, .int .i64 0]
set_option maxRecDepth 100000 in
theorem get_calls (g bm : Nat) (s : Tr) (k : Int) (h0 : -9223372036854775808 ≤ k) (h1 : k ≤ 9223372036854775807) (w : World) (h : TreeIn w g bm s) :
    Calls Try.prog 17 #[.pointer (some ⟨g, 0, none⟩), .int .i64 k] w fun e w' => e = .returned (.tuple #[frV ((getF s.F k).getD z0), .int .i64 (if (getF s.F k).isSome = true then 0 else 161)]) ∧ Below w.heap.size w w' := by
  obtain ⟨f, hf⟩ : ∃ f, (getF s.F k).getD z0 = f := ⟨_, rfl⟩
  obtain ⟨b, hb⟩ : ∃ b, (getF s.F k).isSome = b := ⟨_, rfl⟩
  have ht := h.t
  have c2 : (w.alloc (.cells #[.int .i64 0, .int .i64 0, .int .i64 0] 36)).cell? ⟨g, 2, none⟩ = some (.map (some bm)) := blk_cell (blk_alloc ht _) 2
  have hl := (h.below (below_alloc (Below.refl _ _) (.cells #[.int .i64 0, .int .i64 0, .int .i64 0] 36))).look_ok h0 h1 hf hb
  rw [hf, hb]
  have HB := Lib.hid hb
  have HF := Lib.hid hf
  clear hb hf ht
  go_enter Try.func17, Try.ntmps17
  cases b
  · obtain rfl : f = z0 := by
      have hn := HB.out
      rw [← HF.out]
      cases hg : getF s.F k with
      | none => rfl
      | some x => rw [hg] at hn; cases hn
    go_wp2
    exact bodyPost_ret (v := .tuple #[.agg #[.int .i64 0, .int .i64 0, .int .i64 0], .int .i64 161]) (by simp [results, Try.results17, go_sem]) rfl ⟨rfl, below_alloc (below_alloc (Below.refl _ _) _) _⟩
  · go_wp2
    exact bodyPost_ret (v := .tuple #[.agg #[.int .i64 f.f0, .int .i64 f.f1, .int .i64 f.f2], .int .i64 0]) (by simp [results, Try.results17, go_sem]) rfl ⟨rfl, below_alloc (below_alloc (Below.refl _ _) _) _⟩
set_option maxRecDepth 100000 in
theorem get_nil (k : Int) (w : World) : Calls Try.prog 17 #[.pointer none, .int .i64 k] w fun e w' => e = .returned (.tuple #[frV z0, .int .i64 1]) ∧ Below w.heap.size w w' := by
  go_enter Try.func17, Try.ntmps17
  go_wp2
  exact bodyPost_ret (v := .tuple #[.agg #[.int .i64 0, .int .i64 0, .int .i64 0], .int .i64 1]) (by simp [results, Try.results17, go_sem]) rfl ⟨rfl, below_alloc (Below.refl _ _) _⟩
theorem infoI : (Try.prog.info? 3).map (fun i => (i.zero, i.size, i.bytes)) = some (some (.int .i64 0), 1, 8) := by kernel_rfl
theorem field1 (a b c : Int) (W : World) : (Instr.field 36 (.agg #[.int .i64 a, .int .i64 b, .int .i64 c]) 1).run Try.prog W = .ok (.int .i64 b) W := by kernel_rfl
/-- Ancestors, between two rounds. -/
structure ASt (w : World) (g bm : Nat) (s : Tr) (v : Value) (out : List Int) (wr : World) : Prop where
  tr : TreeIn wr g bm s
  out : Kd.R (Kd.int .i64) 3 wr w.heap.size (fun _ => True) v out
  below : Below w.heap.size w wr
/-- What Ancestors answers. -/
def ancF (s : Tr) (k : Int) : List Int × Int := match getF s.F k with
  | none => ([], 161)
  | some f => (anc s.F f.f1, 0)
theorem anc_len {s : Tr} (h : s.fine) {k : Int} {f : Fr} (hf : getF s.F k = some f) : (anc s.F f.f1).length ≤ 15 := h.deep f (getF_mem hf).1
set_option maxRecDepth 100000 in
set_option maxHeartbeats 1000000 in
theorem ancestors_calls (g bm : Nat) (s : Tr) (k : Int) (h0 : -9223372036854775808 ≤ k) (h1 : k ≤ 9223372036854775807) (w : World) (h : TreeIn w g bm s) :
    Calls Try.prog 23 #[.pointer (some ⟨g, 0, none⟩), .int .i64 k] w fun e w' => ∃ v, e = .returned (.tuple #[v, .int .i64 (ancF s k).2]) ∧ Kd.R (Kd.int .i64) 3 w' w.heap.size (fun _ => True) v (ancF s k).1 ∧ Below w.heap.size w w' := by
  have HG := Lib.hid (get_calls g bm s k h0 h1 w h)
  have HT := Lib.hid h
  clear h
  cases hf : getF s.F k with
  | none =>
    rw [hf] at HG
    have e : ancF s k = ([], 161) := by unfold ancF; rw [hf]
    rw [e]
    clear e hf
    go_enter Try.func23, Try.ntmps23
    go_wp2_with fail
    refine HG.out.mono ?_
    rintro e w1 ⟨rfl, hb⟩
    have HB := Lib.hid hb
    clear hb
    dsimp only [Option.isSome, Option.getD, frV]
    go_wp2
    go_ret2
    exact ⟨_, rfl, Kd.R_nil _ _ _ _ _, below_alloc HB.out _⟩
  | some f =>
    rw [hf] at HG
    have e : ancF s k = (anc s.F f.f1, 0) := by unfold ancF; rw [hf]
    have hfm := (getF_mem hf).1
    have hfine := HT.out.fine
    have hlen := anc_len hfine hf
    have hpar := hfine.par f hfm
    rw [e]
    clear e hf
    go_enter Try.func23, Try.ntmps23
    go_wp2_with fail
    refine HG.out.mono ?_
    rintro e w1 ⟨rfl, hb⟩
    have HB := Lib.hid hb
    clear hb
    dsimp only [Option.isSome, Option.getD, frV]
    go_wp2_with fail
    have hsome : f.f1 = 0 ∨ (getF s.F f.f1).isSome = true := hpar.elim .inl (fun h => .inr h.2.2)
    have hb1 : 0 ≤ f.f1 ∧ f.f1 ≤ 4611686018427387904 := by have := hfine.ids f hfm; have := hfine.l1; rcases hpar with h | h <;> omega
    have HST := Lib.hid (show ASt w g bm s (.slice none 0 0) [] (w1.alloc (.cells #[.int .i64 f.f0, .int .i64 f.f1, .int .i64 f.f2] 36)) from ⟨HT.out.below (below_alloc HB.out _), Kd.R_nil _ _ _ _ _, below_alloc HB.out _⟩)
    have HS := Lib.hid hsome
    clear hsome HG
    obtain ⟨w2, hw2⟩ : ∃ x, x = w1.alloc (.cells #[.int .i64 f.f0, .int .i64 f.f1, .int .i64 f.f2] 36) := ⟨_, rfl⟩
    rw [← hw2] at HST ⊢
    clear hw2
    obtain ⟨p, hp⟩ : ∃ p, p = f.f1 := ⟨_, rfl⟩
    rw [← hp] at HS hb1 hlen ⊢
    have HP := Lib.hid hp
    clear hp hpar
    go_loopw [8, 9] (fun v a wr => ∃ (out : List Int) (x : Int), a = .int .i64 x ∧ 0 ≤ x ∧ x ≤ 4611686018427387904 ∧ Hid (x = 0 ∨ (getF s.F x).isSome = true) ∧ Hid (out ++ anc s.F x = anc s.F p) ∧ Hid (ASt w g bm s v out wr)) (fun _ a _ => (RowKit.intOf a).toNat)
    case atStart => exact ⟨[], p, rfl, hb1.1, hb1.2, HS.out, rfl, HST.out⟩
    case round =>
      clear HST HS w2
      obtain ⟨out, x, rfl, hx0, hx1, HX, HO, HA⟩ := hrel
      by_cases hz : x = 0
      · subst hz
        go_wp2
        go_ret2
        refine ⟨_, rfl, ?_, HA.out.below⟩
        have := HO.out
        rw [anc_zero, List.append_nil] at this
        rw [← HP.out, ← this]
        exact HA.out.out
      · obtain ⟨q, hq⟩ := Option.isSome_iff_exists.1 (HX.out.resolve_left hz)
        have hst := anc_step hfine hq
        have HQ := Lib.hid hq
        have hqp := hfine.par q (getF_mem hq).1
        have hqx : q.f0 = x := (getF_mem hq).2
        have hqb : 0 ≤ q.f1 ∧ q.f1 < x := by rcases hqp with h | h <;> omega
        have HQS : Hid (q.f1 = 0 ∨ (getF s.F q.f1).isSome = true) := Lib.hid (hqp.elim .inl (fun h => .inr h.2.2))
        have hol : out.length ≤ 15 := by
          have := congrArg List.length HO.out
          rw [List.length_append] at this
          omega
        have HST2 := Lib.hid hst
        have hd : (x != 0) = true := by simpa using hz
        clear hst hq hqp hqx
        obtain ⟨A, c, e1⟩ := Kd.R_slice HA.out.out
        subst e1
        have hg2 : ∀ w1 : World, Below w.heap.size w w1 → w1.cell? ⟨g, 2, none⟩ = some (.map (some bm)) ∧ (Instr.lookup 61 (.map (some bm)) (.int .i64 x) false).run Try.prog w1 = .ok (.agg #[.int .i64 q.f0, .int .i64 q.f1, .int .i64 q.f2]) w1 := fun w1 hb => ⟨blk_cell (HT.out.below hb).t 2, (HT.out.below hb).look (by omega) (by omega) (by rw [HQ.out]; rfl)⟩
        have HG2 := Lib.hid hg2
        have hfld : ∀ W : World, (Instr.field 36 (.agg #[.int .i64 q.f0, .int .i64 q.f1, .int .i64 q.f2]) 1).run Try.prog W = .ok (.int .i64 q.f1) W := field1 _ _ _
        clear hg2
        go_wp2_with ((with_reducible refine gate_builtin (b := .append) (xs := #[.tmp 30, .tmp 32]) rfl ?_); at_builtin; refine Kd.R_append (Kd.int .i64) (w0 := w) w.heap.size rfl (.tmp 30) (.tmp 32) 25 3 (.int .i64 0) 8 rfl Try.underlying25 infoI rfl (by decide) (by omega) (.slice A out.length c) out x [.int .i64 x] (fun _ => True) (fun _ => False) rfl rfl ?aP (fun _ hk => hk.elim) ?aF ?aO ?aB ?aS ?aL ?_; (case aP => exact rfl); (case aF => exact fun _ _ => trivial); (case aO => exact HA.out.out); (case aB => exact HA.out.below); (case aS => exact HA.out.below.size); (case aL => omega); intro v3 w3 hown hb3 hg3 hat3; obtain ⟨k2, kl⟩ := HG2.out w3 hb3; have HA3 := Lib.hid (show ASt w g bm s v3 (out ++ [x]) w3 from ⟨HT.out.below hb3, hown, hb3⟩); clear hown hg3 hb3 hat3)
        go_roundw
        case rel => exact ⟨out ++ [x], q.f1, rfl, hqb.1, by omega, HQS.out, by rw [List.append_assoc, List.singleton_append, ← HST2.out]; exact HO.out, HA3.out⟩
        case measure => simp [RowKit.intOf]; omega
end Go.Proofs.Ytbkahblcabmdkaa.F
