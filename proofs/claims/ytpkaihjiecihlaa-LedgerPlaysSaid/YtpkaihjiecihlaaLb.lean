import Derived.Test.YtpkaihjiecihlaaLa
/-! The ledger's Shut. -/
namespace Go.Proofs.Ytpkaihjiecihlaa.L
open Go.RowKit Go.Proofs.YtpkaihjiecihlaaW.PrintWords

/-- From w to w' only blocks of S have turned, and new ones have come. -/
structure Turn (S : Nat → Prop) (w w' : World) : Prop where
  os : w'.os = w.os
  tape : w'.tape = w.tape
  output : w'.output = w.output
  size : w.heap.size ≤ w'.heap.size
  block : ∀ k, k < w.heap.size → ¬ S k → w'.heap[k]? = w.heap[k]?
namespace Turn
variable {S T : Nat → Prop} {a b c w w' : World}
theorem refl (S : Nat → Prop) (w : World) : Turn S w w := ⟨rfl, rfl, rfl, Nat.le_refl _, fun _ _ _ => rfl⟩
theorem drew (h : Turn S a b) : Turn S a b.drew := ⟨h.os, h.tape, h.output, h.size, h.block⟩
theorem alloc (h : Turn S a b) (o : Obj) : Turn S a (b.alloc o) := ⟨h.os, h.tape, h.output, by simp; exact Nat.le_succ_of_le h.size, fun k hk hS => (Below.heap_alloc _ _ _ (Nat.lt_of_lt_of_le hk h.size)).trans (h.block k hk hS)⟩
theorem set_ (h : Turn S a b) (p : Addr) (u : Value) (hp : S p.block ∨ a.heap.size ≤ p.block) : Turn S a (b.setCell p u) :=
  ⟨h.os, h.tape, h.output, by simpa [World.setCell] using h.size, fun k hk hS => (Below.heap_setCell _ _ _ _ (fun e => by
    rcases hp with hp | hp
    · exact hS (by rw [e]; exact hp)
    · omega)).trans (h.block k hk hS)⟩
theorem trans (h : Turn S a b) (k : Turn T b c) (hT : ∀ i, T i → S i ∨ a.heap.size ≤ i) : Turn S a c :=
  ⟨k.os.trans h.os, k.tape.trans h.tape, k.output.trans h.output, Nat.le_trans h.size k.size, fun i hi hS =>
    (k.block i (Nat.lt_of_lt_of_le hi h.size) (fun hTi => by
      rcases hT i hTi with h1 | h1
      · exact hS h1
      · omega)).trans (h.block i hi hS)⟩
theorem grown {row : Option Nat} (h : Turn S a b) (hg : b.grownBy c row) (hr : ∀ k, row = some k → S k ∨ a.heap.size ≤ k) : Turn S a c :=
  h.trans (T := fun i => row = some i) ⟨hg.os, hg.tape, hg.output, hg.size, fun k hk hne => hg.block k hk (fun e => hne e.symm)⟩ (fun i hi => hr i hi)
theorem of_below (h : Below w.heap.size w w') : Turn S w w' := ⟨h.os, h.tape, h.output, h.size, fun k hk _ => h.block k hk⟩
theorem below (h : Turn S w w') {B : Nat} (hB : B ≤ w.heap.size) (hS : ∀ k, S k → B ≤ k) : Below B w w' := ⟨h.os, h.tape, h.output, h.size, fun k hk => h.block k (by omega) (fun h1 => by have := hS k h1; omega)⟩
theorem mono (h : Turn S w w') (hS : ∀ k, S k → T k) : Turn T w w' := ⟨h.os, h.tape, h.output, h.size, fun k hk hT => h.block k hk (fun h1 => hT (hS k h1))⟩
theorem keep (h : Turn S w w') {k : Nat} {o : Obj} (hb : w.heap[k]? = some o) (hS : ¬ S k) : w'.heap[k]? = some o := (h.block k (blk_lt hb) hS).trans hb
end Turn

/-- The ledger's variable. -/
def led (v : Value) (m d l s : Int) : Array Value := #[v, .int .i64 m, .int .u32 d, .int .i32 l, .int .u32 0, .int .u32 s]

set_option maxRecDepth 100000 in
theorem shut1_calls (g pl F : Nat) (v : Value) (m d l s : Int) (w : World) (hg : w.heap[g]? = some (.cells (led v m d l s) 58 (0, 0))) (hp : w.heap[pl]? = some (.cells #[.pointer (some ⟨g, 0, none⟩)] 24 (0, 0)))
    (hF : w.heap[F]? = some (.cells #[.bool false] 4 (0, 0))) (_hgF : g ≠ F) :
    Calls Try.prog 22 #[.pointer (some ⟨pl, 0, none⟩), .pointer (some ⟨F, 0, none⟩)] w fun e w' => e = .returned (.tuple #[]) ∧ w' = (w.drew.setCell ⟨g, 5, none⟩ (.int .u32 1)).setCell ⟨F, 0, none⟩ (.bool true) := by
  have c1 := blk_cell hp 0
  have c2 : w.cell? ⟨g, 5, none⟩ = some (.int .u32 s) := blk_cell hg 5
  have f2 := blk_frozen hg 5
  have c3 : w.cell? ⟨F, 0, none⟩ = some (.bool false) := blk_cell hF 0
  have f3 := blk_frozen hF 0
  go_enter Try.func22, Try.ntmps22
  go_wp2_with (go_at_call 23; refine (store_calls ⟨g, 5, none⟩ _ _ c2 f2).mono ?_; rintro e w' ⟨rfl, rfl⟩)
  go_end0
  exact ⟨rfl, rfl⟩

set_option maxRecDepth 100000 in
set_option maxHeartbeats 1600000 in
theorem slow_first (g pl F : Nat) (v : Value) (m : Int) (w : World) (hg : w.heap[g]? = some (.cells (led v m 0 0 0) 58 (0, 0))) (hp : w.heap[pl]? = some (.cells #[.pointer (some ⟨g, 0, none⟩)] 24 (0, 0)))
    (hF : w.heap[F]? = some (.cells #[.bool false] 4 (0, 0))) (hgF : g ≠ F) (hgp : g ≠ pl) (_hpF : pl ≠ F) :
    Calls Try.prog 26 #[.pointer (some ⟨g, 2, none⟩), .func (.func 22) #[] #[.pointer (some ⟨pl, 0, none⟩), .pointer (some ⟨F, 0, none⟩)]] w fun e w' => e = .returned (.tuple #[]) ∧
      w' = ((((w.setCell ⟨g, 3, none⟩ (.int .i32 1)).drew.setCell ⟨g, 5, none⟩ (.int .u32 1)).setCell ⟨F, 0, none⟩ (.bool true)).drew.setCell ⟨g, 2, none⟩ (.int .u32 1)).setCell ⟨g, 3, none⟩ (.int .i32 0) := by
  have c3 : w.cell? ⟨g, 3, none⟩ = some (.int .i32 0) := blk_cell hg 3
  have f3 := blk_frozen hg 3
  have hg1 : (w.setCell ⟨g, 3, none⟩ (.int .i32 1)).heap[g]? = some (.cells (led v m 0 1 0) 58 (0, 0)) := blk_set hg 3 _
  have hp1 := blk_far (p := ⟨g, 3, none⟩) hp (Ne.symm hgp) (.int .i32 1)
  have hF1 := blk_far (p := ⟨g, 3, none⟩) hF (Ne.symm hgF) (.int .i32 1)
  have c2 : (w.setCell ⟨g, 3, none⟩ (.int .i32 1)).cell? ⟨g, 2, none⟩ = some (.int .u32 0) := blk_cell hg1 2
  have hl := load_calls ⟨g, 2, none⟩ 0 _ c2
  have hg2 : (((w.setCell ⟨g, 3, none⟩ (.int .i32 1)).drew.setCell ⟨g, 5, none⟩ (.int .u32 1)).setCell ⟨F, 0, none⟩ (.bool true)).heap[g]? = some (.cells (led v m 0 1 1) 58 (0, 0)) :=
    blk_far (p := ⟨F, 0, none⟩) (blk_set (w := (w.setCell ⟨g, 3, none⟩ (.int .i32 1)).drew) hg1 5 (.int .u32 1)) hgF _
  have d2 : (((w.setCell ⟨g, 3, none⟩ (.int .i32 1)).drew.setCell ⟨g, 5, none⟩ (.int .u32 1)).setCell ⟨F, 0, none⟩ (.bool true)).cell? ⟨g, 2, none⟩ = some (.int .u32 0) := blk_cell hg2 2
  have k2 := blk_frozen hg2 2
  have hg3 : ((((w.setCell ⟨g, 3, none⟩ (.int .i32 1)).drew.setCell ⟨g, 5, none⟩ (.int .u32 1)).setCell ⟨F, 0, none⟩ (.bool true)).drew.setCell ⟨g, 2, none⟩ (.int .u32 1)).heap[g]? = some (.cells (led v m 1 1 1) 58 (0, 0)) :=
    blk_set (w := (((w.setCell ⟨g, 3, none⟩ (.int .i32 1)).drew.setCell ⟨g, 5, none⟩ (.int .u32 1)).setCell ⟨F, 0, none⟩ (.bool true)).drew) hg2 2 _
  have d3 : ((((w.setCell ⟨g, 3, none⟩ (.int .i32 1)).drew.setCell ⟨g, 5, none⟩ (.int .u32 1)).setCell ⟨F, 0, none⟩ (.bool true)).drew.setCell ⟨g, 2, none⟩ (.int .u32 1)).cell? ⟨g, 3, none⟩ = some (.int .i32 1) := blk_cell hg3 3
  have k3 := blk_frozen hg3 3
  have hnot : ∀ (x : Bool) (w : World), (Op.unary .not (.bool x)).run Try.prog w = .ok (.bool (!x)) w := fun _ _ => rfl
  have HG1 := Lib.hid hg1
  have HP1 := Lib.hid hp1
  have HF1 := Lib.hid hF1
  have D2 := Lib.hid d2
  have K2 := Lib.hid k2
  have D3 := Lib.hid d3
  have K3 := Lib.hid k3
  clear hg hp hF hg1 hp1 hF1 hg2 hg3 d2 k2 d3 k3
  go_enter_defers Try.func26, Try.ntmps26
  go_wp2_with (first | (go_at_call 30; refine (lock_free ⟨g, 3, none⟩ _ c3 f3).mono ?_; rintro e w' ⟨rfl, rfl⟩) | (go_at_call 24; refine hl.mono ?_; rintro e w' ⟨rfl, rfl⟩) | (go_at_call 22; refine (shut1_calls g pl F v m 0 1 0 _ HG1.out HP1.out HF1.out hgF).mono ?_; rintro e w' ⟨rfl, rfl⟩))
  -- the two deferred calls, the last laid first
  refine leaves_cons (f := 23) (args := #[.pointer (some ⟨g, 2, none⟩), .bool true]) (by simp) (by simp [go_sem]) ?_
  refine (store_deferred ⟨g, 2, none⟩ (.int .u32 0) .returning _ ?_ ?_).mono ?_
  · exact D2.out
  · exact K2.out
  rintro e u' w'' ⟨rfl, rfl, rfl⟩
  refine leaves_cons (f := 31) (args := #[.pointer (some ⟨g, 3, none⟩)]) (by simp [settle]) (by simp [go_sem]) ?_
  refine (unlock_deferred ⟨g, 3, none⟩ _ _ ?_ ?_).mono ?_
  · exact D3.out
  · exact K3.out
  rintro e u' w'' ⟨rfl, rfl, rfl⟩
  simp [Leaves, settle, results, Try.results26]
  rfl
/-- What Shut's first call leaves. -/
theorem shut_world (g F : Nat) (v : Value) (m : Int) (w : World) (hg : w.heap[g]? = some (.cells (led v m 0 0 0) 58 (0, 0))) (hF : w.heap[F]? = some (.cells #[.bool false] 4 (0, 0))) (hgF : g ≠ F) :
    ∀ w', w' = ((((w.setCell ⟨g, 3, none⟩ (.int .i32 1)).drew.setCell ⟨g, 5, none⟩ (.int .u32 1)).setCell ⟨F, 0, none⟩ (.bool true)).drew.setCell ⟨g, 2, none⟩ (.int .u32 1)).setCell ⟨g, 3, none⟩ (.int .i32 0) →
      w'.heap[g]? = some (.cells (led v m 1 0 1) 58 (0, 0)) ∧ w'.heap[F]? = some (.cells #[.bool true] 4 (0, 0)) ∧ Turn (fun k => k = g ∨ k = F) w w' := by
  rintro w' rfl
  have hg1 : (w.setCell ⟨g, 3, none⟩ (.int .i32 1)).heap[g]? = some (.cells (led v m 0 1 0) 58 (0, 0)) := blk_set hg 3 _
  have hg1b : ((w.setCell ⟨g, 3, none⟩ (.int .i32 1)).drew.setCell ⟨g, 5, none⟩ (.int .u32 1)).heap[g]? = some (.cells (led v m 0 1 1) 58 (0, 0)) := blk_set (w := (w.setCell ⟨g, 3, none⟩ (.int .i32 1)).drew) hg1 5 (.int .u32 1)
  have hg2 := blk_far (p := ⟨F, 0, none⟩) hg1b hgF (.bool true)
  have hg3 : ((((w.setCell ⟨g, 3, none⟩ (.int .i32 1)).drew.setCell ⟨g, 5, none⟩ (.int .u32 1)).setCell ⟨F, 0, none⟩ (.bool true)).drew.setCell ⟨g, 2, none⟩ (.int .u32 1)).heap[g]? = some (.cells (led v m 1 1 1) 58 (0, 0)) :=
    blk_set (w := (((w.setCell ⟨g, 3, none⟩ (.int .i32 1)).drew.setCell ⟨g, 5, none⟩ (.int .u32 1)).setCell ⟨F, 0, none⟩ (.bool true)).drew) hg2 2 _
  have hF1 := blk_far (p := ⟨g, 3, none⟩) hF (Ne.symm hgF) (.int .i32 1)
  have hF2 := blk_far (p := ⟨g, 5, none⟩) (w := (w.setCell ⟨g, 3, none⟩ (.int .i32 1)).drew) hF1 (Ne.symm hgF) (.int .u32 1)
  have hF3 : (((w.setCell ⟨g, 3, none⟩ (.int .i32 1)).drew.setCell ⟨g, 5, none⟩ (.int .u32 1)).setCell ⟨F, 0, none⟩ (.bool true)).heap[F]? = some (.cells #[.bool true] 4 (0, 0)) := blk_set hF2 0 _
  have hF4 := blk_far (p := ⟨g, 2, none⟩) (w := (((w.setCell ⟨g, 3, none⟩ (.int .i32 1)).drew.setCell ⟨g, 5, none⟩ (.int .u32 1)).setCell ⟨F, 0, none⟩ (.bool true)).drew) hF3 (Ne.symm hgF) (.int .u32 1)
  refine ⟨blk_set hg3 3 _, blk_far (p := ⟨g, 3, none⟩) hF4 (Ne.symm hgF) _, ?_⟩
  exact (((((((Turn.refl _ w).set_ ⟨g, 3, none⟩ _ (.inl (.inl rfl))).drew).set_ ⟨g, 5, none⟩ _ (.inl (.inl rfl))).set_ ⟨F, 0, none⟩ _ (.inl (.inr rfl))).drew).set_ ⟨g, 2, none⟩ _ (.inl (.inl rfl))).set_ ⟨g, 3, none⟩ _ (.inl (.inl rfl))

set_option maxRecDepth 100000 in
/-- Once's Do, the first time. -/
theorem do_first (g pl F : Nat) (v : Value) (m : Int) (w : World) (hg : w.heap[g]? = some (.cells (led v m 0 0 0) 58 (0, 0))) (hp : w.heap[pl]? = some (.cells #[.pointer (some ⟨g, 0, none⟩)] 24 (0, 0)))
    (hF : w.heap[F]? = some (.cells #[.bool false] 4 (0, 0))) (hgF : g ≠ F) (hgp : g ≠ pl) (hpF : pl ≠ F) :
    Calls Try.prog 21 #[.pointer (some ⟨g, 2, none⟩), .func (.func 22) #[] #[.pointer (some ⟨pl, 0, none⟩), .pointer (some ⟨F, 0, none⟩)]] w fun e w' => e = .returned (.tuple #[]) ∧
      w'.heap[g]? = some (.cells (led v m 1 0 1) 58 (0, 0)) ∧ w'.heap[F]? = some (.cells #[.bool true] 4 (0, 0)) ∧ Turn (fun k => k = g ∨ k = F) w w' := by
  have c2 : w.cell? ⟨g, 2, none⟩ = some (.int .u32 0) := blk_cell hg 2
  have hl := load_calls ⟨g, 2, none⟩ 0 _ c2
  have hs := (slow_first g pl F v m w hg hp hF hgF hgp hpF).mono fun e w' (h : _ ∧ _) => (⟨h.1, shut_world g F v m w hg hF hgF w' h.2⟩ : e = .returned (.tuple #[]) ∧ w'.heap[g]? = some (.cells (led v m 1 0 1) 58 (0, 0)) ∧ w'.heap[F]? = some (.cells #[.bool true] 4 (0, 0)) ∧ Turn (fun k => k = g ∨ k = F) w w')
  have hnot : ∀ (x : Bool) (w : World), (Op.unary .not (.bool x)).run Try.prog w = .ok (.bool (!x)) w := fun _ _ => rfl
  have HL := Lib.hid hl
  have HS := Lib.hid hs
  clear hg hp hF hl hs c2
  go_enter Try.func21, Try.ntmps21
  go_wp2_with (first | (go_at_call 24; refine HL.out.mono ?_; rintro e w' ⟨rfl, rfl⟩) | (go_at_call 26; refine HS.out.mono ?_; rintro e w' ⟨rfl, h1, h2, h3⟩; have H1 := Lib.hid h1; have H2 := Lib.hid h2; have H3 := Lib.hid h3; clear h1 h2 h3))
  go_end0
  exact ⟨rfl, H1.out, H2.out, H3.out⟩
set_option maxRecDepth 100000 in
/-- Once's Do, done already. -/
theorem do_done (g : Nat) (v : Value) (m : Int) (f : Value) (w : World) (hg : w.heap[g]? = some (.cells (led v m 1 0 1) 58 (0, 0))) :
    Calls Try.prog 21 #[.pointer (some ⟨g, 2, none⟩), f] w fun e w' => e = .returned (.tuple #[]) ∧ w' = w := by
  have c2 : w.cell? ⟨g, 2, none⟩ = some (.int .u32 1) := blk_cell hg 2
  have hl := load_calls ⟨g, 2, none⟩ 1 _ c2
  have hnot : ∀ (x : Bool) (w : World), (Op.unary .not (.bool x)).run Try.prog w = .ok (.bool (!x)) w := fun _ _ => rfl
  have HL := Lib.hid hl
  clear hg hl c2
  go_enter Try.func21, Try.ntmps21
  go_wp2_with (go_at_call 24; refine HL.out.mono ?_; rintro e w' ⟨rfl, rfl⟩)
  go_end0
  exact ⟨rfl, rfl⟩
/-- The number in the variable that says whether it is shut. -/
def bn (b : Bool) : Int := if b then 1 else 0
set_option maxRecDepth 100000 in
/-- Shut. -/
theorem shut_calls (g : Nat) (v : Value) (m : Int) (s : Bool) (w : World) (hg : w.heap[g]? = some (.cells (led v m (bn s) 0 (bn s)) 58 (0, 0))) :
    Calls Try.prog 12 #[.pointer (some ⟨g, 0, none⟩)] w fun e w' => e = .returned (.bool (!s)) ∧ w'.heap[g]? = some (.cells (led v m 1 0 1) 58 (0, 0)) ∧ Turn (fun k => k = g) w w' := by
  have hmf : ∀ (fn : Fn) (first cap : Array Value) (w : World), (Instr.makeFunc fn first cap).run Try.prog w = .ok (.func fn first cap) w := fun _ _ _ _ => rfl
  have hlt := blk_lt hg
  have e1 : ((w.alloc (.cells #[.pointer (some ⟨g, 0, none⟩)] 24)).alloc (.cells #[.bool false] 4)).heap[w.heap.size + 1]? = some (.cells #[.bool false] 4) := by
    have hz : (w.alloc (.cells #[.pointer (some ⟨g, 0, none⟩)] 24)).heap.size = w.heap.size + 1 := by simp
    rw [← hz]; exact (MapKept.heap_alloc _ _).1
  have e0 : ((w.alloc (.cells #[.pointer (some ⟨g, 0, none⟩)] 24)).alloc (.cells #[.bool false] 4)).heap[w.heap.size]? = some (.cells #[.pointer (some ⟨g, 0, none⟩)] 24) :=
    (Below.heap_alloc _ _ _ (by simp)).trans (MapKept.heap_alloc _ _).1
  have eg : ((w.alloc (.cells #[.pointer (some ⟨g, 0, none⟩)] 24)).alloc (.cells #[.bool false] 4)).heap[g]? = some (.cells (led v m (bn s) 0 (bn s)) 58) :=
    (Below.heap_alloc _ _ _ (by simp; omega)).trans ((Below.heap_alloc _ _ _ hlt).trans hg)
  have T0 : Turn (fun k => k = g) w ((w.alloc (.cells #[.pointer (some ⟨g, 0, none⟩)] 24)).alloc (.cells #[.bool false] 4)) := ((Turn.refl _ w).alloc _).alloc _
  cases s
  · have hd := (do_first g w.heap.size (w.heap.size + 1) v m _ eg e0 e1 (by omega) (by omega) (by omega)).mono fun e w' (h : _ ∧ _ ∧ _ ∧ _) => (⟨h.1, blk_cell h.2.2.1 0, h.2.1, T0.trans h.2.2.2 (fun i hi => hi.elim (fun h => .inl h) (fun h => .inr (by omega)))⟩ : e = .returned (.tuple #[]) ∧ w'.cell? ⟨w.heap.size + 1, 0, none⟩ = some (.bool true) ∧ w'.heap[g]? = some (.cells (led v m 1 0 1) 58 (0, 0)) ∧ Turn (fun k => k = g) w w')
    have HD := Lib.hid hd
    clear hg e1 e0 eg T0 hd
    go_enter Try.func12, Try.ntmps12
    go_wp2_with (go_at_call 21; refine HD.out.mono ?_; rintro e w' ⟨rfl, h1, h2, h3⟩; have H2 := Lib.hid h2; have H3 := Lib.hid h3; clear h2 h3)
    go_ret
    exact ⟨rfl, H2.out, H3.out⟩
  · have cF : ((w.alloc (.cells #[.pointer (some ⟨g, 0, none⟩)] 24)).alloc (.cells #[.bool false] 4)).cell? ⟨w.heap.size + 1, 0, none⟩ = some (.bool false) := blk_cell e1 0
    have hd := fun f => (do_done g v m f _ eg).mono fun e w' (h : _ ∧ _) => (⟨h.1, h.2⟩ : e = .returned (.tuple #[]) ∧ w' = ((w.alloc (.cells #[.pointer (some ⟨g, 0, none⟩)] 24)).alloc (.cells #[.bool false] 4)))
    have HD := Lib.hid hd
    have HG := Lib.hid eg
    have HT := Lib.hid T0
    clear hg e1 e0 eg T0 hd cF
    go_enter Try.func12, Try.ntmps12
    go_wp2_with (go_at_call 21; refine (HD.out _).mono ?_; rintro e w' ⟨rfl, rfl⟩)
    go_ret
    exact ⟨rfl, HG.out, HT.out⟩
end Go.Proofs.Ytpkaihjiecihlaa.L
