import Derived.Test.YtbhlmdaogdhjdaaDoorHe
import Derived.Test.YtbhlmdaogdhjdaaDoorHf
import Derived.Test.YtbhlmdaogdhjdaaDoorHl
import Derived.RangeFuncFrom
import Derived.Lib.EndianBits
/-! host.Parse. -/
namespace Go.Proofs.YtbhlmdaogdhjdaaDoor.H
open Go.RowKit Go.Shelf Go.Proofs.YtbhlmdaogdhjdaaDoorW.PrintWords
attribute [local go_sem] Oper.semAt_some

def labelB (l : ByteArray) : Bool := decide (1 ≤ l.size) && decide (l.size ≤ 63) && fitsB smallB l
theorem own_blk {W W' : World} {row : Option Nat} {k : Nat} {cs : Array Value} {t : TypeId} {bd : Nat × Nat} (h : W.heap[k]? = some (.cells cs t bd)) (hg : W.grownBy W' row) (hr : ∀ r, row = some r → ∃ o : Obj, W.heap[r]? = some o ∧ o.isCells = false) : W'.heap[k]? = some (.cells cs t bd) :=
  blk_grown h hg (fun e => by
    obtain ⟨o, h1, h2⟩ := hr k e.symm
    rw [h] at h1
    cases h1
    exact absurd h2 (by simp [Obj.isCells]))
theorem blk_after {w W w1 : World} {g : Nat} {o : Obj} (h : w.heap[g]? = some o) (hb : Below W.heap.size W w1) (hW : W.heap = w.heap) : w1.heap[g]? = some o := by
  have hlt := blk_lt h
  rw [hb.block g (by rw [hW]; exact hlt), hW]; exact h
/-- What Parse's variables hold. -/
structure PSt (bh be bl bc : Nat) (last : ByteArray) (cnt : Nat) (W : World) : Prop where
  h : W.heap[bh]? = some (.cells #[.string ⟨#[]⟩, .bool false, .int .u32 0] 25 (0, 0))
  e : W.heap[be]? = some (.cells #[.int .i64 0] 26 (0, 0))
  l : W.heap[bl]? = some (.cells #[.string last] 9 (0, 0))
  c : W.heap[bc]? = some (.cells #[.int .i64 cnt] 3 (0, 0))
theorem PSt.own {bh be bl bc cnt : Nat} {last : ByteArray} {W W' : World} {row : Option Nat} (h : PSt bh be bl bc last cnt W) (hg : W.grownBy W' row) (hr : ∀ r, row = some r → ∃ o : Obj, W.heap[r]? = some o ∧ o.isCells = false) : PSt bh be bl bc last cnt W' :=
  ⟨own_blk h.h hg hr, own_blk h.e hg hr, own_blk h.l hg hr, own_blk h.c hg hr⟩
theorem range_own {F : Fence} {n : Nat} {P : Program} {α : Type} {g : Operand} {ps : Array Tmp} {assign body : Code} {Q : Exit → Act → World → Prop} {a : Act} {w : World} (q : Nat) (f : α → Value)
    (hro : F.round = none) (h1 : 1 ≤ n) {gf : Nat} {lb : Array Value} (hg : a.eval g = .func (.func gf) #[] lb) (hFg : F.fn gf) (eg : ∀ args w, (callFunc gf args).run P w = .ok (.enter gf args) w)
    {encs : α → Array Value} {Kp : World → World → Prop} {S Sp : List α → Prop} {N : Nat} {w0 : World} (hseq : SeqStopsK F (n - 1) P gf lb encs Kp S Sp N w0)
    (hKt : ∀ {A B C : World}, Kp A B → Kp B C → Kp A C) (hKb : ∀ (W : World) (l : Nat) (o o' : Obj), w.heap.size ≤ l → W.heap[l]? = some o → o.isCells = false → o.isWalk = false → Kp W (W.putObj l o')) (hb0 : Below w0.heap.size w0 w) (hps : ∀ x, (encs x).size = ps.size)
    (I : List α → World → Prop) (Ix : Code → List α → World → Prop) (hI : OwnFrom w.heap.size I) (hIx : ∀ c, OwnFrom w.heap.size (Ix c)) (h0 : I [] w)
    (hassign : ∀ (l : Nat) (x : α) (W : World) (K : Act → World → Prop), K { tmps := ((ps.zip (encs x)).foldl (fun t (p, v) => t.setIfInBounds p v) a.tmps).setIfInBounds q (f x), defers := [] } W →
      assign.wpIn (F.inRound l) (n - 1 - 1) P (Exit.then K (fun _ _ _ => False)) { tmps := (ps.zip (encs x)).foldl (fun t (p, v) => t.setIfInBounds p v) a.tmps, defers := [] } W)
    (hbody : ∀ (l : Nat) (pre : List α) (x : α) (W : World), I pre W → pre.length < N → body.wpIn (F.inRound l) (n - 1 - 1) P (ownPostK Kp I Ix (pre ++ [x]) W) { tmps := ((ps.zip (encs x)).foldl (fun t (p, v) => t.setIfInBounds p v) a.tmps).setIfInBounds q (f x), defers := [] } W)
    (hdone : ∀ (D : Nat) (xs : List α) (W : World), w.heap.size ≤ D → S xs → I xs W → W.heap[D]? = some (.deferred (some [])) → Q .normal { a with defers := { target := .collected D, args := #[] } :: a.defers } W)
    (hstop : ∀ (D : Nat) (c : Code) (pre : List α) (W : World), w.heap.size ≤ D → Sp pre → Ix c pre W → W.heap[D]? = some (.deferred (some [])) → c.wpIn F n P Q { a with defers := { target := .collected D, args := #[] } :: a.defers } W) :
    (Code.rangeFunc g ps assign body).wpIn F n P Q a w :=
  wpIn_rangeFunc_ownF hro h1 hg hFg eg hseq hKt hKb hb0 hps I Ix hI hIx h0 _ hassign hbody hdone hstop
theorem lowerB_size (s : ByteArray) : (lowerB s).size = s.size := by
  show (strOfNums _).data.size = _
  simp [strOfNums, bytesOf]
theorem kpC_b {n1 : Nat} (W : World) (l : Nat) (o o' : Obj) (h1 : W.heap[l]? = some o) (h2 : o.isCells = false) : KpC n1 W (W.putObj l o') := by
  intro k cs t bd hk hc
  rw [World.putObj_heap_other (fun e => by
    subst e
    rw [hc] at h1
    cases h1
    exact absurd h2 (by simp [Obj.isCells]))]
  exact hc
theorem kpC_set {n1 : Nat} {p : Addr} (W : World) (v : Value) (h : p.block < n1) : KpC n1 W (W.setCell p v) := fun k cs t bd hk hc => (Below.heap_setCell _ _ _ _ (fun e => by omega)).trans hc
theorem PSt.next {bh be bl bc cnt : Nat} {last : ByteArray} {W : World} (h : PSt bh be bl bc last cnt W) (h1 : bh ≠ bl ∧ bh ≠ bc) (h2 : be ≠ bl ∧ be ≠ bc) (h3 : bl ≠ bc) (b : ByteArray) : PSt bh be bl bc b (cnt + 1) ((W.setCell ⟨bl, 0, none⟩ (.string b)).setCell ⟨bc, 0, none⟩ (.int .i64 ((cnt : Int) + 1))) :=
  ⟨blk_far (p := ⟨bc, 0, none⟩) (blk_far (p := ⟨bl, 0, none⟩) h.h h1.1 _) h1.2 _, blk_far (p := ⟨bc, 0, none⟩) (blk_far (p := ⟨bl, 0, none⟩) h.e h2.1 _) h2.2 _, blk_far (p := ⟨bc, 0, none⟩) (blk_set h.l 0 _) h3 _, by
    have := blk_set (blk_far (p := ⟨bl, 0, none⟩) h.c (Ne.symm h3) (.string b)) 0 (.int .i64 ((cnt : Int) + 1))
    simpa using this⟩
def allLabels (pre : List (Nat × ByteArray)) : Bool := pre.all fun x => labelB x.2
def lastOf (pre : List (Nat × ByteArray)) : ByteArray := (pre.getLast?.map (·.2)).getD ⟨#[]⟩
theorem cutN_sizes (s : ByteArray) (y : Int) : ∀ i, ∀ z ∈ (cutN s y i).1, z.size ≤ s.size
  | 0 => fun z h => by simp [cutN] at h
  | i + 1 => by
    intro z hz
    unfold cutN at hz
    split at hz
    · simp only [List.mem_append, List.mem_singleton] at hz
      rcases hz with h | rfl
      · exact cutN_sizes s y i z h
      · simp only [ByteArray.size_extract]; omega
    · exact cutN_sizes s y i z hz
theorem splitB_size (s : ByteArray) (y : Int) (k : Nat) : ((splitB s y)[k]?.getD ByteArray.empty).size ≤ s.size := by
  cases h : (splitB s y)[k]? with
  | none => exact Nat.zero_le _
  | some z =>
    have hz := List.mem_of_getElem? h
    unfold splitB at hz
    simp only [List.mem_append, List.mem_singleton] at hz
    rcases hz with h | rfl
    · exact cutN_sizes s y _ z h
    · show (ByteArray.extract _ _ _).size ≤ _
      simp only [ByteArray.size_extract]; omega
theorem allLabels_snoc (pre : List (Nat × ByteArray)) (i : Nat) (b : ByteArray) : allLabels (pre ++ [(i, b)]) = (allLabels pre && labelB b) := by simp [allLabels]
theorem lastOf_snoc (pre : List (Nat × ByteArray)) (i : Nat) (b : ByteArray) : lastOf (pre ++ [(i, b)]) = b := by simp [lastOf]
/-- A host that a text is: its name, whether it is an address, the address, the error. -/
structure PRes where
  name : ByteArray
  v4 : Bool
  addr : Int
  err : Int
def bad : PRes := ⟨⟨#[]⟩, false, 0, 20⟩
def addrStep (a n : Int) : Int := a * 256 % 4294967296 + n
theorem keeps_drewN (W : World) (n : Nat) : KeepsOthers W (W.drewN n) := ⟨Nat.le_refl _, fun _ _ h _ => h⟩
theorem or_comm (x v : Int) : Go.bits .or .u32 x v = Go.bits .or .u32 v x := by
  unfold Go.bits
  simp only [BitVec.or_comm]
theorem addr_or (a v : Int) (_h0 : 0 ≤ a) (h1 : 0 ≤ v) (h2 : v ≤ 255) : Go.bits .or .u32 (a * 256 % 4294967296) v = addrStep a v ∧ 0 ≤ addrStep a v ∧ addrStep a v ≤ 4294967295 := by
  refine ⟨?_, by unfold addrStep; omega, by unfold addrStep; omega⟩
  rw [or_comm, Go.u32_or8 v _ h1 (by omega) (by omega) (by omega) (by omega), Int.add_comm]
  rfl
def addrNext (zs : List ByteArray) (o : Option Int) (k : Nat) : Option Int := o.bind fun a => if (numB (zs[k]?.getD ByteArray.empty)).2 = true then some (addrStep a (numB (zs[k]?.getD ByteArray.empty)).1) else none
/-- The address that the labels at some places make. -/
def addrL (zs : List ByteArray) (ks : List Nat) : Option Int := ks.foldl (addrNext zs) (some 0)
theorem addrL_snoc (zs : List ByteArray) (ks : List Nat) (k : Nat) : addrL zs (ks ++ [k]) = addrNext zs (addrL zs ks) k := by simp [addrL]
theorem addrNext_none (zs : List ByteArray) : ∀ ks : List Nat, ks.foldl (addrNext zs) none = none
  | [] => rfl
  | _ :: ks => addrNext_none zs ks
theorem addrL_none (zs : List ByteArray) (k n : Nat) (hk : k ≤ n) (h : addrL zs (List.range k) = none) : addrL zs (List.range n) = none := by
  obtain ⟨m, rfl⟩ : ∃ m, n = k + m := ⟨n - k, by omega⟩
  unfold addrL at *
  rw [List.range_add, List.foldl_append, h]
  exact addrNext_none zs _
def parseB (t : ByteArray) : PRes :=
  let xs := upto (splitB t 46) (splitB t 46).length
  if allLabels xs = false then bad else
  if t.size > 253 then bad else
  if fitsB digitB (lastOf xs) = false then ⟨t, false, 0, 0⟩ else
  if xs.length ≠ 4 then bad else
  match addrL (splitB t 46) (List.range (splitB t 46).length) with
  | none => bad
  | some a => ⟨⟨#[]⟩, true, a, 0⟩
theorem parseB_long (t : ByteArray) (h : allLabels (upto (splitB t 46) (splitB t 46).length) = true) (h1 : t.size > 253) : parseB t = bad := by
  unfold parseB; simp only; rw [if_neg (by simp [h]), if_pos h1]
theorem parseB_name (t : ByteArray) (h : allLabels (upto (splitB t 46) (splitB t 46).length) = true) (h1 : ¬ t.size > 253) (h2 : fitsB digitB (lastOf (upto (splitB t 46) (splitB t 46).length)) = false) : parseB t = ⟨t, false, 0, 0⟩ := by
  unfold parseB; simp only; rw [if_neg (by simp [h]), if_neg h1, if_pos h2]
theorem parseB_count (t : ByteArray) (h : allLabels (upto (splitB t 46) (splitB t 46).length) = true) (h1 : ¬ t.size > 253) (h2 : fitsB digitB (lastOf (upto (splitB t 46) (splitB t 46).length)) = true) (h3 : (upto (splitB t 46) (splitB t 46).length).length ≠ 4) : parseB t = bad := by
  unfold parseB; simp only; rw [if_neg (by simp [h]), if_neg h1, if_neg (by simp [h2]), if_pos h3]
theorem parseB_addr (t : ByteArray) (h : allLabels (upto (splitB t 46) (splitB t 46).length) = true) (h1 : ¬ t.size > 253) (h2 : fitsB digitB (lastOf (upto (splitB t 46) (splitB t 46).length)) = true) (h3 : (upto (splitB t 46) (splitB t 46).length).length = 4) :
    parseB t = match addrL (splitB t 46) (List.range (splitB t 46).length) with | none => bad | some a => ⟨⟨#[]⟩, true, a, 0⟩ := by
  unfold parseB; simp only; rw [if_neg (by simp [h]), if_neg h1, if_neg (by simp [h2]), if_neg (fun e => e h3)]
def hostV (p : PRes) : Value := .agg #[.string p.name, .bool p.v4, .int .u32 p.addr]
theorem upto_prefix (zs : List ByteArray) (k : Nat) (h : allLabels (upto zs k) = false) (hk : k ≤ zs.length) : allLabels (upto zs zs.length) = false := by
  unfold allLabels upto at *
  rw [List.all_eq_false] at *
  obtain ⟨x, hx, hl⟩ := h
  refine ⟨x, ?_, hl⟩
  rw [List.mem_map] at *
  obtain ⟨j, hj, rfl⟩ := hx
  rw [List.mem_range] at hj
  exact ⟨j, List.mem_range.2 (by omega), rfl⟩
/-- The block of the rounds' deferred calls is taken: cells lie as they lay. -/
theorem taken {W : World} {k D : Nat} {cs : Array Value} {t : TypeId} {bd : Nat × Nat} {ds : List Deferred} (h : W.heap[k]? = some (.cells cs t bd)) (hK : W.heap[D]? = some (.deferred (some ds))) : (W.putObj D (.deferred none)).heap[k]? = some (.cells cs t bd) :=
  own_blk h (grownBy_putObj' W D _) (fun r e => by cases e; exact ⟨_, hK, rfl⟩)
theorem parse_out {R : Ending → World → Prop} {tmps : Array Value} {W : World} {b : Nat} {cs : Array Value} {er : Value} (h2 : tmps[2]? = some (.pointer (some ⟨b, 0, none⟩))) (h3 : tmps[3]? = some (.pointer (some ⟨b + 1, 0, none⟩)))
    (hh : W.heap[b]? = some (.cells cs 25 (0, 0))) (he : W.heap[b + 1]? = some (.cells #[er] 26 (0, 0))) (x y z : Value) (hc : cs = #[x, y, z]) (hR : R (.returned (.tuple #[.agg #[x, y, z], er])) W) :
    LeavesInM Fence.wide 5 Tryd.prog Tryd.f12 tmps R [] .returning W := by
  subst hc
  have c0 : W.cell? ⟨b, 0, none⟩ = some x := blk_cell hh 0
  have c1 : W.cell? ⟨b, 1, none⟩ = some y := blk_cell hh 1
  have c2 : W.cell? ⟨b, 2, none⟩ = some z := blk_cell hh 2
  have ce : W.cell? ⟨b + 1, 0, none⟩ = some er := blk_cell he 0
  refine ⟨_, ?_, hR⟩
  simp [results, Tryd.f12, go_sem, h2, h3, c0, c1, c2, ce]
structure QSt (bh be bv D : Nat) (a : Int) (W : World) : Prop where
  h : W.heap[bh]? = some (.cells #[.string ⟨#[]⟩, .bool false, .int .u32 0] 25 (0, 0))
  e : W.heap[be]? = some (.cells #[.int .i64 0] 26 (0, 0))
  v : W.heap[bv]? = some (.cells #[.string ⟨#[]⟩, .bool true, .int .u32 a] 25 (0, 0))
  d : W.heap[D]? = some (.deferred (some []))
theorem QSt.own {bh be bv D B : Nat} {a : Int} {W W' : World} {row : Option Nat} (h : QSt bh be bv D a W) (hD : D < B) (hg : W.grownBy W' row) (hr : ∀ r, row = some r → B ≤ r ∧ ∃ o : Obj, W.heap[r]? = some o ∧ o.isCells = false) : QSt bh be bv D a W' :=
  ⟨own_blk h.h hg (fun r e => (hr r e).2), own_blk h.e hg (fun r e => (hr r e).2), own_blk h.v hg (fun r e => (hr r e).2), (hg.block D (blk_lt h.d) (fun e => by have := (hr D e.symm).1; omega)).trans h.d⟩
/-- The result's cells are written. -/
def set4 (W : World) (b : Nat) (x y z er : Value) : World := (((W.setCell ⟨b, 0, none⟩ x).setCell ⟨b, 1, none⟩ y).setCell ⟨b, 2, none⟩ z).setCell ⟨b + 1, 0, none⟩ er
theorem set4_facts {W : World} {b : Nat} {a0 a1 a2 a3 : Value} (hh : W.heap[b]? = some (.cells #[a0, a1, a2] 25 (0, 0))) (he : W.heap[b + 1]? = some (.cells #[a3] 26 (0, 0))) (x y z er : Value) :
    (set4 W b x y z er).heap[b]? = some (.cells #[x, y, z] 25 (0, 0)) ∧ (set4 W b x y z er).heap[b + 1]? = some (.cells #[er] 26 (0, 0)) ∧ KeepsOthers W (set4 W b x y z er) ∧ Below b W (set4 W b x y z er) :=
  ⟨blk_far (p := ⟨b + 1, 0, none⟩) (blk_set (blk_set (blk_set hh 0 x) 1 y) 2 z) (by simp) _,
    blk_set (blk_far (p := ⟨b, 2, none⟩) (blk_far (p := ⟨b, 1, none⟩) (blk_far (p := ⟨b, 0, none⟩) he (by simp) _) (by simp) _) (by simp) _) 0 _,
    (((KeepsOthers.setCell _ _ _).trans (KeepsOthers.setCell _ _ _)).trans (KeepsOthers.setCell _ _ _)).trans (KeepsOthers.setCell _ _ _),
    ((((Below.refl b W).setCell (p := ⟨b, 0, none⟩) (Nat.le_refl _) _).setCell (p := ⟨b, 1, none⟩) (Nat.le_refl _) _).setCell (p := ⟨b, 2, none⟩) (Nat.le_refl _) _).setCell (p := ⟨b + 1, 0, none⟩) (Nat.le_succ _) _⟩
theorem below_take {b D : Nat} {W : World} (hD : b ≤ D) (hK : W.heap[D]? = some (.deferred (some []))) : Below b W (W.putObj D (.deferred none)) :=
  (Below.refl b W).grown (grownBy_putObj' W D _) (by have := (Array.getElem?_eq_some_iff.1 hK).1; omega) (fun k e => by cases e; omega)
theorem leave1 {R : Ending → World → Prop} {tmps : Array Value} {W : World} {b D : Nat} (x y z er : Value) (h2 : tmps[2]? = some (.pointer (some ⟨b, 0, none⟩))) (h3 : tmps[3]? = some (.pointer (some ⟨b + 1, 0, none⟩)))
    (hh : W.heap[b]? = some (.cells #[x, y, z] 25 (0, 0))) (he : W.heap[b + 1]? = some (.cells #[er] 26 (0, 0))) (hD : b ≤ D) (hK : W.heap[D]? = some (.deferred (some [])))
    (hR : ∀ W2, Below b W W2 → R (.returned (.tuple #[.agg #[x, y, z], er])) W2) :
    LeavesInM Fence.wide 5 Tryd.prog Tryd.f12 tmps R [{ target := .collected D, args := #[] }] .returning W :=
  ⟨by simp, .inl ⟨_, _, rfl, run_takeDeferred hK, parse_out h2 h3 (taken hh hK) (taken he hK) x y z rfl (hR _ (below_take hD hK))⟩⟩
theorem leave2 {R : Ending → World → Prop} {tmps : Array Value} {W : World} {b D E : Nat} (x y z er : Value) (h2 : tmps[2]? = some (.pointer (some ⟨b, 0, none⟩))) (h3 : tmps[3]? = some (.pointer (some ⟨b + 1, 0, none⟩)))
    (hh : W.heap[b]? = some (.cells #[x, y, z] 25 (0, 0))) (he : W.heap[b + 1]? = some (.cells #[er] 26 (0, 0))) (hD : b ≤ D) (hE : b ≤ E) (hK : W.heap[D]? = some (.deferred (some []))) (hL : W.heap[E]? = some (.deferred (some []))) (hne : E ≠ D)
    (hR : ∀ W2, Below b W W2 → R (.returned (.tuple #[.agg #[x, y, z], er])) W2) :
    LeavesInM Fence.wide 5 Tryd.prog Tryd.f12 tmps R [{ target := .collected D, args := #[] }, { target := .collected E, args := #[] }] .returning W :=
  ⟨by simp, .inl ⟨_, _, rfl, run_takeDeferred hK, leave1 x y z er h2 h3 (taken hh hK) (taken he hK) hE ((World.putObj_heap_other hne).trans hL) (fun W2 h => hR W2 ((below_take hD hK).trans h))⟩⟩
theorem lastOf_size (pre : List (Nat × ByteArray)) (h : allLabels pre = true) : (lastOf pre).size ≤ 63 := by
  unfold lastOf
  cases hl : pre.getLast? with
  | none => exact Nat.zero_le _
  | some x =>
    have h1 := List.all_eq_true.1 h x (List.mem_of_getLast? hl)
    unfold labelB at h1
    simp only [Bool.and_eq_true, decide_eq_true_eq] at h1
    exact h1.1.2
set_option maxRecDepth 100000 in
set_option maxHeartbeats 4000000 in
theorem parse_calls (s : ByteArray) (w : World) (hs : s.size < 8796093022207) :
    Calls Tryd.prog 12 #[.string s] w fun e w' => e = .returned (.tuple #[hostV (parseB (lowerB s)), .int .i64 (parseB (lowerB s)).err]) ∧ Below w.heap.size w w' := by
  have hw1 : Below w.heap.size w ((w.alloc (.cells #[.string ⟨#[]⟩, .bool false, .int .u32 0] 25)).alloc (.cells #[.int .i64 0] 26)) := below_alloc (below_alloc (Below.refl _ _) _) _
  have hH := blk_alloc (blk_new w (.cells #[.string ⟨#[]⟩, .bool false, .int .u32 0] 25)) (.cells #[.int .i64 0] 26)
  have hE := blk_new (w.alloc (.cells #[.string ⟨#[]⟩, .bool false, .int .u32 0] 25)) (.cells #[.int .i64 0] 26)
  rw [show (w.alloc (.cells #[.string ⟨#[]⟩, .bool false, .int .u32 0] 25)).heap.size = w.heap.size + 1 by simp] at hE
  have hlow := lower_calls s ((w.alloc (.cells #[.string ⟨#[]⟩, .bool false, .int .u32 0] 25)).alloc (.cells #[.int .i64 0] 26)) (by omega)
  have HW1 := Lib.hid hw1
  have HH := Lib.hid hH
  have HE := Lib.hid hE
  have HLOW := Lib.hid hlow
  clear hw1 hH hE hlow
  obtain ⟨pr, hpr⟩ : ∃ p, p = parseB (lowerB s) := ⟨_, rfl⟩
  rw [← hpr]
  have HPR := Lib.hid hpr
  clear hpr
  refine (callsIn_wide (n := 5)).1 ?_
  refine callsIn_of_wp_marks Tryd.func12 rfl trivial ?_ rfl
  simp only [Tryd.ntmps12, List.size_toArray, List.length_cons, List.length_nil, Nat.reduceAdd, Nat.reduceSub, Array.replicate_succ, Array.replicate_zero, List.push_toArray, List.append_toArray, List.nil_append, List.cons_append]
  gi_wp2_with fail
  refine ⟨trivial, ?_⟩
  refine (callsIn_wide.2 HLOW.out).mono ?_
  rintro e w1 ⟨rfl, hb⟩
  obtain ⟨t, ht⟩ : ∃ t, t = lowerB s := ⟨_, rfl⟩
  rw [← ht]
  have HT := Lib.hid ht
  have HH1 := Lib.hid (blk_after HH.out hb rfl)
  have HE1 := Lib.hid (blk_after HE.out hb rfl)
  have HB1 := Lib.hid (below_then HW1.out HW1.out.size hb)
  clear hb HH HE HW1 ht HLOW
  gi_wp2_with fail
  refine ⟨trivial, ?_⟩
  refine (callsIn_wide.2 (labels_calls _ _)).mono ?_
  rintro e w2 ⟨rfl, rfl⟩
  rw [show ((w1.alloc (.cells #[.string ⟨#[]⟩] 9)).alloc (.cells #[.int .i64 0] 3)).heap.size = w1.heap.size + 2 by simp]
  obtain ⟨W0, hW0⟩ : ∃ W, W = ((w1.alloc (.cells #[.string ⟨#[]⟩] 9)).alloc (.cells #[.int .i64 0] 3)).alloc (.cells #[.string t] 9) := ⟨_, rfl⟩
  have hsz : W0.heap.size = w1.heap.size + 3 := by rw [hW0]; simp
  have hB0 : Below w.heap.size w W0 := by rw [hW0]; exact below_alloc (below_alloc (below_alloc HB1.out _) _) _
  have hP0 : PSt w.heap.size (w.heap.size + 1) w1.heap.size (w1.heap.size + 1) ⟨#[]⟩ 0 W0 := by
    rw [hW0]
    refine ⟨blk_alloc (blk_alloc (blk_alloc HH1.out _) _) _, blk_alloc (blk_alloc (blk_alloc HE1.out _) _) _, blk_alloc (blk_alloc (blk_new _ _) _) _, blk_alloc ?_ _⟩
    have := blk_new (w1.alloc (.cells #[.string ⟨#[]⟩] 9)) (.cells #[.int .i64 0] 3)
    simpa using this
  have hS0 : W0.cell? ⟨w1.heap.size + 2, 0, none⟩ = some (.string t) := by
    have := blk_new ((w1.alloc (.cells #[.string ⟨#[]⟩] 9)).alloc (.cells #[.int .i64 0] 3)) (.cells #[.string t] 9)
    rw [show ((w1.alloc (.cells #[.string ⟨#[]⟩] 9)).alloc (.cells #[.int .i64 0] 3)).heap.size = w1.heap.size + 2 by simp, ← hW0] at this
    exact blk_cell this 0
  rw [← hW0]
  obtain ⟨bl, hbl⟩ : ∃ k, k = w1.heap.size := ⟨_, rfl⟩
  have hbh : w.heap.size ≤ bl := by rw [hbl]; exact HB1.out.size
  have hbh2 : w.heap.size + 1 < bl := by rw [hbl]; exact blk_lt HE1.out
  rw [← hbl] at hP0 hS0 hsz ⊢
  have HP0 := Lib.hid hP0
  have HS0 := Lib.hid hS0
  have HB0 := Lib.hid hB0
  have HSZ := Lib.hid hsz
  obtain ⟨n0, hn0⟩ : ∃ k, k = w.heap.size := ⟨_, rfl⟩
  rw [← hn0] at HP0 HB0 hbh hbh2 ⊢
  have HN0 := Lib.hid hn0
  clear hP0 hS0 hB0 hsz hW0 HH1 HE1 HB1 hbl hn0
  have HTS : Hid (t.size ≤ 9223372036854775805) := by rw [HT.out, lowerB_size]; exact Lib.hid (show s.size ≤ 9223372036854775805 by omega)
  gi_wp2_with fail
  refine range_own (gf := 37) (lb := #[.pointer (some ⟨bl + 2, 0, none⟩)]) 7 (fun x : Nat × ByteArray => .string x.2) rfl (by omega) rfl trivial (enters_of Tryd.func37 (by kernel_rfl) rfl)
    (labels1_stops _ (by omega) t ?hts (bl + 2) (bl + 3) W0 (by rw [HSZ.out]; exact Nat.le_refl _) (by rw [HSZ.out]; omega) HS0.out) KpC.trans (fun W l o o' _ h1 h2 _ => kpC_b W l o o' h1 h2) (Below.refl _ _) (fun _ => rfl)
    (fun pre W => (allLabels pre = true ∧ PSt n0 (n0 + 1) bl (bl + 1) (lastOf pre) pre.length W) ∧ Below n0 w W)
    (fun c pre W => (c = .ret ∧ allLabels pre = false ∧ W.heap[n0]? = some (.cells #[.string ⟨#[]⟩, .bool false, .int .u32 0] 25 (0, 0)) ∧ W.heap[n0 + 1]? = some (.cells #[.int .i64 20] 26 (0, 0))) ∧ Below n0 w W)
    (OwnFrom.and (Own.from (fun s A B row hs hg hr => ⟨hs.1, hs.2.own hg hr⟩) _) (ownFrom_below (by rw [HN0.out]; exact Nat.le_refl _) (by rw [HSZ.out]; omega)))
    (fun c => OwnFrom.and (Own.from (fun s A B row hs hg hr => ⟨hs.1, hs.2.1, own_blk hs.2.2.1 hg hr, own_blk hs.2.2.2 hg hr⟩) _) (ownFrom_below (by rw [HN0.out]; exact Nat.le_refl _) (by rw [HSZ.out]; omega)))
    ⟨⟨rfl, HP0.out⟩, HB0.out⟩ ?assign ?body ?done ?stop
  case hts => rw [HT.out, lowerB_size]; exact hs
  case assign =>
    rintro l ⟨i, b⟩ W K hK
    simp only [encL, List.zip_toArray, List.zip_cons_cons, List.zip_nil_right, List.foldl_toArray, List.foldl_cons, List.foldl_nil] at hK ⊢
    go_simp
    gi_wp2
    exact hK
  case body =>
    rintro l pre ⟨i, b⟩ W ⟨⟨hal, hP⟩, hB⟩ hlen
    have hcnt : pre.length ≤ 9223372036854775806 := by
      have h1 := (splitB_length t 46).1
      have h2 : t.size ≤ 9223372036854775805 := HTS.out
      omega
    have ch0 : W.cell? ⟨n0, 0, none⟩ = some (.string ⟨#[]⟩) := blk_cell hP.h 0
    have ch1 : W.cell? ⟨n0, 1, none⟩ = some (.bool false) := blk_cell hP.h 1
    have ch2 : W.cell? ⟨n0, 2, none⟩ = some (.int .u32 0) := blk_cell hP.h 2
    have fh0 := blk_frozen hP.h 0
    have fh1 := blk_frozen hP.h 1
    have fh2 := blk_frozen hP.h 2
    have ce : W.cell? ⟨n0 + 1, 0, none⟩ = some (.int .i64 0) := blk_cell hP.e 0
    have fe := blk_frozen hP.e 0
    have cl : W.cell? ⟨bl, 0, none⟩ = some (.string (lastOf pre)) := blk_cell hP.l 0
    have fl := blk_frozen hP.l 0
    have cc : W.cell? ⟨bl + 1, 0, none⟩ = some (.int .i64 (pre.length : Int)) := blk_cell hP.c 0
    have fc := blk_frozen hP.c 0
    have HAL := Lib.hid hal
    have HP := Lib.hid hP
    have HB := Lib.hid hB
    clear hal hP hB hlen
    obtain ⟨la, hla⟩ : ∃ x, x = lastOf pre := ⟨_, rfl⟩
    rw [← hla] at cl
    clear hla
    simp only [encL, List.zip_toArray, List.zip_cons_cons, List.zip_nil_right, List.foldl_toArray, List.foldl_cons, List.foldl_nil]
    go_simp
    by_cases h1 : (b.size : Int) < 1
    · have hd1 : decide ((b.size : Int) < 1) = true := decide_eq_true h1
      gi_wp2_with fail
      refine ⟨trivial, ?_⟩
      gi_wp2_with fail
      refine ⟨?_, ⟨rfl, ?_, ?_, ?_⟩, ?_⟩
      · exact (((KeepsOthers.setCell _ _ _).trans (KeepsOthers.setCell _ _ _)).trans (KeepsOthers.setCell _ _ _)).trans (KeepsOthers.setCell _ _ _)
      · rw [allLabels_snoc, show labelB b = false by unfold labelB; rw [decide_eq_false (show ¬ 1 ≤ b.size by omega)]; rfl]; exact Bool.and_false _
      · exact blk_far (p := ⟨n0 + 1, 0, none⟩) (blk_set (blk_set (blk_set HP.out.h 0 _) 1 _) 2 _) (by simp) _
      · exact blk_set (blk_far (p := ⟨n0, 2, none⟩) (blk_far (p := ⟨n0, 1, none⟩) (blk_far (p := ⟨n0, 0, none⟩) HP.out.e (by simp) _) (by simp) _) (by simp) _) 0 _
      · exact (((HB.out.setCell (p := ⟨n0, 0, none⟩) (Nat.le_refl _) _).setCell (p := ⟨n0, 1, none⟩) (Nat.le_refl _) _).setCell (p := ⟨n0, 2, none⟩) (Nat.le_refl _) _).setCell (p := ⟨n0 + 1, 0, none⟩) (Nat.le_succ _) _
    · have hd1 : decide ((b.size : Int) < 1) = false := decide_eq_false h1
      by_cases h2 : (63 : Int) < (b.size : Int)
      · have hd2 : decide ((63 : Int) < (b.size : Int)) = true := decide_eq_true h2
        gi_wp2_with fail
        refine ⟨trivial, ?_⟩
        gi_wp2_with fail
        refine ⟨?_, ⟨rfl, ?_, ?_, ?_⟩, ?_⟩
        · exact (((KeepsOthers.setCell _ _ _).trans (KeepsOthers.setCell _ _ _)).trans (KeepsOthers.setCell _ _ _)).trans (KeepsOthers.setCell _ _ _)
        · rw [allLabels_snoc, show labelB b = false by unfold labelB; rw [decide_eq_false (show ¬ b.size ≤ 63 by omega), Bool.and_false]; rfl]; exact Bool.and_false _
        · exact blk_far (p := ⟨n0 + 1, 0, none⟩) (blk_set (blk_set (blk_set HP.out.h 0 _) 1 _) 2 _) (by simp) _
        · exact blk_set (blk_far (p := ⟨n0, 2, none⟩) (blk_far (p := ⟨n0, 1, none⟩) (blk_far (p := ⟨n0, 0, none⟩) HP.out.e (by simp) _) (by simp) _) (by simp) _) 0 _
        · exact (((HB.out.setCell (p := ⟨n0, 0, none⟩) (Nat.le_refl _) _).setCell (p := ⟨n0, 1, none⟩) (Nat.le_refl _) _).setCell (p := ⟨n0, 2, none⟩) (Nat.le_refl _) _).setCell (p := ⟨n0 + 1, 0, none⟩) (Nat.le_succ _) _
      · have hd2 : decide ((63 : Int) < (b.size : Int)) = false := decide_eq_false h2
        gi_wp2_with fail
        refine ⟨trivial, ?_⟩
        refine (CallsIn.inRound l (callsIn_wide.2 (fits_small b _ (by omega)))).mono ?_
        rintro e w' ⟨rfl, rfl⟩
        obtain ⟨r, hr⟩ : ∃ r, r = fitsB smallB b := ⟨_, rfl⟩
        rw [← hr]
        have HR := Lib.hid hr
        clear hr
        cases r
        · gi_wp2_with fail
          refine ⟨?_, ⟨rfl, ?_, ?_, ?_⟩, ?_⟩
          · exact (((KeepsOthers.setCell _ _ _).trans (KeepsOthers.setCell _ _ _)).trans (KeepsOthers.setCell _ _ _)).trans (KeepsOthers.setCell _ _ _)
          · rw [allLabels_snoc, show labelB b = false by unfold labelB; rw [← HR.out]; exact Bool.and_false _]; exact Bool.and_false _
          · exact blk_far (p := ⟨n0 + 1, 0, none⟩) (blk_set (blk_set (blk_set HP.out.h 0 _) 1 _) 2 _) (by simp) _
          · exact blk_set (blk_far (p := ⟨n0, 2, none⟩) (blk_far (p := ⟨n0, 1, none⟩) (blk_far (p := ⟨n0, 0, none⟩) HP.out.e (by simp) _) (by simp) _) (by simp) _) 0 _
          · exact (((HB.out.setCell (p := ⟨n0, 0, none⟩) (Nat.le_refl _) _).setCell (p := ⟨n0, 1, none⟩) (Nat.le_refl _) _).setCell (p := ⟨n0, 2, none⟩) (Nat.le_refl _) _).setCell (p := ⟨n0 + 1, 0, none⟩) (Nat.le_succ _) _
        · gi_wp2_with fail
          refine ⟨?_, ?_, ⟨?_, ?_⟩, ?_⟩
          · exact (KeepsOthers.setCell _ _ _).trans (KeepsOthers.setCell _ _ _)
          · exact (kpC_set (p := ⟨bl, 0, none⟩) W _ (show bl < bl + 3 by omega)).trans (kpC_set (p := ⟨bl + 1, 0, none⟩) _ _ (show bl + 1 < bl + 3 by omega))
          · rw [allLabels_snoc, show labelB b = true by unfold labelB; rw [← HR.out, decide_eq_true (show 1 ≤ b.size by omega), decide_eq_true (show b.size ≤ 63 by omega)]; rfl, HAL.out]; rfl
          · rw [lastOf_snoc, List.length_append]; exact HP.out.next (by omega) (by omega) (by omega) b
          · exact (HB.out.setCell (p := ⟨bl, 0, none⟩) hbh _).setCell (p := ⟨bl + 1, 0, none⟩) (by simp; omega) _
  case stop =>
    rintro D c pre W hD ⟨k, hk, rfl⟩ ⟨⟨rfl, hal, hh, he⟩, hB⟩ hK
    have hp : pr = bad := by
      rw [HPR.out, ← HT.out]
      unfold parseB
      simp only
      rw [if_pos (upto_prefix _ k hal hk)]
    have HP := Lib.hid hp
    have HHH := Lib.hid hh
    have HEE := Lib.hid he
    have HB := Lib.hid hB
    have HK := Lib.hid hK
    have HDD := Lib.hid hD
    clear hal hh he hB hK hp hD
    gi_wp2_with fail
    refine ⟨by simp, .inl ⟨_, _, rfl, run_takeDeferred HK.out, ?_⟩⟩
    refine parse_out (b := n0) rfl rfl (taken HHH.out HK.out) (taken HEE.out HK.out) _ _ _ rfl ⟨by rw [HP.out]; rfl, ?_⟩
    rw [← HN0.out]
    exact HB.out.trans (belowK_b (w := W0) (n₀ := n0) (by rw [HSZ.out]; omega) W D _ _ HDD.out HK.out rfl rfl)
  case done =>
    rintro D xs W hD hxs ⟨⟨hal, hP⟩, hB⟩ hK
    have cl : W.cell? ⟨bl, 0, none⟩ = some (.string (lastOf xs)) := blk_cell hP.l 0
    have cc : W.cell? ⟨bl + 1, 0, none⟩ = some (.int .i64 (xs.length : Int)) := blk_cell hP.c 0
    obtain ⟨la, hla⟩ : ∃ x, x = lastOf xs := ⟨_, rfl⟩
    rw [← hla] at cl
    have HLA := Lib.hid hla
    have HXS := Lib.hid hxs
    have HAL := Lib.hid hal
    have HP := Lib.hid hP
    have HB := Lib.hid hB
    have HK := Lib.hid hK
    have HDD := Lib.hid hD
    have hlas : la.size ≤ 63 := by rw [hla]; exact lastOf_size xs hal
    have hxn : xs.length ≤ 9223372036854775806 := by
      have h1 := (splitB_length t 46).1
      have h2 : t.size ≤ 9223372036854775805 := HTS.out
      rw [hxs, upto_length]
      have h3 : t.size < 8796093022207 := by rw [HT.out, lowerB_size]; exact hs
      omega
    have ch0 : W.cell? ⟨n0, 0, none⟩ = some (.string ⟨#[]⟩) := blk_cell hP.h 0
    have ch1 : W.cell? ⟨n0, 1, none⟩ = some (.bool false) := blk_cell hP.h 1
    have ch2 : W.cell? ⟨n0, 2, none⟩ = some (.int .u32 0) := blk_cell hP.h 2
    have fh0 := blk_frozen hP.h 0
    have fh1 := blk_frozen hP.h 1
    have fh2 := blk_frozen hP.h 2
    have ce : W.cell? ⟨n0 + 1, 0, none⟩ = some (.int .i64 0) := blk_cell hP.e 0
    have fe := blk_frozen hP.e 0
    clear hal hP hB hK hD hxs hla
    by_cases h253 : (253 : Int) < (t.size : Int)
    · have hd : decide ((253 : Int) < (t.size : Int)) = true := decide_eq_true h253
      gi_wp2_with fail
      refine ⟨trivial, ?_⟩
      gi_wp2_with fail
      have hpr : pr = bad := by
        rw [HPR.out, ← HT.out]
        exact parseB_long t (by rw [← HXS.out]; exact HAL.out) (by omega)
      obtain ⟨f1, f2, f3, f4⟩ := set4_facts HP.out.h HP.out.e (.string ⟨#[]⟩) (.bool false) (.int .u32 0) (.int .i64 20)
      refine leave1 (.string ⟨#[]⟩) (.bool false) (.int .u32 0) (.int .i64 20) rfl rfl f1 f2 (Nat.le_trans (by rw [HSZ.out]; omega) HDD.out) (f3.same D _ HK.out rfl) (fun W2 hb => ⟨by rw [hpr]; rfl, ?_⟩)
      rw [← HN0.out]
      exact (HB.out.trans f4).trans hb
    · have hd : decide ((253 : Int) < (t.size : Int)) = false := decide_eq_false h253
      gi_wp2_with fail
      refine ⟨trivial, ?_⟩
      refine (callsIn_wide.2 (fits_digit la _ (by omega))).mono ?_
      rintro e w' ⟨rfl, rfl⟩
      obtain ⟨r, hr⟩ : ∃ r, r = fitsB digitB la := ⟨_, rfl⟩
      rw [← hr]
      have HR := Lib.hid hr
      clear hr
      cases r
      · gi_wp2_with fail
        refine ⟨trivial, ?_⟩
        refine (callsIn_wide.2 (fits_digit la _ (by omega))).mono ?_
        rintro e w' ⟨rfl, rfl⟩
        rw [← HR.out]
        gi_wp2_with fail
        have hpr : pr = ⟨t, false, 0, 0⟩ := by
          rw [HPR.out, ← HT.out]
          exact parseB_name t (by rw [← HXS.out]; exact HAL.out) (by omega) (by rw [← HXS.out, ← HLA.out]; exact HR.out.symm)
        obtain ⟨f1, f2, f3, f4⟩ := set4_facts HP.out.h HP.out.e (.string t) (.bool false) (.int .u32 0) (.int .i64 0)
        refine leave1 (.string t) (.bool false) (.int .u32 0) (.int .i64 0) rfl rfl f1 f2 (Nat.le_trans (by rw [HSZ.out]; omega) HDD.out) (f3.same D _ HK.out rfl) (fun W2 hb => ⟨by rw [hpr]; rfl, ?_⟩)
        rw [← HN0.out]
        exact (HB.out.trans f4).trans hb
      · by_cases h4 : (xs.length : Int) = 4
        · have hb4 : ((xs.length : Int) != 4) = false := bne_eq_false_iff_eq.2 h4
          have H4 := Lib.hid h4
          clear h4
          gi_wp2_with fail
          refine ⟨trivial, ?_⟩
          refine (callsIn_wide.2 (fits_digit la _ (by omega))).mono ?_
          rintro e w' ⟨rfl, rfl⟩
          rw [← HR.out]
          gi_wp2_with fail
          refine ⟨trivial, ?_⟩
          refine (callsIn_wide.2 (labels_calls _ _)).mono ?_
          rintro e w2 ⟨rfl, rfl⟩
          rw [show (W.alloc (.cells #[.string ⟨#[]⟩, .bool true, .int .u32 0] 25)).heap.size = W.heap.size + 1 by simp]
          obtain ⟨W3, hW3⟩ : ∃ W', W' = (W.alloc (.cells #[.string ⟨#[]⟩, .bool true, .int .u32 0] 25)).alloc (.cells #[.string t] 9) := ⟨_, rfl⟩
          have hsz3 : W3.heap.size = W.heap.size + 2 := by rw [hW3]; simp
          have hQ0 : QSt n0 (n0 + 1) W.heap.size D 0 W3 := by
            rw [hW3]
            exact ⟨blk_alloc (blk_alloc HP.out.h _) _, blk_alloc (blk_alloc HP.out.e _) _, blk_alloc (blk_new _ _) _, blk_alloc (blk_alloc HK.out _) _⟩
          have hB3 : Below n0 w W3 := by
            rw [hW3]
            have h0 : n0 ≤ W.heap.size := by have := blk_lt HP.out.h; omega
            exact (HB.out.alloc h0 _).alloc (by simp; omega) _
          have hS3 : W3.cell? ⟨W.heap.size + 1, 0, none⟩ = some (.string t) := by
            have := blk_new (W.alloc (.cells #[.string ⟨#[]⟩, .bool true, .int .u32 0] 25)) (.cells #[.string t] 9)
            rw [show (W.alloc (.cells #[.string ⟨#[]⟩, .bool true, .int .u32 0] 25)).heap.size = W.heap.size + 1 by simp, ← hW3] at this
            exact blk_cell this 0
          have hDlt : D < W.heap.size := blk_lt HK.out
          have hnlt : n0 + 1 < W.heap.size := blk_lt HP.out.e
          have HN0D := Lib.hid (show n0 ≤ D from Nat.le_trans (by rw [HSZ.out]; omega) HDD.out)
          rw [← hW3]
          obtain ⟨bv, hbv⟩ : ∃ k, k = W.heap.size := ⟨_, rfl⟩
          rw [← hbv] at hQ0 hS3 hsz3 hDlt hnlt ⊢
          have HQ0 := Lib.hid hQ0
          have HS3 := Lib.hid hS3
          have HB3 := Lib.hid hB3
          have HSZ3 := Lib.hid hsz3
          clear hQ0 hS3 hB3 hsz3 hW3 hbv ch0 ch1 ch2 fh0 fh1 fh2 ce fe cc cl HP HB HK HDD HP0 HB0 HS0
          gi_wp2_with fail
          refine range_own (gf := 37) (lb := #[.pointer (some ⟨bv + 1, 0, none⟩)]) 10 (fun k : Nat => .string ((splitB t 46)[k]?.getD ByteArray.empty)) rfl (by omega) rfl trivial (enters_of Tryd.func37 (by kernel_rfl) rfl)
            (labels1_idx _ (by omega) t ?hts2 (bv + 1) (bv + 2) W3 (by rw [HSZ3.out]; exact Nat.le_refl _) (by rw [HSZ3.out]; omega) HS3.out) KpC.trans (fun W l o o' _ h1 h2 _ => kpC_b W l o o' h1 h2) (Below.refl _ _) (fun _ => rfl)
            (fun pre W => (∃ a, addrL (splitB t 46) pre = some a ∧ 0 ≤ a ∧ a ≤ 4294967295 ∧ QSt n0 (n0 + 1) bv D a W) ∧ Below n0 w W)
            (fun c pre W => (c = .ret ∧ addrL (splitB t 46) pre = none ∧ W.heap[n0]? = some (.cells #[.string ⟨#[]⟩, .bool false, .int .u32 0] 25 (0, 0)) ∧ W.heap[n0 + 1]? = some (.cells #[.int .i64 20] 26 (0, 0)) ∧ W.heap[D]? = some (.deferred (some []))) ∧ Below n0 w W)
            ?hI ?hIx ⟨⟨0, rfl, by omega, by omega, HQ0.out⟩, HB3.out⟩ ?assign2 ?body2 ?done2 ?stop2
          case hts2 => rw [HT.out, lowerB_size]; exact hs
          case hI =>
            refine OwnFrom.and ?_ (ownFrom_below (by rw [HN0.out]; exact Nat.le_refl _) (by rw [HSZ3.out]; omega))
            rintro pre A B row ⟨a, h2, h3, h4, h5⟩ hg hr
            exact ⟨a, h2, h3, h4, h5.own (by rw [HSZ3.out]; omega) hg hr⟩
          case hIx =>
            intro c
            refine OwnFrom.and ?_ (ownFrom_below (by rw [HN0.out]; exact Nat.le_refl _) (by rw [HSZ3.out]; omega))
            rintro pre A B row ⟨h1, h3, h4, h5, h6⟩ hg hr
            exact ⟨h1, h3, own_blk h4 hg (fun r e => (hr r e).2), own_blk h5 hg (fun r e => (hr r e).2), (hg.block D (blk_lt h6) (fun e => by have := (hr D e.symm).1; rw [HSZ3.out] at this; omega)).trans h6⟩
          case assign2 =>
            rintro l k W K hK
            simp only [encI, List.zip_toArray, List.zip_cons_cons, List.zip_nil_right, List.foldl_toArray, List.foldl_cons, List.foldl_nil] at hK ⊢
            go_simp
            gi_wp2
            exact hK
          case body2 =>
            rintro l pre k W4 ⟨⟨a, hadd, ha0, ha1, hQ⟩, hB⟩ hlen
            have ch0 : W4.cell? ⟨n0, 0, none⟩ = some (.string ⟨#[]⟩) := blk_cell hQ.h 0
            have ch1 : W4.cell? ⟨n0, 1, none⟩ = some (.bool false) := blk_cell hQ.h 1
            have ch2 : W4.cell? ⟨n0, 2, none⟩ = some (.int .u32 0) := blk_cell hQ.h 2
            have fh0 := blk_frozen hQ.h 0
            have fh1 := blk_frozen hQ.h 1
            have fh2 := blk_frozen hQ.h 2
            have ce : W4.cell? ⟨n0 + 1, 0, none⟩ = some (.int .i64 0) := blk_cell hQ.e 0
            have fe := blk_frozen hQ.e 0
            have cv : W4.cell? ⟨bv, 2, none⟩ = some (.int .u32 a) := blk_cell hQ.v 2
            have fv := blk_frozen hQ.v 2
            obtain ⟨b, hb⟩ : ∃ b, b = (splitB t 46)[k]?.getD ByteArray.empty := ⟨_, rfl⟩
            have hbs : b.size ≤ 9223372036854775806 := by
              rw [hb]
              exact Nat.le_trans (splitB_size t 46 k) (Nat.le_trans HTS.out (by decide))
            have HADD := Lib.hid hadd
            have HQ := Lib.hid hQ
            have HB := Lib.hid hB
            have HBB := Lib.hid hb
            clear hadd hQ hB hlen
            simp only [encI, ← hb, List.zip_toArray, List.zip_cons_cons, List.zip_nil_right, List.foldl_toArray, List.foldl_cons, List.foldl_nil]
            clear hb
            go_simp
            gi_wp2_with fail
            refine ⟨trivial, ?_⟩
            refine (CallsIn.inRound l (callsIn_wide.2 (number_calls b _ hbs))).mono ?_
            rintro e w' ⟨rfl, ⟨nd, rfl⟩⟩
            obtain ⟨v, hv⟩ : ∃ v, v = (numB b).1 := ⟨_, rfl⟩
            obtain ⟨ok, hok⟩ : ∃ v, v = (numB b).2 := ⟨_, rfl⟩
            have hv0 := (numB_bound b).1
            have hv1 := (numB_bound b).2
            rw [← hv] at hv0 hv1 ⊢
            rw [← hok]
            have HV := Lib.hid hv
            have HOK := Lib.hid hok
            clear hv hok
            cases ok
            · gi_wp2_with fail
              obtain ⟨f1, f2, f3, f4⟩ := set4_facts (W := W4.drewN nd) HQ.out.h HQ.out.e (.string ⟨#[]⟩) (.bool false) (.int .u32 0) (.int .i64 20)
              refine ⟨(keeps_drewN W4 nd).trans f3, ⟨rfl, ?_, f1, f2, f3.same D _ HQ.out.d rfl⟩, (pw_below_drewN HB.out nd).trans f4⟩
              rw [addrL_snoc, HADD.out]
              unfold addrNext
              rw [← HBB.out, ← HOK.out]
              rfl
            · obtain ⟨ho1, ho2, ho3⟩ := addr_or a v ha0 hv0 hv1
              have HO1 := Lib.hid ho1
              have HO2 := Lib.hid ho2
              have HO3 := Lib.hid ho3
              clear ho1 ho2 ho3
              gi_wp2_with fail
              rw [HO1.out]
              refine ⟨(keeps_drewN W4 nd).trans (KeepsOthers.setCell _ _ _), (show KpC (bv + 2) W4 (W4.drewN nd) from KpC.refl _ W4).trans (kpC_set (p := ⟨bv, 2, none⟩) _ _ (show bv < bv + 2 by omega)), ⟨addrStep a v, ?_, HO2.out, HO3.out, ?_⟩, (pw_below_drewN HB.out nd).setCell (p := ⟨bv, 2, none⟩) (show n0 ≤ bv by omega) _⟩
              · rw [addrL_snoc, HADD.out]
                unfold addrNext
                rw [← HBB.out, ← HOK.out, ← HV.out]
                rfl
              · exact ⟨blk_far (w := W4.drewN nd) (p := ⟨bv, 2, none⟩) HQ.out.h (show n0 ≠ bv by omega) _, blk_far (w := W4.drewN nd) (p := ⟨bv, 2, none⟩) HQ.out.e (show n0 + 1 ≠ bv by omega) _, blk_set (w := W4.drewN nd) HQ.out.v 2 _, (KeepsOthers.setCell (W4.drewN nd) ⟨bv, 2, none⟩ _).same D _ HQ.out.d rfl⟩
          case done2 =>
            rintro D2 ys W4 hD2 rfl ⟨⟨a, hadd, ha0, ha1, hQ⟩, hB⟩ hK
            have hpr : pr = ⟨⟨#[]⟩, true, a, 0⟩ := by
              rw [HPR.out, ← HT.out, parseB_addr t (by rw [← HXS.out]; exact HAL.out) (by omega) (by rw [← HXS.out, ← HLA.out]; exact HR.out.symm) (by rw [← HXS.out]; have := H4.out; omega), hadd]
            have ch0 : W4.cell? ⟨n0, 0, none⟩ = some (.string ⟨#[]⟩) := blk_cell hQ.h 0
            have ch1 : W4.cell? ⟨n0, 1, none⟩ = some (.bool false) := blk_cell hQ.h 1
            have ch2 : W4.cell? ⟨n0, 2, none⟩ = some (.int .u32 0) := blk_cell hQ.h 2
            have fh0 := blk_frozen hQ.h 0
            have fh1 := blk_frozen hQ.h 1
            have fh2 := blk_frozen hQ.h 2
            have ce : W4.cell? ⟨n0 + 1, 0, none⟩ = some (.int .i64 0) := blk_cell hQ.e 0
            have fe := blk_frozen hQ.e 0
            have cv0 : W4.cell? ⟨bv, 0, none⟩ = some (.string ⟨#[]⟩) := blk_cell hQ.v 0
            have cv1 : W4.cell? ⟨bv, 1, none⟩ = some (.bool true) := blk_cell hQ.v 1
            have cv2 : W4.cell? ⟨bv, 2, none⟩ = some (.int .u32 a) := blk_cell hQ.v 2
            have HPP := Lib.hid hpr
            have HQ := Lib.hid hQ
            have HB := Lib.hid hB
            have HK := Lib.hid hK
            have HDD := Lib.hid hD2
            clear hpr hadd hQ hB hK hD2
            gi_wp2_with fail
            obtain ⟨f1, f2, f3, f4⟩ := set4_facts HQ.out.h HQ.out.e (.string ⟨#[]⟩) (.bool true) (.int .u32 a) (.int .i64 0)
            refine leave2 _ _ _ _ rfl rfl f1 f2 (Nat.le_trans (by rw [HSZ3.out]; omega) HDD.out) HN0D.out (f3.same D2 _ HK.out rfl) (f3.same D _ HQ.out.d rfl) (fun e => by have := HDD.out; rw [HSZ3.out] at this; omega) (fun W2 hb => ⟨by rw [HPP.out]; rfl, ?_⟩)
            rw [← HN0.out]
            exact (HB.out.trans f4).trans hb
          case stop2 =>
            rintro D2 c pre W4 hD2 ⟨k, hk, rfl⟩ ⟨⟨rfl, hadd, hh, he, hd⟩, hB⟩ hK
            have hpr : pr = bad := by
              rw [HPR.out, ← HT.out, parseB_addr t (by rw [← HXS.out]; exact HAL.out) (by omega) (by rw [← HXS.out, ← HLA.out]; exact HR.out.symm) (by rw [← HXS.out]; have := H4.out; omega), addrL_none _ k _ hk hadd]
            have HPP := Lib.hid hpr
            have HHH := Lib.hid hh
            have HEE := Lib.hid he
            have HDE := Lib.hid hd
            have HB := Lib.hid hB
            have HK := Lib.hid hK
            have HDD := Lib.hid hD2
            clear hpr hadd hh he hd hB hK hD2
            gi_wp2_with fail
            refine leave2 _ _ _ _ rfl rfl HHH.out HEE.out (Nat.le_trans (by rw [HSZ3.out]; omega) HDD.out) HN0D.out HK.out HDE.out (fun e => by have := HDD.out; rw [HSZ3.out] at this; omega) (fun W2 hb => ⟨by rw [HPP.out]; rfl, ?_⟩)
            rw [← HN0.out]
            exact HB.out.trans hb
        · have hb4 : ((xs.length : Int) != 4) = true := bne_iff_ne.2 h4
          have H4 := Lib.hid h4
          clear h4
          gi_wp2_with fail
          have hpr : pr = bad := by
            rw [HPR.out, ← HT.out]
            exact parseB_count t (by rw [← HXS.out]; exact HAL.out) (by omega) (by rw [← HXS.out, ← HLA.out]; exact HR.out.symm) (by rw [← HXS.out]; exact fun e => H4.out (by omega))
          obtain ⟨f1, f2, f3, f4⟩ := set4_facts HP.out.h HP.out.e (.string ⟨#[]⟩) (.bool false) (.int .u32 0) (.int .i64 20)
          refine leave1 (.string ⟨#[]⟩) (.bool false) (.int .u32 0) (.int .i64 20) rfl rfl f1 f2 (Nat.le_trans (by rw [HSZ.out]; omega) HDD.out) (f3.same D _ HK.out rfl) (fun W2 hb => ⟨by rw [hpr]; rfl, ?_⟩)
          rw [← HN0.out]
          exact (HB.out.trans f4).trans hb
end Go.Proofs.YtbhlmdaogdhjdaaDoor.H
