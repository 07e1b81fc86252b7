import Derived.Test.YtbkahblcabmdkaaWWords
import Derived.SizedLaws
import Derived.Carry
import Derived.DataReads
import Derived.DataElems
import Derived.Lib.SmallJoins
/-! What an argument's reading tells in the words of the kinds: for the rows of laws over slices and structs. -/
namespace Go.Proofs.Ytbkahblcabmdkaa.Ro
open Go.RowKit Go.Proofs.YtbkahblcabmdkaaW.PrintWords Go.Joins Go.Deep

/-- Whatever reads as data of type t is a value of the kind d, of which Q holds. -/
def Opens (P : Program) (t : TypeId) {α : Type} (d : Kd α) (Q : α → Prop) : Prop :=
  ∀ (H : Type) (enc : TypeId × Value → H) (w : World) (base : Nat) (spare : Nat → Bool) (held : Bool) (fuel : Nat) (cs : List Value) (x : DataW H × List MemPlace), DataW.trod enc P w base spare held fuel t cs = some x → ∃ a : α, d.K w a cs ∧ Q a
theorem Opens.string {P : Program} {t : TypeId} (ht : P.underlying t = some .string) : Opens P t Kd.string (fun s => s.size ≤ maxLen) := by
  intro H enc w base spare held fuel cs x h
  obtain ⟨s, rfl, _, hs⟩ := DataW.trod_string ht h
  exact ⟨s, rfl, hs⟩
theorem Opens.int {P : Program} {t : TypeId} {k : IntKind} (ht : P.underlying t = some (.int k)) : Opens P t (Kd.int k) (fun n => (Lit.int k n).wf = true) := by
  intro H enc w base spare held fuel cs x h
  obtain ⟨n, rfl, _, hs⟩ := DataW.trod_int ht h
  exact ⟨n, rfl, hs⟩
theorem Opens.bool {P : Program} {t : TypeId} (ht : P.underlying t = some .bool) : Opens P t Kd.bool (fun _ => True) := by
  intro H enc w base spare held fuel cs x h
  obtain ⟨n, rfl, _⟩ := DataW.trod_bool ht h
  exact ⟨n, rfl, trivial⟩
theorem gather {α : Type} {p : Nat → α → Prop} : ∀ n, (∀ i, i < n → ∃ x, p i x) → ∃ xs : List α, xs.length = n ∧ ∀ i x, xs[i]? = some x → p i x
  | 0, _ => ⟨[], rfl, fun i x h => by simp at h⟩
  | n + 1, h => by
    obtain ⟨xs, hl, hx⟩ := gather n (fun i hi => h i (by omega))
    obtain ⟨y, hy⟩ := h n (by omega)
    refine ⟨xs ++ [y], by simp [hl], fun i x hi => ?_⟩
    rcases Nat.lt_or_ge i xs.length with h1 | h1
    · rw [List.getElem?_append_left h1] at hi; exact hx i x hi
    · have h2 := (List.getElem?_eq_some_iff.1 hi).1
      rw [List.length_append, List.length_singleton] at h2
      obtain rfl : i = n := by omega
      rw [List.getElem?_append_right (by omega), hl, Nat.sub_self] at hi
      have : y = x := by simpa using hi
      rw [← this]; exact hy
theorem Opens.slice {P : Program} {t e : TypeId} {α : Type} {d : Kd α} {Q : α → Prop} (ht : P.underlying t = some (.slice e)) (hc : P.cellsOf e = d.sz) (he : Opens P e d Q) : Opens P t (Kd.slice e d) (fun xs => xs.length ≤ maxLen ∧ ∀ x ∈ xs, Q x) := by
  intro H enc w base spare held fuel cs x h
  rcases DataW.trod_slice ht h with ⟨rfl, _⟩ | ⟨a, len, cap, elems, rest, n, _, rfl, _, _, hl, hm, hlen, hel, _, _⟩
  · exact ⟨[], ⟨none, 0, rfl, Nat.le_refl _, Kd.C_nil d w⟩, Nat.zero_le _, fun x hx => by simp at hx⟩
  · have hall : ∀ i, i < len → ∃ x : α, (∃ c, c.length = d.sz ∧ d.K w x c ∧ ∀ j u, c[j]? = some u → w.cell? (a.add (i * d.sz + j)) = some u) ∧ Q x := by
      intro i hi
      have h1 := hel i hi
      rw [List.getElem?_eq_getElem (by omega), Option.bind_eq_some_iff] at h1
      obtain ⟨c, hcs, hy⟩ := h1
      obtain ⟨_, hcl, hcell⟩ := World.cells?_some hcs
      obtain ⟨x, hx, hq⟩ := he H enc w base spare held n c _ hy
      refine ⟨x, ⟨c, hcl.trans hc, hx, fun j u hj => ?_⟩, hq⟩
      rw [← Addr.add_add, ← hc, hcell j (by have := (List.getElem?_eq_some_iff.1 hj).1; omega)]
      exact hj
    obtain ⟨xs, hxl, hx⟩ := gather len hall
    refine ⟨xs, ⟨some a, cap, by rw [hxl], by omega, rfl, by have := hm; unfold maxLen at this; omega, fun _ => ⟨a, rfl, fun j p hj => (hx j p hj).1⟩⟩, by omega, fun x hm => ?_⟩
    obtain ⟨i, hi, rfl⟩ := List.mem_iff_getElem.1 hm
    exact (hx i _ (List.getElem?_eq_getElem hi)).2
/-- Values in line, each of one cell. -/
def OpensL (P : Program) (ts : List TypeId) {α : Type} (d : Kd α) (Q : α → Prop) : Prop :=
  ∀ (H : Type) (enc : TypeId × Value → H) (w : World) (base : Nat) (spare : Nat → Bool) (held : Bool) (fuel : Nat) (vs : List Value), vs.length = ts.length →
    (∀ (i : Nat) t v, ts[i]? = some t → vs[i]? = some v → ∃ y, DataW.trod enc P w base spare held fuel t [v] = some y) → ∃ a : α, d.K w a vs ∧ Q a
theorem OpensL.one {P : Program} {t : TypeId} {α : Type} {d : Kd α} {Q : α → Prop} (h : Opens P t d Q) : OpensL P [t] d Q := by
  intro H enc w base spare held fuel vs hl hv
  obtain ⟨v, rfl⟩ : ∃ v, vs = [v] := by
    match vs, hl with
    | [v], _ => exact ⟨v, rfl⟩
  obtain ⟨y, hy⟩ := hv 0 t v rfl rfl
  exact h H enc w base spare held fuel [v] y hy
theorem OpensL.cons {P : Program} {t : TypeId} {ts : List TypeId} {α β : Type} {d : Kd α} {d' : Kd β} {Q : α → Prop} {Q' : β → Prop} (h : Opens P t d Q) (h' : OpensL P ts d' Q') : OpensL P (t :: ts) (Kd.pair d d') (fun x => Q x.1 ∧ Q' x.2) := by
  intro H enc w base spare held fuel vs hl hv
  obtain ⟨v, vs, rfl⟩ : ∃ v vs', vs = v :: vs' := by
    match vs, hl with
    | v :: vs, _ => exact ⟨v, vs, rfl⟩
  obtain ⟨y, hy⟩ := hv 0 t v rfl rfl
  obtain ⟨a, ha, hq⟩ := h H enc w base spare held fuel [v] y hy
  obtain ⟨b, hb, hq'⟩ := h' H enc w base spare held fuel vs (by simpa using hl) (fun i t' v' h1 h2 => hv (i + 1) t' v' (by simpa using h1) (by simpa using h2))
  exact ⟨(a, b), ⟨[v], vs, rfl, ha, hb⟩, hq, hq'⟩
theorem fields_read {H : Type} {enc : TypeId × Value → H} {P : Program} {w : World} {base : Nat} {spare : Nat → Bool} {held : Bool} {fuel : Nat} {t : TypeId} {fs : Array Field} {cs : List Value} {x : DataW H × List MemPlace}
    (ht : P.underlying t = some (.struct fs)) (hone : oneCellFields P fs = true) (hC : P.cellsOf t = fs.size) (h : DataW.trod enc P w base spare held fuel t cs = some x) :
    cs.length = fs.size ∧ ∃ n, ∀ (i : Nat) f v, fs[i]? = some f → cs[i]? = some v → ∃ y, DataW.trod enc P w base spare held n f.type [v] = some y := by
  obtain ⟨xs, n, rfl, _, hl, hxl, hx⟩ := DataW.trod_struct ht h
  refine ⟨hl.trans hC, n, fun i f v hf hv => ?_⟩
  obtain ⟨o, k⟩ := hone_of hone i f hf
  have h1 := hx i f hf
  rw [o, k] at h1
  have hi := (List.getElem?_eq_some_iff.1 hv).1
  have hone' : (cs.drop i).take 1 = [v] := by
    rw [List.drop_eq_getElem_cons hi, List.take_succ_cons, List.take_zero]
    rw [List.getElem?_eq_getElem hi] at hv
    rw [Option.some.inj hv]
  rw [hone'] at h1
  rw [h1, List.getElem?_eq_getElem (by have := (Array.getElem?_eq_some_iff.1 hf).1; omega)]
  exact ⟨_, rfl⟩
theorem Opens.struct {P : Program} {t : TypeId} {fs : Array Field} {ts : List TypeId} {α β : Type} {d : Kd α} {Q : α → Prop} (f : β → α) (g : α → β) (hfg : ∀ a, f (g a) = a) (ht : P.underlying t = some (.struct fs)) (hone : oneCellFields P fs = true) (hC : P.cellsOf t = fs.size)
    (hts : fs.toList.map (·.type) = ts) (h : OpensL P ts d Q) : Opens P t (Kd.iso d f) (fun b => Q (f b)) := by
  intro H enc w base spare held fuel cs x hx
  obtain ⟨hl, n, hr⟩ := fields_read ht hone hC hx
  subst hts
  obtain ⟨a, ha, hq⟩ := h H enc w base spare held n cs (by simpa using hl) (fun i t' v h1 h2 => by
    rw [List.getElem?_map, Option.map_eq_some_iff] at h1
    obtain ⟨f', h1, rfl⟩ := h1
    exact hr i f' v (by simpa using h1) h2)
  exact ⟨g a, by show d.K w (f (g a)) cs; rw [hfg]; exact ha, by show Q (f (g a)); rw [hfg]; exact hq⟩
/-- A slice that came in: its list. -/
theorem slice_arg {P : Program} {t e : TypeId} {α : Type} {d : Kd α} {Q : List α → Prop} (h : Opens P t (Kd.slice e d) Q) {H : Type} {enc : TypeId × Value → H} {w : World} {base : Nat} {spare : Nat → Bool} {held : Bool} {a : Option Addr} {len cap : Nat} {x : DataW H} {p : List MemPlace}
    (ht : DataW.Trod enc P w base spare held t (.slice a len cap) x p) : ∃ xs : List α, len = xs.length ∧ xs.length ≤ cap ∧ d.C w a xs.length xs ∧ Q xs := by
  obtain ⟨fuel, hf⟩ := ht
  obtain ⟨xs, ⟨A, c, hcs, hl, hC⟩, hq⟩ := h H enc w base spare held fuel _ _ hf
  simp only [Value.cells, List.cons.injEq, Value.slice.injEq, and_true] at hcs
  obtain ⟨rfl, rfl, rfl⟩ := hcs
  exact ⟨xs, rfl, hl, hC, hq⟩
/-- A slice that came in is no longer than the reach lets it be. -/
theorem slice_size {P : Program} {t e : TypeId} (ht : P.underlying t = some (.slice e)) {H : Type} {enc : TypeId × Value → H} {w : World} {base : Nat} {spare : Nat → Bool} {held : Bool} {a : Option Addr} {len cap : Nat} {x : DataW H} {p : List MemPlace} {ts : List TypeId} {ds : List (DataW H)} {j : Nat}
    (hsz : (DataW.weightsEach P ts ds).all (· ≤ reachBytes) = true) (hj : ts[j]? = some t) (hd : ds[j]? = some x) {B : Nat} (hB : P.bytesOf e = B) (h : DataW.Trod enc P w base spare held t (.slice a len cap) x p) : len * B ≤ 140737488351232 := by
  obtain ⟨fuel, hf⟩ := h
  rcases DataW.trod_slice ht hf with ⟨hcs, _⟩ | ⟨a', len', cap', elems, rest, n, _, hcs, hx, _, hl, hm, hlen, hel, _, _⟩
  · simp only [Value.cells, List.cons.injEq, Value.slice.injEq, and_true] at hcs
    obtain ⟨_, rfl, _⟩ := hcs
    simp
  · simp only [Value.cells, List.cons.injEq, Value.slice.injEq, and_true] at hcs
    obtain ⟨_, rfl, _⟩ := hcs
    obtain ⟨rfl, _⟩ := Prod.mk.inj hx
    have z := sized_slice hsz hj hd ht
    rw [hB] at z
    exact Nat.le_trans (Nat.mul_le_mul_right _ (by simp; omega)) z
/-- What was read before the call reads so behind it. -/
theorem lt_of {P : Program} {H : Type} {enc : TypeId × Value → H} {w : World} {t : TypeId} {v : Value} {x : DataW H} {p : List MemPlace} (h : DataW.Trod enc P w 0 (fun _ => true) true t v x p) : ∀ y ∈ p, y.block < w.heap.size := by
  obtain ⟨m, hm⟩ := h
  exact DataW.trod_lt m _ _ _ hm
end Go.Proofs.Ytbkahblcabmdkaa.Ro
