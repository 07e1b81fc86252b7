import Derived.Test.YtbkahblcabmdkaaXa
import Derived.Maps.Own
import Derived.Maps.OwnSet
import Derived.Maps.OwnOps
import Derived.Maps.Views
import Derived.Lib.SlKeysI
import Derived.Lib.Hide
/-! A map of frames as a list of frames. -/
namespace Go.Proofs.Ytbkahblcabmdkaa.F
open Go.RowKit Go.Maps Go.Proofs.YtbkahblcabmdkaaW.PrintWords Go.Proofs.Ytbkahblcabmdkaa.X
set_option linter.unusedVariables false

abbrev Fr := S36
abbrev kFr : Kd Fr := k36
def z0 : Fr := ⟨0, 0, 0⟩
def frV (f : Fr) : Value := .agg #[.int .i64 f.f0, .int .i64 f.f1, .int .i64 f.f2]
def frD (f : Fr) : DataW Unit := .agg [.lit (.int .i64 f.f0), .lit (.int .i64 f.f1), .lit (.int .i64 f.f2)]
def frElem : Value → Option (DataW Unit × List MemPlace)
  | .agg cs => match cs.toList with
    | [.int .i64 a, .int .i64 b, .int .i64 c] => some (.agg [.lit (.int .i64 a), .lit (.int .i64 b), .lit (.int .i64 c)], [])
    | _ => none
  | _ => none
theorem frElem_mk (f : Fr) : frElem (frV f) = some (frD f, []) := rfl
theorem frElem_inv {v : Value} {f : Fr} {ps : List MemPlace} (h : frElem v = some (frD f, ps)) : v = frV f := by
  unfold frElem at h
  split at h
  · rename_i cs
    split at h
    case h_2 => cases h
    rename_i a b c e
    obtain rfl : cs = #[.int .i64 a, .int .i64 b, .int .i64 c] := Array.toList_inj.1 e
    simp only [frD, Option.some.injEq, Prod.mk.injEq, DataW.agg.injEq, List.cons.injEq, DataW.lit.injEq, Lit.int.injEq, true_and, and_true] at h
    obtain ⟨⟨rfl, rfl, rfl⟩, _⟩ := h
    rfl
  · cases h
def blElem : Value → Option (DataW Unit × List MemPlace)
  | .bool b => some (.lit (.bool b), [])
  | _ => none
theorem blElem_mk (b : Bool) : blElem (.bool b) = some (.lit (.bool b), []) := rfl
theorem blElem_inv {v : Value} {b : Bool} {ps : List MemPlace} (h : blElem v = some (.lit (.bool b), ps)) : v = .bool b := by
  unfold blElem at h
  split at h
  · simp only [Option.some.injEq, Prod.mk.injEq, DataW.lit.injEq, Lit.bool.injEq] at h
    rw [h.1]
  · cases h
theorem intLaw : Keyed Try.prog 3 := int_keyed Try.underlying3
theorem zeroF (w : World) : (zeroValue 36).run Try.prog w = .ok (.agg #[.int .i64 0, .int .i64 0, .int .i64 0]) w := by kernel_rfl
theorem zeroB (w : World) : (zeroValue 4).run Try.prog w = .ok (.bool false) w := by kernel_rfl
def key (k : Int) : Lit := .int .i64 k
theorem keyOf_mk {k : Int} (h0 : -9223372036854775808 ≤ k) (h1 : k ≤ 9223372036854775807) : keyOf Try.prog 3 (.int .i64 k) = some (key k) := keyOf_int_mk Try.underlying3 (by simp only [Lit.wf, Bool.and_eq_true, decide_eq_true_eq]; exact ⟨h0, h1⟩)
theorem same_key (a b : Int) : (key a).sameKey (key b) = decide (a = b) := by simp [key, Lit.sameKey]
/-- Entries of a list. -/
def ents {α : Type} (e : α → DataW Unit) (F : List (Int × α)) : List (Lit × DataW Unit) := F.map fun f => (key f.1, e f.2)
/-- What is in place k. -/
def look {α : Type} (F : List (Int × α)) (k : Int) : Option α := (F.find? (fun f => f.1 == k)).map (·.2)
/-- The map reads as the list. -/
def MapIs {α : Type} (e : α → DataW Unit) (D : DataW Unit) (F : List (Int × α)) : Prop := ∃ es, D = .map es ∧ es.Perm (ents e F)
theorem nodup_ents {α : Type} (e : α → DataW Unit) {F : List (Int × α)} (hn : (F.map (·.1)).Nodup) {es : List (Lit × DataW Unit)} (hp : es.Perm (ents e F)) : (es.map (·.1)).Nodup := by
  have h : ((ents e F).map (·.1)).Nodup := by
    unfold ents
    rw [List.map_map]
    unfold List.Nodup at hn ⊢
    rw [List.pairwise_map] at hn ⊢
    exact hn.imp (fun {a b} h e => h (by simpa [key] using e))
  exact (hp.map (·.1)).nodup_iff.2 h
theorem find_mem {es : List (Lit × DataW Unit)} (hn : (es.map (·.1)).Nodup) {k : Int} {d : DataW Unit} (hm : (key k, d) ∈ es) : es.find? (fun p => p.1.sameKey (key k)) = some (key k, d) := by
  induction es with
  | nil => cases hm
  | cons x es ih =>
    rw [List.map_cons, List.nodup_cons] at hn
    rw [List.find?_cons]
    rcases List.mem_cons.1 hm with e | hm
    · rw [← e, same_key]; simp
    · have hne : x.1.sameKey (key k) = false := by
        cases hs : x.1.sameKey (key k) with
        | false => rfl
        | true =>
          have := WideAt.sameKey_eq hs
          exact absurd (List.mem_map.2 ⟨_, hm, this.symm⟩) hn.1
      rw [hne]
      exact ih hn.2 hm
theorem look_mem {α : Type} {F : List (Int × α)} {k : Int} {a : α} (h : look F k = some a) : (k, a) ∈ F := by
  unfold look at h
  obtain ⟨f, hf, rfl⟩ := Option.map_eq_some_iff.1 h
  have := List.find?_some hf
  have e : f.1 = k := by simpa using this
  rw [← e]
  exact List.mem_of_find?_eq_some hf
theorem look_none {α : Type} {F : List (Int × α)} {k : Int} (h : look F k = none) : ∀ f ∈ F, f.1 ≠ k := by
  unfold look at h
  rw [Option.map_eq_none_iff, List.find?_eq_none] at h
  intro f hf e
  exact h f hf (by simpa using e)
theorem MapIs.at_ {α : Type} {e : α → DataW Unit} {D : DataW Unit} {F : List (Int × α)} (h : MapIs e D F) (hn : (F.map (·.1)).Nodup) (k : Int) (z : α) : D.atKey (key k) (e z) = e ((look F k).getD z) := by
  obtain ⟨es, rfl, hp⟩ := h
  have hne := nodup_ents e hn hp
  unfold DataW.atKey
  simp only
  cases hl : look F k with
  | some a =>
    have hm : (key k, e a) ∈ es := hp.mem_iff.2 (List.mem_map.2 ⟨(k, a), look_mem hl, rfl⟩)
    rw [find_mem hne hm]
    rfl
  | none =>
    have : es.find? (fun p => p.1.sameKey (key k)) = none := by
      rw [List.find?_eq_none]
      intro p hp' hs
      obtain ⟨f, hf, e2⟩ := List.mem_map.1 (hp.mem_iff.1 hp')
      have := WideAt.sameKey_eq hs
      rw [← e2] at this
      exact look_none hl f hf (by simpa [key] using this)
    rw [this]
    rfl
theorem MapIs.has {α : Type} {e : α → DataW Unit} {D : DataW Unit} {F : List (Int × α)} (h : MapIs e D F) (k : Int) : Maps.has D (key k) = (look F k).isSome := by
  obtain ⟨es, rfl, hp⟩ := h
  show es.any (fun p => p.1.sameKey (key k)) = _
  rw [Bool.eq_iff_iff, List.any_eq_true]
  cases hl : look F k with
  | some a => exact ⟨fun _ => rfl, fun _ => ⟨(key k, e a), hp.mem_iff.2 (List.mem_map.2 ⟨(k, a), look_mem hl, rfl⟩), by rw [same_key]; simp⟩⟩
  | none =>
    refine ⟨fun ⟨p, hp', hs⟩ => ?_, fun h => by cases h⟩
    obtain ⟨f, hf, e2⟩ := List.mem_map.1 (hp.mem_iff.1 hp')
    have := WideAt.sameKey_eq hs
    rw [← e2] at this
    exact absurd (by simpa [key] using this) (look_none hl f hf)
theorem MapIs.size {α : Type} {e : α → DataW Unit} {D : DataW Unit} {F : List (Int × α)} (h : MapIs e D F) : Maps.size D = F.length := by
  obtain ⟨es, rfl, hp⟩ := h
  show es.length = _
  rw [hp.length_eq, ents, List.length_map]
theorem MapIs.keys {α : Type} {e : α → DataW Unit} {D : DataW Unit} {F : List (Int × α)} (h : MapIs e D F) : (intKeys D).Perm (F.map (·.1)) := by
  obtain ⟨es, rfl, hp⟩ := h
  have := hp.map (fun p => intOf p.1)
  refine this.trans ?_
  rw [ents, List.map_map]
  exact List.Perm.refl _
theorem MapIs.nil {α : Type} (e : α → DataW Unit) : MapIs e (.map []) [] := ⟨[], rfl, List.Perm.refl _⟩
theorem MapIs.del {α : Type} {e : α → DataW Unit} {D : DataW Unit} {F : List (Int × α)} (h : MapIs e D F) (k : Int) : MapIs e (D.del (key k)) (F.filter fun f => !(f.1 == k)) := by
  obtain ⟨es, rfl, hp⟩ := h
  refine ⟨_, rfl, (hp.filter _).trans ?_⟩
  have : (ents e F).filter (fun p => !p.1.sameKey (key k)) = ents e (F.filter fun f => !(f.1 == k)) := by
    unfold ents
    rw [List.filter_map]
    congr 1
    apply List.filter_congr
    intro f _
    simp only [same_key, Function.comp]
    rw [show decide (f.1 = k) = (f.1 == k) by rw [Bool.eq_iff_iff]; simp]
  rw [this]
theorem MapIs.put_del {α : Type} {e : α → DataW Unit} {D : DataW Unit} {F : List (Int × α)} (h : MapIs e D F) (k : Int) (a : α) : MapIs e (D.put (key k) (e a)) ((F.filter fun f => !(f.1 == k)) ++ [(k, a)]) := by
  obtain ⟨es, hes, hp⟩ := h.del k
  obtain ⟨es0, rfl, hp0⟩ := h
  obtain rfl : es0.filter (fun p => !p.1.sameKey (key k)) = es := by
    have : DataW.map (es0.filter fun p => !p.1.sameKey (key k)) = DataW.map es := hes
    injection this
  refine ⟨_, rfl, (Go.WideShapes.insert_perm _ _).trans ?_⟩
  refine (List.Perm.cons _ hp).trans ?_
  unfold ents
  rw [List.map_append]
  exact (List.perm_append_singleton _ _).symm
theorem MapIs.perm {α : Type} {e : α → DataW Unit} {D : DataW Unit} {F G : List (Int × α)} (h : MapIs e D F) (hp : F.Perm G) : MapIs e D G := by
  obtain ⟨es, rfl, hq⟩ := h
  exact ⟨es, rfl, hq.trans (hp.map _)⟩
end Go.Proofs.Ytbkahblcabmdkaa.F
