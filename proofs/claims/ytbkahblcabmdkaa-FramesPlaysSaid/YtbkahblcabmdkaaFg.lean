import Derived.Test.YtbkahblcabmdkaaFf
/-! The tree: Below. -/
namespace Go.Proofs.Ytbkahblcabmdkaa.F
open Go.RowKit Go.Proofs.YtbkahblcabmdkaaW.PrintWords Go.Proofs.Ytbkahblcabmdkaa.X
set_option linter.unusedVariables false

/-- A map that a literal or an assignment fills: the operation 'insert'. -/
theorem wpList_insert_own {H : Type} {P : Program} (w : World) {ops : Array Oper} {rest : List Oper} {o : Oper} {a : Act} {Q : Exit → Act → World → Prop}
    (hg : o.guard = none) (m x v : Operand) (t : TypeId) (hop : o.op = Op.insert t m x v)
    (k e : TypeId) (K : Maps.Keyed P k) (ht : P.underlying t = some (.map k e)) (R : Value → Option (DataW H × List MemPlace)) (b n : Nat) (D : DataW H)
    (hm : a.eval m = .map (some b)) (hown : w.ownsMap P k R b n D) (hn : n < maxLen) (key val : Value) (kl : Lit) (hx : a.eval x = key) (hv : a.eval v = val) (hkey : keyOf P k key = some kl)
    (d : DataW H) (ps : List MemPlace) (hval : R val = some (d, ps))
    (hK : ∀ w', w'.ownsMap P k R b (n + 1) (D.put kl d) → w.grownBy w' (some b) → wpList P ops Q rest (a.put o.dst undef) w') :
    wpList P ops Q (o :: rest) a w := by
  refine wpList_plain hg fun K' hK' => ?_
  obtain ⟨w', hrun, r1, r2⟩ := hown.update K ht hn hkey hval
  unfold Oper.wp
  simp [execOp, hop, hm, hx, hv, hrun, Result.andThen]
  exact hK' _ _ (hK w' r1 r2)
def eB (b : Bool) : DataW Unit := .lit (.bool b)
/-- Block bi is the map of what goes: id, and what has come out. -/
def InSt (w : World) (bi : Nat) (id : Int) (out : List Int) : Prop :=
  ∃ n D L, w.ownsMap Try.prog 3 blElem bi n D ∧ MapIs eB D L ∧ (L.map (·.1)).Nodup ∧ (∀ a, (look L a).getD false = (id :: out).contains a) ∧ n ≤ out.length + 1
theorem InSt.tells {w : World} {bi : Nat} {id : Int} {out : List Int} (h : InSt w bi id out) {k : Int} (h0 : -9223372036854775808 ≤ k) (h1 : k ≤ 9223372036854775807) {b : Bool} (hb : (id :: out).contains k = b) :
    (Instr.lookup 69 (.map (some bi)) (.int .i64 k) false).run Try.prog w = .ok (.bool b) w := by
  obtain ⟨n, D, L, hm, hM, hn, hl, _⟩ := h
  obtain ⟨v, ps, hrun, hv⟩ := hm.lookup (t := 69) intLaw Try.underlying69 (zeroB _) (show blElem (.bool false) = some (eB false, []) from rfl) (keyOf_mk h0 h1)
  rw [hM.at_ hn k false, hl k, hb] at hv
  rw [blElem_inv hv] at hrun
  exact hrun
theorem look_app {α : Type} (L : List (Int × α)) (k : Int) (x : α) (a : Int) : look ((L.filter fun f => !(f.1 == k)) ++ [(k, x)]) a = if a = k then some x else look L a := by
  unfold look
  rw [List.find?_append]
  by_cases h : a = k
  · subst h
    rw [if_pos rfl]
    have : (L.filter fun f => !(f.1 == a)).find? (fun f => f.1 == a) = none := by
      rw [List.find?_eq_none]
      intro f hf
      have := (List.mem_filter.1 hf).2
      simpa using this
    rw [this]
    simp
  · rw [if_neg h]
    have h1 : [(k, x)].find? (fun f => f.1 == a) = none := by
      rw [List.find?_cons_of_neg (by simp; exact fun e => h e.symm)]; rfl
    rw [h1, Option.or_none, List.find?_filter]
    congr 1
    congr 1
    funext f
    by_cases e : f.1 = a
    · simp [e, h]
    · simp [e]
theorem nodup_app {α : Type} (L : List (Int × α)) (hn : (L.map (·.1)).Nodup) (k : Int) (x : α) : (((L.filter fun f => !(f.1 == k)) ++ [(k, x)]).map (·.1)).Nodup := by
  unfold List.Nodup at *
  rw [List.pairwise_map] at hn ⊢
  rw [List.pairwise_append]
  refine ⟨hn.filter _, List.pairwise_singleton _ _, fun a ha b hb => ?_⟩
  rw [List.mem_singleton] at hb
  subst hb
  have := (List.mem_filter.1 ha).2
  simpa using this
theorem InSt.put {w1 : World} {bi n : Nat} {id x : Int} {out : List Int} {D : DataW Unit} {L : List (Int × Bool)} (hM : MapIs eB D L) (hn : (L.map (·.1)).Nodup) (hl : ∀ a, (look L a).getD false = (id :: out).contains a) (hle : n ≤ out.length + 1)
    (h : w1.ownsMap Try.prog 3 blElem bi (n + 1) (D.put (key x) (eB true))) : InSt w1 bi id (out ++ [x]) := by
  refine ⟨n + 1, _, _, h, hM.put_del x true, nodup_app L hn x true, fun a => ?_, by rw [List.length_append, List.length_singleton]; omega⟩
  rw [look_app]
  by_cases e : a = x
  · subst e; rw [if_pos rfl]; simp
  · rw [if_neg e, hl a]
    have h1 : ∀ l : List Int, (l ++ [x]).contains a = l.contains a := fun l => by
      rw [Bool.eq_iff_iff]; simp; intro h2; exact absurd h2 e
    show _ = ((id :: out) ++ [x]).contains a
    rw [h1]
theorem InSt.turn {w w1 : World} {bi : Nat} {id : Int} {out : List Int} (h : InSt w bi id out) (h2 : w1.heap[bi]? = w.heap[bi]?) : InSt w1 bi id out := by
  obtain ⟨n, D, L, ⟨es, clock, hb, r⟩, hM⟩ := h
  exact ⟨n, D, L, ⟨es, clock, h2.trans hb, r⟩, hM⟩
theorem InSt.lt {w : World} {bi : Nat} {id : Int} {out : List Int} (h : InSt w bi id out) : bi < w.heap.size := by
  obtain ⟨n, D, L, hm, _⟩ := h
  exact hm.lt
theorem reads_turn {w w1 : World} {bi n : Nat} {A : Option Addr} {xs : List Int} (h : ReadsInt w .i64 A n xs) (hm : ∃ es c, w.heap[bi]? = some (.map es c)) (ht : Turn (fun i => i = bi) w w1) : ReadsInt w1 .i64 A n xs := by
  refine ⟨h.1, h.2.1, fun hn => ?_⟩
  obtain ⟨ad, e, hc⟩ := h.2.2 hn
  refine ⟨ad, e, fun j hj => ?_⟩
  have hcj := hc j hj
  refine (World.cell?_of_block (ht.block _ (World.block_lt_of_cell? w _ hcj) (fun e2 => ?_))).trans hcj
  obtain ⟨es, c, hb⟩ := hm
  rw [← e2] at hb
  simp [World.cell?, hb] at hcj
/-- Between two rounds. -/
structure BSt (w2 : World) (bi : Nat) (id : Int) (out : List Int) (v : Value) (wr : World) : Prop where
  inm : InSt wr bi id out
  out : Kd.R (Kd.int .i64) 3 wr w2.heap.size (fun k => k ≠ bi) v out
  turn : Turn (fun i => i = bi) w2 wr
theorem bel_take {F : List Fr} {k : Nat} (id : Int) (hk : k < F.length) : (F.take (k + 1)).foldl (belStep id) [] = belStep id ((F.take k).foldl (belStep id) []) F[k] := by
  rw [List.take_succ_eq_append_getElem hk, List.foldl_append]
  rfl
theorem bel_len (id : Int) : ∀ (F : List Fr) (out : List Int), (F.foldl (belStep id) out).length ≤ out.length + F.length
  | [], out => Nat.le_refl _
  | f :: F, out => by
    have h := bel_len id F (belStep id out f)
    have h2 : (belStep id out f).length ≤ out.length + 1 := by unfold belStep; split <;> simp
    rw [List.foldl_cons, List.length_cons]
    omega
set_option maxRecDepth 100000 in
set_option maxHeartbeats 2000000 in
theorem below_calls (g bm : Nat) (s : Tr) (id : Int) (h0 : -9223372036854775808 ≤ id) (h1 : id ≤ 9223372036854775807) (w : World) (h : TreeIn w g bm s) :
    Calls Try.prog 12 #[.pointer (some ⟨g, 0, none⟩), .int .i64 id] w fun e w' => ∃ v, e = .returned (.tuple #[v, .int .i64 (belF s id).2]) ∧ Kd.R (Kd.int .i64) 3 w' w.heap.size (fun _ => True) v (belF s id).1 ∧ Below w.heap.size w w' := by
  have HG := Lib.hid (get_calls g bm s id h0 h1 w h)
  have HT := Lib.hid h
  have hfine := h.fine
  have hlen : s.F.length ≤ 200 := by have := hfine.room; have := hfine.m1; omega
  have hmm := @run_makeMap Try.prog
  clear h
  cases hf : getF s.F id with
  | none =>
    rw [hf] at HG
    have e : belF s id = ([], 161) := by unfold belF; rw [hf]
    rw [e]
    clear e hf
    go_enter Try.func12, Try.ntmps12
    go_wp2_with fail
    refine HG.out.mono ?_
    rintro e w1 ⟨rfl, hb⟩
    have HB := Lib.hid hb
    clear hb
    dsimp only [Option.isSome, Option.getD, frV]
    go_wp2
    go_ret2
    exact ⟨_, rfl, Kd.R_nil _ _ _ _ _, below_alloc HB.out _⟩
  | some f0 =>
    rw [hf] at HG
    have e : belF s id = (belL s.F id, 0) := by unfold belF; rw [hf]
    rw [e]
    clear e hf
    go_enter Try.func12, Try.ntmps12
    go_wp2_with fail
    refine HG.out.mono ?_
    rintro e w1 ⟨rfl, hb⟩
    have HB := Lib.hid hb
    clear hb
    dsimp only [Option.isSome, Option.getD, frV]
    have hz : (w1.alloc (.cells #[.int .i64 f0.f0, .int .i64 f0.f1, .int .i64 f0.f2] 36)).heap.size = w1.heap.size + 1 := by simp
    have hmade := World.ownsMap_made (H := Unit) (w1.alloc (.cells #[.int .i64 f0.f0, .int .i64 f0.f1, .int .i64 f0.f2] 36)) Try.prog 3 blElem
    rw [hz] at hmade
    obtain ⟨w3, hrun, hown3, hg3⟩ := hmade.update (t := 69) (e := 4) intLaw Try.underlying69 (by unfold maxLen; omega) (keyOf_mk h0 h1) (show blElem (.bool true) = some (eB true, []) from rfl)
    have HIN := Lib.hid (show InSt w3 (w1.heap.size + 1) id [] from ⟨1, _, [(id, true)], hown3, by
      have := (MapIs.nil eB).put_del id true
      exact this, by simp, fun a => by
        unfold look
        by_cases e : id = a
        · simp [e]
        · have e2 : ¬ a = id := fun h => e h.symm
          simp [e, e2], by simp⟩)
    have HB3 := Lib.hid ((below_alloc (below_alloc HB.out (.cells #[.int .i64 f0.f0, .int .i64 f0.f1, .int .i64 f0.f2] 36)) (.map #[] 0)).grown hg3 (by have := HB.out.size; simp; omega) (fun k e => by cases e; have := HB.out.size; omega))
    have HBI : Hid (w.heap.size ≤ w1.heap.size + 1) := Lib.hid (by have := HB.out.size; omega)
    have hT3 := HT.out.below HB3.out
    have c2 : w3.cell? ⟨g, 2, none⟩ = some (.map (some bm)) := blk_cell hT3.t 2
    have HSO := Lib.hid (sorted_calls g bm s w3 hT3)
    clear hz hmade hown3 hg3 hT3
    go_wp2_with fail
    refine (keys_calls bm w3).mono ?_
    rintro e w4 ⟨rfl, rfl⟩
    go_wp2_with fail
    refine HSO.out.mono ?_
    rintro e w5 ⟨A, c, rfl, hR, hb⟩
    obtain ⟨bi, hbi⟩ : ∃ k, k = w1.heap.size + 1 := ⟨_, rfl⟩
    rw [← hbi] at HIN HBI ⊢
    have hin5 := HIN.out.turn (hb.block bi HIN.out.lt)
    have HB5 := Lib.hid (below_then HB3.out HB3.out.size hb)
    have HR := Lib.hid hR
    have HMP : Hid (∃ es c, w5.heap[bi]? = some (.map es c)) := by
      obtain ⟨n, D, L, ⟨es, clock, hb, _⟩, _⟩ := hin5
      exact Lib.hid ⟨es, clock, hb⟩
    have HL := Lib.hid (show BSt w5 bi id [] (.slice none 0 0) w5 from ⟨hin5, Kd.R_nil _ _ _ _ _, Turn.refl _ _⟩)
    clear hrun hbi hin5 hR hb HIN HSO c2 HG HB HB3
    go_wp2_with fail
    go_loopw [8, 31] (fun v i wr => ∃ k : Nat, k ≤ s.F.length ∧ i = .int .i64 k ∧ Hid (BSt w5 bi id ((s.F.take k).foldl (belStep id) []) v wr)) (fun _ i _ => s.F.length - (RowKit.intOf i).toNat)
    case atStart => exact ⟨0, Nat.zero_le _, rfl, HL.out⟩
    case round =>
      clear HL
      obtain ⟨k, hk, rfl, HL⟩ := hrel
      have HBW := Lib.hid (show Below w.heap.size w wr from (((Turn.of_below (S := fun i => i = bi) HB5.out).trans HL.out.turn (fun i hi => .inl hi))).below (Nat.le_refl _) (fun k hk => by subst hk; exact HBI.out))
      by_cases hlt : k < s.F.length
      · obtain ⟨ad, e1, hc⟩ := (reads_turn HR.out HMP.out HL.out.turn).at_ (k : Int) (by omega) (by omega)
        subst e1
        rw [ids_at hlt] at hc
        have hib := id_bounds hfine (List.getElem_mem hlt)
        have hpb : 0 ≤ s.F[k].f1 ∧ s.F[k].f1 ≤ 4611686018427387904 := by rcases hfine.par _ (List.getElem_mem hlt) with h | h <;> omega
        have hT := HT.out.below HBW.out
        have c2 : wr.cell? ⟨g, 2, none⟩ = some (.map (some bm)) := blk_cell hT.t 2
        have hl := hT.look (k := s.F[k].f0) (by omega) (by omega) (getF_at hfine hlt)
        have HNX := Lib.hid (bel_take (F := s.F) id hlt)
        have hol := bel_len id (s.F.take k) []
        rw [List.length_take] at hol
        obtain ⟨f, hf⟩ : ∃ f, f = s.F[k] := ⟨_, rfl⟩
        rw [← hf] at hc hib hl HNX hpb
        have hcast : (k : Int).toNat = k := by omega
        rw [hcast] at hc
        obtain ⟨out, hout⟩ : ∃ out, out = (s.F.take k).foldl (belStep id) [] := ⟨_, rfl⟩
        rw [← hout] at HL HNX hol
        have hol2 : out.length ≤ 200 := by simp at hol; omega
        obtain ⟨b1, hb1⟩ : ∃ b, (id :: out).contains f.f0 = b := ⟨_, rfl⟩
        obtain ⟨b2, hb2⟩ : ∃ b, (id :: out).contains f.f1 = b := ⟨_, rfl⟩
        have hi1 := HL.out.inm.tells (k := f.f0) (by omega) (by omega) hb1
        have hi2 := HL.out.inm.tells (k := f.f1) (by omega) (by omega) hb2
        have hfld : ∀ W : World, (Instr.field 36 (.agg #[.int .i64 f.f0, .int .i64 f.f1, .int .i64 f.f2]) 1).run Try.prog W = .ok (.int .i64 f.f1) W := field1 _ _ _
        have HST : Hid (belStep id out f = if (b1 || b2) = true then out ++ [f.f0] else out) := Lib.hid (by unfold belStep; rw [hb1, hb2])
        obtain ⟨A1, c1, e2⟩ := Kd.R_slice HL.out.out
        subst e2
        clear hf hT hcast hout hb1 hb2 hol
        cases hbb : (b1 || b2)
        · have HS2 : Hid ((s.F.take (k + 1)).foldl (belStep id) [] = out) := Lib.hid (by rw [HNX.out, HST.out, hbb]; rfl)
          obtain ⟨rfl, rfl⟩ : b1 = false ∧ b2 = false := by simpa using hbb
          clear HNX HST hbb
          go_wp2
          go_roundw
          case rel => exact ⟨k + 1, by omega, by simp, by rw [HS2.out]; exact HL.out⟩
          case measure => simp [RowKit.intOf]; omega
        · have HS2 : Hid ((s.F.take (k + 1)).foldl (belStep id) [] = out ++ [f.f0]) := Lib.hid (by rw [HNX.out, HST.out, hbb]; rfl)
          clear HNX HST
          have hb12 : b1 = true ∨ (b1 = false ∧ b2 = true) := by
            revert hbb; cases b1 <;> cases b2 <;> simp
          clear hbb
          rcases hb12 with rfl | ⟨rfl, rfl⟩
          all_goals
            obtain ⟨n, D, L, hown, hM, hnd, hlk, hnle⟩ := HL.out.inm
            obtain ⟨w6, hrun6, hown6, hg6⟩ := hown.update (t := 69) (e := 4) intLaw Try.underlying69 (by unfold maxLen; omega) (keyOf_mk (k := f.f0) (by omega) (by omega)) (show blElem (.bool true) = some (eB true, []) from rfl)
            have HI6 := Lib.hid (InSt.put (x := f.f0) hM hnd hlk hnle hown6)
            have HR6 := Lib.hid (Kd.R_grown HL.out.out hg6 (fun k hk e => by cases e; exact hk rfl))
            have HT6 := Lib.hid (HL.out.turn.grown hg6 (fun k e => by cases e; exact .inl rfl))
            clear hown hM hnd hlk hnle hown6 hg6
            go_wp2_with (((with_reducible refine gate_builtin (b := .append) (xs := #[.tmp 51, .tmp 53]) rfl ?_); at_builtin; refine Kd.R_append (Kd.int .i64) (w0 := w6) w5.heap.size rfl (.tmp 51) (.tmp 53) 25 3 (.int .i64 0) 8 rfl Try.underlying25 infoI rfl (by decide) (by omega) (.slice A1 out.length c1) out f.f0 [.int .i64 f.f0] (fun k => k ≠ bi) (fun _ => False) rfl rfl ?aP (fun _ hk => hk.elim) ?aF ?aO ?aB ?aS ?aL ?_; (case aP => exact rfl); (case aF => exact fun k hk e => by have := HI6.out.lt; omega); (case aO => exact HR6.out); (case aB => exact Below.refl _ _); (case aS => exact HT6.out.size); (case aL => omega); intro v7 w7 hown7 hb7 hg7 hat7; have HL7 := Lib.hid (show BSt w5 bi id (out ++ [f.f0]) v7 w7 from ⟨HI6.out.turn (hg7.block bi HI6.out.lt (fun e => by have := HR6.out.1 bi e.symm; exact this rfl)), hown7, HT6.out.trans (T := fun i => False ∨ w5.heap.size ≤ i) ⟨hb7.os, hb7.tape, hb7.output, hb7.size, fun k hk hS => hb7.block k (by omega)⟩ (fun i hi => hi.elim (fun h => h.elim) .inr)⟩); clear hown7 hb7 hg7 hat7))
            go_roundw
            case rel => exact ⟨k + 1, by omega, by simp, by rw [HS2.out]; exact HL7.out⟩
            case measure => simp [RowKit.intOf]; omega
      · obtain rfl : k = s.F.length := by omega
        rw [List.take_length] at HL
        go_wp2
        go_ret2
        exact ⟨_, rfl, Kd.R_lower (Kd.R_mono HL.out.out (fun _ _ => trivial)) HB5.out.size, HBW.out⟩
end Go.Proofs.Ytbkahblcabmdkaa.F
