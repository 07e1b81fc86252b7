import Derived.Test.YtbhlmdaogdhjdaaDoorHw
/-! HostBack, HostEnds. -/
namespace Go.Proofs.YtbhlmdaogdhjdaaDoor.H
open Go.RowKit Go.Shelf Go.Joins Go.Proofs.YtbhlmdaogdhjdaaDoorW.PrintWords Go.Proofs.YtbhlmdaogdhjdaaDoorW.PrintLast Go.Proofs.YtbhlmdaogdhjdaaDoorW.PrintMore
set_option linter.unusedVariables false

/-- What a call gives, whatever the world. -/
def Gives (f : FuncId) (args : Array Value) (v : Value) : Prop := ∀ W, Calls Tryd.prog f args W fun e w' => e = .returned v ∧ Below W.heap.size W w'
theorem parse_gives (s t : ByteArray) (p : PRes) (hs : s.size < 8796093022207) (ht : t = lowerB s) (hp : parseB t = p) : Gives 12 #[.string s] (.tuple #[.agg #[.string p.name, .bool p.v4, .int .u32 p.addr], .int .i64 p.err]) := by
  intro W
  have h := parse_calls s W hs
  rw [← ht, hp] at h
  exact h
theorem lower_gives (s t : ByteArray) (hs : s.size ≤ 9223372036854775807) (ht : t = lowerB s) : Gives 18 #[.string s] (.string t) := by
  intro W
  have h := lower_calls s W hs
  rw [← ht] at h
  exact h
set_option maxRecDepth 100000 in
set_option maxHeartbeats 2000000 in
theorem back_bad (s t : ByteArray) (w : World) (ht : Tab w) (hP : Gives 12 #[.string s] (.tuple #[.agg #[.string ⟨#[]⟩, .bool false, .int .u32 0], .int .i64 20])) (hQ : Gives 12 #[.string t] (.tuple #[.agg #[.string ⟨#[]⟩, .bool false, .int .u32 0], .int .i64 20])) (hL : Gives 18 #[.string s] (.string t)) :
    Calls Tryd.prog 6 #[.string s] w fun e w' => e = .returned (.bool true) ∧ Below w.heap.size w w' := by
  have HA := Lib.hid (awake_calls w ht)
  have HP := Lib.hid hP
  have HQ := Lib.hid hQ
  have HL := Lib.hid hL
  clear ht hP hQ hL
  go_enter Tryd.func6, Tryd.ntmps6
  go_wp2_with fail
  refine HA.out.mono ?_
  rintro e w1 ⟨rfl, hb⟩
  have HB1 := Lib.hid hb
  clear hb HA
  go_wp2_with fail
  refine (HP.out _).mono ?_
  rintro e w2 ⟨rfl, hb⟩
  have HB2 := Lib.hid (below_alloc (below_then HB1.out HB1.out.size hb) (.cells #[.string ⟨#[]⟩, .bool false, .int .u32 0] 25))
  have HH := Lib.hid (blk_new w2 (.cells #[.string ⟨#[]⟩, .bool false, .int .u32 0] 25))
  clear hb HB1 HP
  go_wp2_with fail
  refine (HL.out _).mono ?_
  rintro e w3 ⟨rfl, hb⟩
  have HB3 := Lib.hid (below_then HB2.out HB2.out.size hb)
  have HH3 := Lib.hid (blk_after HH.out hb rfl)
  obtain ⟨bh, hbh⟩ : ∃ k, k = w2.heap.size := ⟨_, rfl⟩
  rw [← hbh] at HH3 ⊢
  clear hb HB2 HH hbh
  go_wp2_with fail
  refine (HQ.out _).mono ?_
  rintro e w4 ⟨rfl, hb⟩
  have HB4 := Lib.hid (below_alloc (below_then HB3.out HB3.out.size hb) (.cells #[.string ⟨#[]⟩, .bool false, .int .u32 0] 25))
  have hh4 := blk_alloc (blk_after HH3.out hb rfl) (.cells #[.string ⟨#[]⟩, .bool false, .int .u32 0] 25)
  have c0 := blk_cell hh4 0
  have c1 := blk_cell hh4 1
  have c2 := blk_cell hh4 2
  clear hb HB3 HH3 hh4
  go_wp2_with fail
  go_ret
  exact ⟨rfl, HB4.out⟩
set_option maxRecDepth 100000 in
set_option maxHeartbeats 2000000 in
theorem back_ok (s t nm : ByteArray) (v4 : Bool) (a : Int) (h0 : 0 ≤ a) (h1 : a ≤ 4294967295) (htv : textV nm v4 a = t) (w : World) (ht : Tab w) (hP : Gives 12 #[.string s] (.tuple #[.agg #[.string nm, .bool v4, .int .u32 a], .int .i64 0])) (hQ : Gives 12 #[.string t] (.tuple #[.agg #[.string nm, .bool v4, .int .u32 a], .int .i64 0])) (hL : Gives 18 #[.string s] (.string t)) :
    Calls Tryd.prog 6 #[.string s] w fun e w' => e = .returned (.bool true) ∧ Below w.heap.size w w' := by
  have HA := Lib.hid (awake_calls w ht)
  have HT := Lib.hid ht
  have HP := Lib.hid hP
  have HQ := Lib.hid hQ
  have HL := Lib.hid hL
  have HTV := Lib.hid htv
  clear ht hP hQ hL htv
  go_enter Tryd.func6, Tryd.ntmps6
  go_wp2_with fail
  refine HA.out.mono ?_
  rintro e w1 ⟨rfl, hb⟩
  have HB1 := Lib.hid hb
  clear hb HA
  go_wp2_with fail
  refine (HP.out _).mono ?_
  rintro e w2 ⟨rfl, hb⟩
  have HB2 := Lib.hid (below_alloc (below_then HB1.out HB1.out.size hb) (.cells #[.string nm, .bool v4, .int .u32 a] 25))
  have HH := Lib.hid (blk_new w2 (.cells #[.string nm, .bool v4, .int .u32 a] 25))
  clear hb HB1 HP
  go_wp2_with fail
  refine (HL.out _).mono ?_
  rintro e w3 ⟨rfl, hb⟩
  have HB3 := Lib.hid (below_then HB2.out HB2.out.size hb)
  have HH3 := Lib.hid (blk_after HH.out hb rfl)
  obtain ⟨bh, hbh⟩ : ∃ k, k = w2.heap.size := ⟨_, rfl⟩
  rw [← hbh] at HH3 ⊢
  clear hb HB2 HH hbh
  go_wp2_with fail
  refine (HQ.out _).mono ?_
  rintro e w4 ⟨rfl, hb⟩
  have HB4 := Lib.hid (below_alloc (below_then HB3.out HB3.out.size hb) (.cells #[.string nm, .bool v4, .int .u32 a] 25))
  have HH4 := Lib.hid (blk_alloc (blk_after HH3.out hb rfl) (.cells #[.string nm, .bool v4, .int .u32 a] 25))
  have HG4 := Lib.hid (blk_new w4 (.cells #[.string nm, .bool v4, .int .u32 a] 25))
  have c0 := blk_cell HH4.out 0
  have c1 := blk_cell HH4.out 1
  have c2 := blk_cell HH4.out 2
  clear hb HB3 HH3
  go_wp2_with fail
  clear c0 c1 c2
  obtain ⟨bg, hbg⟩ : ∃ k, k = w4.heap.size := ⟨_, rfl⟩
  rw [← hbg] at HG4 ⊢
  obtain ⟨w5, hw5⟩ : ∃ x, x = w4.alloc (.cells #[.string nm, .bool v4, .int .u32 a] 25) := ⟨_, rfl⟩
  rw [← hw5] at HB4 HH4 HG4 ⊢
  clear hbg hw5
  refine (text_any nm v4 a h0 h1 w5 (HT.out.below HB4.out)).mono ?_
  rintro e w6 ⟨rfl, hb⟩
  rw [HTV.out]
  have HB6 := Lib.hid (below_then HB4.out HB4.out.size hb)
  have HH6 := Lib.hid (blk_after HH4.out hb rfl)
  have HG6 := Lib.hid (blk_after HG4.out hb rfl)
  clear hb HB4 HH4 HG4
  go_wp2_with fail
  refine (HQ.out _).mono ?_
  rintro e w7 ⟨rfl, hb⟩
  have HB7 := Lib.hid (below_alloc (below_then HB6.out HB6.out.size hb) (.cells #[.string nm, .bool v4, .int .u32 a] 25))
  have HH7 := Lib.hid (blk_alloc (blk_after HH6.out hb rfl) (.cells #[.string nm, .bool v4, .int .u32 a] 25))
  have HG7 := Lib.hid (blk_alloc (blk_after HG6.out hb rfl) (.cells #[.string nm, .bool v4, .int .u32 a] 25))
  have HK7 := Lib.hid (blk_new w7 (.cells #[.string nm, .bool v4, .int .u32 a] 25))
  clear hb HB6 HH6 HG6
  go_wp2_with fail
  obtain ⟨bk, hbk⟩ : ∃ k, k = w7.heap.size := ⟨_, rfl⟩
  rw [← hbk] at HK7 ⊢
  obtain ⟨w8, hw8⟩ : ∃ x, x = w7.alloc (.cells #[.string nm, .bool v4, .int .u32 a] 25) := ⟨_, rfl⟩
  rw [← hw8] at HB7 HH7 HG7 HK7 ⊢
  clear hbk hw8
  refine (HL.out _).mono ?_
  rintro e w9 ⟨rfl, hb⟩
  have HB9 := Lib.hid (below_then HB7.out HB7.out.size hb)
  have HH9 := blk_after HH7.out hb rfl
  have HG9 := blk_after HG7.out hb rfl
  have HK9 := blk_after HK7.out hb rfl
  have c0 : w9.cell? ⟨bh, 0, none⟩ = some (.string nm) := blk_cell HH9 0
  have c1 : w9.cell? ⟨bh, 1, none⟩ = some (.bool v4) := blk_cell HH9 1
  have c2 : w9.cell? ⟨bh, 2, none⟩ = some (.int .u32 a) := blk_cell HH9 2
  have g0 : w9.cell? ⟨bg, 0, none⟩ = some (.string nm) := blk_cell HG9 0
  have g1 : w9.cell? ⟨bg, 1, none⟩ = some (.bool v4) := blk_cell HG9 1
  have g2 : w9.cell? ⟨bg, 2, none⟩ = some (.int .u32 a) := blk_cell HG9 2
  have k0 : w9.cell? ⟨bk, 0, none⟩ = some (.string nm) := blk_cell HK9 0
  have k1 : w9.cell? ⟨bk, 1, none⟩ = some (.bool v4) := blk_cell HK9 1
  have k2 : w9.cell? ⟨bk, 2, none⟩ = some (.int .u32 a) := blk_cell HK9 2
  clear hb HB7 HH7 HG7 HK7 HH9 HG9 HK9
  go_wp2_with fail
  go_ret
  exact ⟨rfl, HB9.out⟩
theorem back_calls (s : ByteArray) (hs : s.size < 8796093022207) (w : World) (ht : Tab w) :
    Calls Tryd.prog 6 #[.string s] w fun e w' => e = .returned (.bool true) ∧ Below w.heap.size w w' := by
  obtain ⟨t, hte⟩ : ∃ t, t = lowerB s := ⟨_, rfl⟩
  have htt : t = lowerB t := by rw [hte, lower_lower]
  have hts : t.size < 8796093022207 := by rw [hte, lowerB_size]; exact hs
  have hL := lower_gives s t (by omega) hte
  rcases parse_cases t with hp | ⟨hp, _, _⟩ | ⟨a, a0, a1, hp, hx⟩
  · exact back_bad s t w ht (parse_gives s t _ hs hte hp) (parse_gives t t _ hts htt hp) hL
  · exact back_ok s t t false 0 (by omega) (by omega) rfl w ht (parse_gives s t _ hs hte hp) (parse_gives t t _ hts htt hp) hL
  · exact back_ok s t ⟨#[]⟩ true a a0 a1 hx w ht (parse_gives s t _ hs hte hp) (parse_gives t t _ hts htt hp) hL
end Go.Proofs.YtbhlmdaogdhjdaaDoor.H
