import Derived.Test.YtbhlmdaogdhjdaaDoorRows
/-! What the bound on an input's bulk gives. -/
namespace Go.Proofs.YtbhlmdaogdhjdaaDoor.Rb

theorem part_le {H : Type} {d : DataW H} {l : List (DataW H)} (h : d ∈ l) : Rows.uptoBulk d ≤ Rows.uptoBulkAll l := by
  induction l with
  | nil => cases h
  | cons x r ih =>
    simp only [Rows.uptoBulkAll]
    rcases List.mem_cons.1 h with rfl | h
    · omega
    · have := ih h; omega
theorem str_le {H : Type} {ds : List (DataW H)} (h : Rows.uptoSmall H ds = true) {x : ByteArray} (hm : DataW.lit (.string x.data.toList) ∈ ds) : x.size ≤ 1048576 := by
  have hb : Rows.uptoBulkAll ds ≤ 1048576 := of_decide_eq_true h
  have h1 := part_le hm
  have h2 : Rows.uptoBulk (DataW.lit (H := H) (.string x.data.toList)) = x.data.toList.length + 1 := by simp [Rows.uptoBulk]
  have h3 : x.data.toList.length = x.size := by simp
  omega
end Go.Proofs.YtbhlmdaogdhjdaaDoor.Rb
