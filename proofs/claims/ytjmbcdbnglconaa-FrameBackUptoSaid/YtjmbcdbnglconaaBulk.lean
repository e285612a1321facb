/- What the bound on the bulk of what is read gives: no slice and no string is longer than it. -/
import Derived.Test.YtjmbcdbnglconaaRows
import Derived.ChangeSlices
namespace Go.Proofs.Ytjmbcdbnglconaa.Bulk
open Go.ChangeShapes Go.WideShapes
theorem one_le {H : Type} (d : DataW H) : 1 ≤ Rows.uptoBulk d := by
  cases d with
  | lit l => cases l <;> simp [Rows.uptoBulk]
  | nil => simp [Rows.uptoBulk]
  | ptr d => simp [Rows.uptoBulk]
  | slice elems spare => simp [Rows.uptoBulk]
  | agg parts => simp [Rows.uptoBulk]
  | iface t d => simp [Rows.uptoBulk]
  | map entries => simp [Rows.uptoBulk]
  | held h => simp [Rows.uptoBulk]
theorem part_le {H : Type} {d : DataW H} {l : List (DataW H)} (h : d ∈ l) : Rows.uptoBulk d ≤ Rows.uptoBulkAll l := by
  induction l with
  | nil => cases h
  | cons x r ih =>
    simp only [Rows.uptoBulkAll]
    cases List.mem_cons.1 h with
    | inl e => subst e; omega
    | inr e => have := ih e; omega
theorem length_le {H : Type} (l : List (DataW H)) : l.length ≤ Rows.uptoBulkAll l := by
  induction l with
  | nil => simp [Rows.uptoBulkAll]
  | cons x r ih => have := one_le x; simp only [Rows.uptoBulkAll, List.length_cons]; omega
/-- A slice of whole numbers. -/
theorem ints {H : Type} {enc : TypeId × Value → H} {P : Program} {W : World} {base : Nat} {spare : Nat → Bool} {held : Bool} {t e : TypeId} {k : IntKind} {a : Option Addr} {len cap : Nat} {d : DataW H} {ps : List MemPlace} {ds : List (DataW H)}
    (hk : Rows.uptoSmall H ds = true) (hd : d ∈ ds) (hu : P.underlying t = some (.slice e)) (he : P.underlying e = some (.int k)) (hc : P.cellsOf e = 1)
    (h : DataW.Trod enc P W base spare held t (.slice a len cap) d ps) : len ≤ 1048576 := by
  have hb : Rows.uptoBulkAll ds ≤ 1048576 := of_decide_eq_true hk
  have hp := part_le hd
  obtain ⟨fuel, hf⟩ := h
  rcases open_ints hu he hc hf with ⟨hcs, _⟩ | ⟨x, l, c, zs, hcs, _, hl, _, hz, hx, _, _⟩
  · simp [Value.cells] at hcs
    obtain ⟨rfl, rfl, rfl⟩ := hcs
    simp
  · simp [Value.cells] at hcs
    obtain ⟨rfl, rfl, rfl⟩ := hcs
    obtain ⟨hx, _⟩ := Prod.mk.inj hx
    subst hx
    have hl2 : len ≤ zs.length := by
      rw [hz]
      split
      · exact hl
      · exact Nat.le_refl _
    have h1 : (lits (H := H) k (zs.take len)).length = len := by
      simp [lits]
      omega
    have h2 := length_le (lits (H := H) k (zs.take len))
    simp only [Rows.uptoBulk] at hp
    omega
/-- A string. -/
theorem str {H : Type} {s : ByteArray} {ds : List (DataW H)} (hk : Rows.uptoSmall H ds = true) (hd : DataW.lit (.string s.data.toList) ∈ ds) : s.size ≤ 1048576 := by
  have hb : Rows.uptoBulkAll ds ≤ 1048576 := of_decide_eq_true hk
  have hp := part_le hd
  simp only [Rows.uptoBulk] at hp
  have e : s.data.toList.length = s.size := by rw [Array.length_toList]; rfl
  omega
end Go.Proofs.Ytjmbcdbnglconaa.Bulk
