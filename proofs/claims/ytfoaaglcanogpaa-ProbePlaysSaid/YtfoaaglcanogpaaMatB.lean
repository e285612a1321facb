/- A slice of bools that came in, as a list of bools. -/
import Derived.Test.YtfoaaglcanogpaaQProbePlaysx0
import Derived.Deep.Grids
import Derived.ProofKit
namespace Go.Proofs.Ytfoaaglcanogpaa.MatB
open Go.RowKit Go.Deep Go.Proofs.YtfoaaglcanogpaaW.PrintWords Go.Proofs.YtfoaaglcanogpaaW.PrintLast Go.Proofs.YtfoaaglcanogpaaW.PrintMore

theorem open_brow {H : Type} {enc : TypeId × Value → H} {P : Program} {W : World} {base : Nat} {held : Bool} {t e : TypeId} {a : Option Addr} {len cap : Nat} {d : DataW H} {ps : List MemPlace}
    (ht : P.underlying t = some (.slice e)) (he : P.underlying e = some .bool) (ce : P.cellsOf e = 1)
    (h : DataW.Trod enc P W base (fun _ => true) held t (.slice a len cap) d ps) :
    ∃ l : List Bool, l.length = len ∧ l.length ≤ cap ∧ Kd.C Kd.bool W a l.length l := by
  obtain ⟨fuel, hf⟩ := h
  rcases open_bools ht he ce hf with ⟨hcs, _⟩ | ⟨x, len', cap', B, hcs, _, hlc, hcm, _, hr⟩
  · simp [Value.cells] at hcs
    obtain ⟨rfl, rfl, rfl⟩ := hcs
    exact ⟨[], rfl, Nat.le_refl _, Kd.C_nil _ _⟩
  · simp [Value.cells] at hcs
    obtain ⟨rfl, rfl, rfl⟩ := hcs
    have hll : ((List.range len).map B).length = len := by simp
    refine ⟨(List.range len).map B, hll, by rw [hll]; exact hlc, ?_⟩
    rw [hll]
    refine Kd.C_of_reads (enc := Value.bool) (d := false) (h1 := fun _ => rfl) ⟨hll, by unfold maxLen at hcm; omega, fun _ => ⟨x, rfl, fun j hj => ?_⟩⟩
    rw [hr j (by omega)]
    simp [hj]
end Go.Proofs.Ytfoaaglcanogpaa.MatB
