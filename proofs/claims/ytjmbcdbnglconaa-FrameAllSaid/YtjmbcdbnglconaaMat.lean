/- A slice of slices of bytes that came in, as a list of lists of numbers. -/
import Derived.Test.YtjmbcdbnglconaaQFrameAllx0
import Derived.Deep.Matrix
import Derived.ProofKit
namespace Go.Proofs.Ytjmbcdbnglconaa.Mat
open Go.RowKit Go.Deep Go.Proofs.YtjmbcdbnglconaaW.PrintWords Go.Proofs.YtjmbcdbnglconaaW.PrintLast Go.Proofs.YtjmbcdbnglconaaW.PrintMore

theorem open_rows {H : Type} {enc : TypeId × Value → H} {P : Program} {W : World} {base : Nat} {held : Bool} {t e q : TypeId} {a : Option Addr} {len cap : Nat} {d : DataW H} {ps : List MemPlace}
    (ht : P.underlying t = some (.slice e)) (he : P.underlying e = some (.slice q)) (hq : P.underlying q = some (.int .u8)) (ce : P.cellsOf e = 1) (cq : P.cellsOf q = 1)
    (h : DataW.Trod enc P W base (fun _ => true) held t (.slice a len cap) d ps) :
    ∃ l : List (List Int), l.length = len ∧ l.length ≤ cap ∧ Kd.C (Kd.slice 5 (Kd.int .u8)) W a l.length l ∧ ∀ x ∈ l, ∀ y ∈ x, (Lit.int .u8 y).wf = true := by
  obtain ⟨fuel, hf⟩ := h
  rcases open_int_rows ht he hq ce cq hf with ⟨hcs, _⟩ | ⟨x, len', cap', A, L, C, Z, hcs, _, hlc, hcm, _, hr⟩
  · simp [Value.cells] at hcs
    obtain ⟨rfl, rfl, rfl⟩ := hcs
    exact ⟨[], rfl, Nat.le_refl _, Kd.C_nil _ _, fun x hx => by simp at hx⟩
  · simp [Value.cells] at hcs
    obtain ⟨rfl, rfl, rfl⟩ := hcs
    have hll : ((List.range len).map fun r => (Z r).take (L r)).length = len := by simp
    refine ⟨(List.range len).map fun r => (Z r).take (L r), hll, by rw [hll]; exact hlc, ?_, ?_⟩
    · rw [hll]
      refine ⟨hll, by unfold maxLen at hcm; omega, fun _ => ⟨x, rfl, fun j p hj => ?_⟩⟩
      have hjl : j < len := by have := (List.getElem?_eq_some_iff.1 hj).1; rwa [hll] at this
      have hp : p = (Z j).take (L j) := by
        rw [List.getElem?_map, List.getElem?_range hjl] at hj
        exact (Option.some.inj hj).symm
      obtain ⟨hcell, hLC, hCm, hZ, _, hnone, hin⟩ := hr j (by omega)
      have hpl : ((Z j).take (L j)).length = L j := by rw [List.length_take]; omega
      subst hp
      refine ⟨[.slice (A j) (L j) (C j)], rfl, ⟨A j, C j, by rw [hpl], by rw [hpl]; exact hLC, ?_⟩, fun i u hu => ?_⟩
      · have hri : ReadsInt W .u8 (A j) (L j) ((Z j).take (L j)) := by
          refine ⟨hpl, by unfold maxLen at hCm; omega, fun hpos => ?_⟩
          cases hA : A j with
          | none => have := hnone hA; omega
          | some ad =>
            refine ⟨ad, rfl, fun c hc => ?_⟩
            rw [(hin ad hA).2 c (by omega)]
            congr 2
            rw [List.getD_eq_getElem?_getD, List.getD_eq_getElem?_getD, List.getElem?_take, if_pos hc]
        rw [hpl]
        exact Kd.C_of_reads (d := (0 : Int)) (h1 := fun _ => rfl) hri
      · cases i with
        | zero =>
          simp at hu
          rw [← hu]
          have e : (Kd.slice 5 (Kd.int .u8)).sz = 1 := rfl
          rw [e]
          simpa using hcell
        | succ i => simp at hu
    · intro y hy z hz
      simp only [List.mem_map, List.mem_range] at hy
      obtain ⟨r, hrl, rfl⟩ := hy
      exact (hr r (by omega)).2.2.2.2.1 z (List.mem_of_mem_take hz)
end Go.Proofs.Ytjmbcdbnglconaa.Mat
