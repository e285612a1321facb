/-
  No cell of these rows narrows 'for every input' (looked for: loops, veiled, ifaces, maps, wideKeys, modest, calm, conditions, laid).
  DERIVED. THE GIVEN ROWS OF THIS SEAT. 6 by the template 'for every input the law returns true; each argument reads behind the call as it read before'; 0 by the template 'total and deterministic' (their statements: YtfoaaglcanogpaaTotals.lean).
  GIVEN WITH THE SEED: the statements are not yours to turn. If you find one false, say at which input.
  Laid BY PROGRAM, IN A SANDBOX (cutbox-rows.mjs): the forced cells as the released guide's own fill.sh prints them over the translation 51a46c82d3f61a25… (all of the seat's roots in one cut). By AI agents, Wed Nov 11 2026. No macro, syntax, notation, axiom, sorry.
-/
import Derived.Test.YtfoaaglcanogpaaChecked
import GoSem.Claim
import GoSem.ClaimJoined
import GoSem.ClaimMapViews
import Derived.JoinedTies
import Derived.KernelRfl
namespace Go.Proofs.Ytfoaaglcanogpaa
/- THE CELL 'sum', in the pinned program and in every row, IS THE sha256 OF THE DUMP (.gsa) THAT YtfoaaglcanogpaaProg.lean LOADS. Nothing in Lean hashes anything: it is a label: what it is worth is what the hold of that sum in a sandbox is worth. -/
noncomputable def Try.pinned : Pinned := { name := "ytfoaaglcanogpaa", sum := "51a46c82d3f61a25cafa5d8e1ee7269df329649197510d76dbcec4abd2414b5c", checked := Try.checked }
namespace Rows
def none {H : Type} : Left H := { results := [], args := [] }

/-- 'cellplanelaw22.ProbeVerdicts': WHATEVER THE INPUT: true; the input reads as it did. -/
def probeVerdictsSpec : ChangeSpec := { name := "probeVerdicts", fn := fun _ => fun
  | [d1, d2] => { results := [.lit (.bool true)], args := [d1, d2] }
  | _ => none }
def probeVerdictsRow : OpenClaim := { program := "ytfoaaglcanogpaa", sum := "51a46c82d3f61a25cafa5d8e1ee7269df329649197510d76dbcec4abd2414b5c", func := "cellplane/cellplanelaw22.ProbeVerdicts", spec := "probeVerdicts", apart := false }
def ProbeVerdictsSaid : Prop := probeVerdictsRow.holds Try.pinned (OpenSpec.ofChange probeVerdictsSpec)

/-- ITS FALSE NEIGHBOUR: 'it returns false'. Refute it at one input. -/
def probeVerdictsWrong : ChangeSpec := { name := "probeVerdicts", fn := fun _ => fun
  | [d1, d2] => { results := [.lit (.bool false)], args := [d1, d2] }
  | _ => none }
def ProbeVerdictsWrongFalsely : Prop := probeVerdictsRow.holds Try.pinned (OpenSpec.ofChange probeVerdictsWrong)

/-- 'cellplanelaw22.ProbeHot': WHATEVER THE INPUT: true; the input reads as it did. -/
def probeHotSpec : ChangeSpec := { name := "probeHot", fn := fun _ => fun
  | [d1, d2, d3, d4] => { results := [.lit (.bool true)], args := [d1, d2, d3, d4] }
  | _ => none }
def probeHotRow : OpenClaim := { program := "ytfoaaglcanogpaa", sum := "51a46c82d3f61a25cafa5d8e1ee7269df329649197510d76dbcec4abd2414b5c", func := "cellplane/cellplanelaw22.ProbeHot", spec := "probeHot", apart := false }
def ProbeHotSaid : Prop := probeHotRow.holds Try.pinned (OpenSpec.ofChange probeHotSpec)

/-- ITS FALSE NEIGHBOUR: 'it returns false'. Refute it at one input. -/
def probeHotWrong : ChangeSpec := { name := "probeHot", fn := fun _ => fun
  | [d1, d2, d3, d4] => { results := [.lit (.bool false)], args := [d1, d2, d3, d4] }
  | _ => none }
def ProbeHotWrongFalsely : Prop := probeHotRow.holds Try.pinned (OpenSpec.ofChange probeHotWrong)

/-- 'cellplanelaw22.ProbeLast': WHATEVER THE INPUT: true; the input reads as it did. -/
def probeLastSpec : ChangeSpec := { name := "probeLast", fn := fun _ => fun
  | [d] => { results := [.lit (.bool true)], args := [d] }
  | _ => none }
def probeLastRow : OpenClaim := { program := "ytfoaaglcanogpaa", sum := "51a46c82d3f61a25cafa5d8e1ee7269df329649197510d76dbcec4abd2414b5c", func := "cellplane/cellplanelaw22.ProbeLast", spec := "probeLast", apart := false }
def ProbeLastSaid : Prop := probeLastRow.holds Try.pinned (OpenSpec.ofChange probeLastSpec)

/-- ITS FALSE NEIGHBOUR: 'it returns false'. Refute it at one input. -/
def probeLastWrong : ChangeSpec := { name := "probeLast", fn := fun _ => fun
  | [d] => { results := [.lit (.bool false)], args := [d] }
  | _ => none }
def ProbeLastWrongFalsely : Prop := probeLastRow.holds Try.pinned (OpenSpec.ofChange probeLastWrong)

/-- 'cellplanelaw22.ProbeHolds': WHATEVER THE INPUT: true; the input reads as it did. -/
def probeHoldsSpec : ChangeSpec := { name := "probeHolds", fn := fun _ => fun
  | [d1, d2] => { results := [.lit (.bool true)], args := [d1, d2] }
  | _ => none }
def probeHoldsRow : OpenClaim := { program := "ytfoaaglcanogpaa", sum := "51a46c82d3f61a25cafa5d8e1ee7269df329649197510d76dbcec4abd2414b5c", func := "cellplane/cellplanelaw22.ProbeHolds", spec := "probeHolds", apart := false }
def ProbeHoldsSaid : Prop := probeHoldsRow.holds Try.pinned (OpenSpec.ofChange probeHoldsSpec)

/-- ITS FALSE NEIGHBOUR: 'it returns false'. Refute it at one input. -/
def probeHoldsWrong : ChangeSpec := { name := "probeHolds", fn := fun _ => fun
  | [d1, d2] => { results := [.lit (.bool false)], args := [d1, d2] }
  | _ => none }
def ProbeHoldsWrongFalsely : Prop := probeHoldsRow.holds Try.pinned (OpenSpec.ofChange probeHoldsWrong)

/-- 'cellplanelaw22.ProbeBetween': WHATEVER THE INPUT: true; the input reads as it did. -/
def probeBetweenSpec : ChangeSpec := { name := "probeBetween", fn := fun _ => fun
  | [d1, d2, d3] => { results := [.lit (.bool true)], args := [d1, d2, d3] }
  | _ => none }
def probeBetweenRow : OpenClaim := { program := "ytfoaaglcanogpaa", sum := "51a46c82d3f61a25cafa5d8e1ee7269df329649197510d76dbcec4abd2414b5c", func := "cellplane/cellplanelaw22.ProbeBetween", spec := "probeBetween", apart := false }
def ProbeBetweenSaid : Prop := probeBetweenRow.holds Try.pinned (OpenSpec.ofChange probeBetweenSpec)

/-- ITS FALSE NEIGHBOUR: 'it returns false'. Refute it at one input. -/
def probeBetweenWrong : ChangeSpec := { name := "probeBetween", fn := fun _ => fun
  | [d1, d2, d3] => { results := [.lit (.bool false)], args := [d1, d2, d3] }
  | _ => none }
def ProbeBetweenWrongFalsely : Prop := probeBetweenRow.holds Try.pinned (OpenSpec.ofChange probeBetweenWrong)

/-- 'cellplanelaw22.ProbePlays': WHATEVER THE INPUT: true; the input reads as it did. -/
def probePlaysSpec : ChangeSpec := { name := "probePlays", fn := fun _ => fun
  | [d1, d2, d3] => { results := [.lit (.bool true)], args := [d1, d2, d3] }
  | _ => none }
def probePlaysRow : OpenClaim := { program := "ytfoaaglcanogpaa", sum := "51a46c82d3f61a25cafa5d8e1ee7269df329649197510d76dbcec4abd2414b5c", func := "cellplane/cellplanelaw22.ProbePlays", spec := "probePlays", apart := false }
def ProbePlaysSaid : Prop := probePlaysRow.holds Try.pinned (OpenSpec.ofChange probePlaysSpec)

/-- ITS FALSE NEIGHBOUR: 'it returns false'. Refute it at one input. -/
def probePlaysWrong : ChangeSpec := { name := "probePlays", fn := fun _ => fun
  | [d1, d2, d3] => { results := [.lit (.bool false)], args := [d1, d2, d3] }
  | _ => none }
def ProbePlaysWrongFalsely : Prop := probePlaysRow.holds Try.pinned (OpenSpec.ofChange probePlaysWrong)

/- THE SECOND FORM. 'bulk': how many values and letters a reading holds, each counted each time it is reached (what is shared counts as often as it is met; a slice's spare places count too). A statement '..UptoSaid' is the law's where the arguments, and the package variables that the reading takes, are together of bulk at most 1048576: NARROWER than '..Said'. Prove '..Said' where nothing that the law and all that it calls make is longer than what came in: it says more and counts as full. Else prove '..UptoSaid'. A law counts once. -/
mutual
def uptoBulk {H : Type} : DataW H → Nat
  | .lit (.string bytes) => bytes.length + 1
  | .lit _ => 1
  | .nil => 1
  | .ptr d => uptoBulk d + 1
  | .slice elems spare => uptoBulkAll elems + uptoBulkAll spare + 1
  | .agg parts => uptoBulkAll parts + 1
  | .iface _ d => uptoBulk d + 1
  | .map entries => uptoBulkEntries entries + 1
  | .held _ => 1
def uptoBulkAll {H : Type} : List (DataW H) → Nat
  | [] => 0
  | d :: r => uptoBulk d + uptoBulkAll r
def uptoBulkEntries {H : Type} : List (Lit × DataW H) → Nat
  | [] => 0
  | x :: r => uptoBulkEntry x + uptoBulkEntries r
def uptoBulkEntry {H : Type} : Lit × DataW H → Nat
  | (.string bytes, d) => bytes.length + uptoBulk d + 1
  | (_, d) => uptoBulk d + 1
 end
def uptoSmall : (H : Type) → List (DataW H) → Bool := fun _ ds => decide (uptoBulkAll ds ≤ 1048576)
def OpenSpec.upto (s : _root_.Go.ChangeSpec) : _root_.Go.OpenSpec := { _root_.Go.OpenSpec.ofChange s with cond := some uptoSmall }

/-- 'cellplanelaw22.ProbeVerdicts', WHERE WHAT IT READS IS OF BULK AT MOST 1048576: true; the input reads as it did. -/
def probeVerdictsUptoRow : OpenClaim := { program := "ytfoaaglcanogpaa", sum := "51a46c82d3f61a25cafa5d8e1ee7269df329649197510d76dbcec4abd2414b5c", func := "cellplane/cellplanelaw22.ProbeVerdicts", spec := "probeVerdicts", apart := false, narrowed := true }
def ProbeVerdictsUptoSaid : Prop := probeVerdictsUptoRow.holds Try.pinned (OpenSpec.upto probeVerdictsSpec)

/-- 'cellplanelaw22.ProbeHot', WHERE WHAT IT READS IS OF BULK AT MOST 1048576: true; the input reads as it did. -/
def probeHotUptoRow : OpenClaim := { program := "ytfoaaglcanogpaa", sum := "51a46c82d3f61a25cafa5d8e1ee7269df329649197510d76dbcec4abd2414b5c", func := "cellplane/cellplanelaw22.ProbeHot", spec := "probeHot", apart := false, narrowed := true }
def ProbeHotUptoSaid : Prop := probeHotUptoRow.holds Try.pinned (OpenSpec.upto probeHotSpec)

/-- 'cellplanelaw22.ProbeLast', WHERE WHAT IT READS IS OF BULK AT MOST 1048576: true; the input reads as it did. -/
def probeLastUptoRow : OpenClaim := { program := "ytfoaaglcanogpaa", sum := "51a46c82d3f61a25cafa5d8e1ee7269df329649197510d76dbcec4abd2414b5c", func := "cellplane/cellplanelaw22.ProbeLast", spec := "probeLast", apart := false, narrowed := true }
def ProbeLastUptoSaid : Prop := probeLastUptoRow.holds Try.pinned (OpenSpec.upto probeLastSpec)

/-- 'cellplanelaw22.ProbeHolds', WHERE WHAT IT READS IS OF BULK AT MOST 1048576: true; the input reads as it did. -/
def probeHoldsUptoRow : OpenClaim := { program := "ytfoaaglcanogpaa", sum := "51a46c82d3f61a25cafa5d8e1ee7269df329649197510d76dbcec4abd2414b5c", func := "cellplane/cellplanelaw22.ProbeHolds", spec := "probeHolds", apart := false, narrowed := true }
def ProbeHoldsUptoSaid : Prop := probeHoldsUptoRow.holds Try.pinned (OpenSpec.upto probeHoldsSpec)

/-- 'cellplanelaw22.ProbeBetween', WHERE WHAT IT READS IS OF BULK AT MOST 1048576: true; the input reads as it did. -/
def probeBetweenUptoRow : OpenClaim := { program := "ytfoaaglcanogpaa", sum := "51a46c82d3f61a25cafa5d8e1ee7269df329649197510d76dbcec4abd2414b5c", func := "cellplane/cellplanelaw22.ProbeBetween", spec := "probeBetween", apart := false, narrowed := true }
def ProbeBetweenUptoSaid : Prop := probeBetweenUptoRow.holds Try.pinned (OpenSpec.upto probeBetweenSpec)

/-- 'cellplanelaw22.ProbePlays', WHERE WHAT IT READS IS OF BULK AT MOST 1048576: true; the input reads as it did. -/
def probePlaysUptoRow : OpenClaim := { program := "ytfoaaglcanogpaa", sum := "51a46c82d3f61a25cafa5d8e1ee7269df329649197510d76dbcec4abd2414b5c", func := "cellplane/cellplanelaw22.ProbePlays", spec := "probePlays", apart := false, narrowed := true }
def ProbePlaysUptoSaid : Prop := probePlaysUptoRow.holds Try.pinned (OpenSpec.upto probePlaysSpec)

end Rows
end Go.Proofs.Ytfoaaglcanogpaa
