/-
  No cell of these rows narrows 'for every input' (looked for: loops, veiled, ifaces, maps, wideKeys, modest, calm, conditions, laid).
  DERIVED. THE GIVEN ROWS OF THIS SEAT. 8 by the template 'for every input the law returns true; each argument reads behind the call as it read before'; 0 by the template 'total and deterministic' (their statements: YtomdnmddphoecaaTotals.lean).
  GIVEN WITH THE SEED: the statements are not yours to turn. If you find one false, say at which input.
  Laid BY PROGRAM, IN A SANDBOX (cutbox-rows.mjs): the forced cells as the released guide's own fill.sh prints them over the translation 6300eedb27fab7d8… (all of the seat's roots in one cut). By AI agents, Wed Nov 11 2026. No macro, syntax, notation, axiom, sorry.
-/
import Derived.Test.YtomdnmddphoecaaChecked
import GoSem.Claim
import GoSem.ClaimJoined
import GoSem.ClaimMapViews
import Derived.JoinedTies
import Derived.KernelRfl
namespace Go.Proofs.Ytomdnmddphoecaa
/- THE CELL 'sum', in the pinned program and in every row, IS THE sha256 OF THE DUMP (.gsa) THAT YtomdnmddphoecaaProg.lean LOADS. Nothing in Lean hashes anything: it is a label: what it is worth is what the hold of that sum in a sandbox is worth. -/
noncomputable def Try.pinned : Pinned := { name := "ytomdnmddphoecaa", sum := "6300eedb27fab7d842bfe312cda9c52838a13a377b63e1e6f646bc41a4a4da77", checked := Try.checked }
namespace Rows
def none {H : Type} : Left H := { results := [], args := [] }

/-- 'cellplanelaw02.DigestMix': WHATEVER THE INPUT: true; the input reads as it did. -/
def digestMixSpec : ChangeSpec := { name := "digestMix", fn := fun _ => fun
  | [d1, d2] => { results := [.lit (.bool true)], args := [d1, d2] }
  | _ => none }
def digestMixRow : OpenClaim := { program := "ytomdnmddphoecaa", sum := "6300eedb27fab7d842bfe312cda9c52838a13a377b63e1e6f646bc41a4a4da77", func := "cellplane/cellplanelaw02.DigestMix", spec := "digestMix", apart := false }
def DigestMixSaid : Prop := digestMixRow.holds Try.pinned (OpenSpec.ofChange digestMixSpec)

/-- ITS FALSE NEIGHBOUR: 'it returns false'. Refute it at one input. -/
def digestMixWrong : ChangeSpec := { name := "digestMix", fn := fun _ => fun
  | [d1, d2] => { results := [.lit (.bool false)], args := [d1, d2] }
  | _ => none }
def DigestMixWrongFalsely : Prop := digestMixRow.holds Try.pinned (OpenSpec.ofChange digestMixWrong)

/-- 'cellplanelaw02.DigestSteps': WHATEVER THE INPUT: true; the input reads as it did. -/
def digestStepsSpec : ChangeSpec := { name := "digestSteps", fn := fun _ => fun
  | [d1, d2] => { results := [.lit (.bool true)], args := [d1, d2] }
  | _ => none }
def digestStepsRow : OpenClaim := { program := "ytomdnmddphoecaa", sum := "6300eedb27fab7d842bfe312cda9c52838a13a377b63e1e6f646bc41a4a4da77", func := "cellplane/cellplanelaw02.DigestSteps", spec := "digestSteps", apart := false }
def DigestStepsSaid : Prop := digestStepsRow.holds Try.pinned (OpenSpec.ofChange digestStepsSpec)

/-- ITS FALSE NEIGHBOUR: 'it returns false'. Refute it at one input. -/
def digestStepsWrong : ChangeSpec := { name := "digestSteps", fn := fun _ => fun
  | [d1, d2] => { results := [.lit (.bool false)], args := [d1, d2] }
  | _ => none }
def DigestStepsWrongFalsely : Prop := digestStepsRow.holds Try.pinned (OpenSpec.ofChange digestStepsWrong)

/-- 'cellplanelaw02.DigestByte': WHATEVER THE INPUT: true; the input reads as it did. -/
def digestByteSpec : ChangeSpec := { name := "digestByte", fn := fun _ => fun
  | [d1, d2, d3, d4] => { results := [.lit (.bool true)], args := [d1, d2, d3, d4] }
  | _ => none }
def digestByteRow : OpenClaim := { program := "ytomdnmddphoecaa", sum := "6300eedb27fab7d842bfe312cda9c52838a13a377b63e1e6f646bc41a4a4da77", func := "cellplane/cellplanelaw02.DigestByte", spec := "digestByte", apart := false }
def DigestByteSaid : Prop := digestByteRow.holds Try.pinned (OpenSpec.ofChange digestByteSpec)

/-- ITS FALSE NEIGHBOUR: 'it returns false'. Refute it at one input. -/
def digestByteWrong : ChangeSpec := { name := "digestByte", fn := fun _ => fun
  | [d1, d2, d3, d4] => { results := [.lit (.bool false)], args := [d1, d2, d3, d4] }
  | _ => none }
def DigestByteWrongFalsely : Prop := digestByteRow.holds Try.pinned (OpenSpec.ofChange digestByteWrong)

/-- 'cellplanelaw02.DigestKeys': WHATEVER THE INPUT: true; the input reads as it did. -/
def digestKeysSpec : ChangeSpec := { name := "digestKeys", fn := fun _ => fun
  | [d1, d2, d3] => { results := [.lit (.bool true)], args := [d1, d2, d3] }
  | _ => none }
def digestKeysRow : OpenClaim := { program := "ytomdnmddphoecaa", sum := "6300eedb27fab7d842bfe312cda9c52838a13a377b63e1e6f646bc41a4a4da77", func := "cellplane/cellplanelaw02.DigestKeys", spec := "digestKeys", apart := false }
def DigestKeysSaid : Prop := digestKeysRow.holds Try.pinned (OpenSpec.ofChange digestKeysSpec)

/-- ITS FALSE NEIGHBOUR: 'it returns false'. Refute it at one input. -/
def digestKeysWrong : ChangeSpec := { name := "digestKeys", fn := fun _ => fun
  | [d1, d2, d3] => { results := [.lit (.bool false)], args := [d1, d2, d3] }
  | _ => none }
def DigestKeysWrongFalsely : Prop := digestKeysRow.holds Try.pinned (OpenSpec.ofChange digestKeysWrong)

/-- 'cellplanelaw02.DigestInjective': WHATEVER THE INPUT: true; the input reads as it did. -/
def digestInjectiveSpec : ChangeSpec := { name := "digestInjective", fn := fun _ => fun
  | [d1, d2, d3, d4] => { results := [.lit (.bool true)], args := [d1, d2, d3, d4] }
  | _ => none }
def digestInjectiveRow : OpenClaim := { program := "ytomdnmddphoecaa", sum := "6300eedb27fab7d842bfe312cda9c52838a13a377b63e1e6f646bc41a4a4da77", func := "cellplane/cellplanelaw02.DigestInjective", spec := "digestInjective", apart := false }
def DigestInjectiveSaid : Prop := digestInjectiveRow.holds Try.pinned (OpenSpec.ofChange digestInjectiveSpec)

/-- ITS FALSE NEIGHBOUR: 'it returns false'. Refute it at one input. -/
def digestInjectiveWrong : ChangeSpec := { name := "digestInjective", fn := fun _ => fun
  | [d1, d2, d3, d4] => { results := [.lit (.bool false)], args := [d1, d2, d3, d4] }
  | _ => none }
def DigestInjectiveWrongFalsely : Prop := digestInjectiveRow.holds Try.pinned (OpenSpec.ofChange digestInjectiveWrong)

/-- 'cellplanelaw02.DigestSum': WHATEVER THE INPUT: true; the input reads as it did. -/
def digestSumSpec : ChangeSpec := { name := "digestSum", fn := fun _ => fun
  | [d1, d2, d3] => { results := [.lit (.bool true)], args := [d1, d2, d3] }
  | _ => none }
def digestSumRow : OpenClaim := { program := "ytomdnmddphoecaa", sum := "6300eedb27fab7d842bfe312cda9c52838a13a377b63e1e6f646bc41a4a4da77", func := "cellplane/cellplanelaw02.DigestSum", spec := "digestSum", apart := false }
def DigestSumSaid : Prop := digestSumRow.holds Try.pinned (OpenSpec.ofChange digestSumSpec)

/-- ITS FALSE NEIGHBOUR: 'it returns false'. Refute it at one input. -/
def digestSumWrong : ChangeSpec := { name := "digestSum", fn := fun _ => fun
  | [d1, d2, d3] => { results := [.lit (.bool false)], args := [d1, d2, d3] }
  | _ => none }
def DigestSumWrongFalsely : Prop := digestSumRow.holds Try.pinned (OpenSpec.ofChange digestSumWrong)

/-- 'cellplanelaw02.DigestChains': WHATEVER THE INPUT: true; the input reads as it did. -/
def digestChainsSpec : ChangeSpec := { name := "digestChains", fn := fun _ => fun
  | [d1, d2, d3, d4] => { results := [.lit (.bool true)], args := [d1, d2, d3, d4] }
  | _ => none }
def digestChainsRow : OpenClaim := { program := "ytomdnmddphoecaa", sum := "6300eedb27fab7d842bfe312cda9c52838a13a377b63e1e6f646bc41a4a4da77", func := "cellplane/cellplanelaw02.DigestChains", spec := "digestChains", apart := false }
def DigestChainsSaid : Prop := digestChainsRow.holds Try.pinned (OpenSpec.ofChange digestChainsSpec)

/-- ITS FALSE NEIGHBOUR: 'it returns false'. Refute it at one input. -/
def digestChainsWrong : ChangeSpec := { name := "digestChains", fn := fun _ => fun
  | [d1, d2, d3, d4] => { results := [.lit (.bool false)], args := [d1, d2, d3, d4] }
  | _ => none }
def DigestChainsWrongFalsely : Prop := digestChainsRow.holds Try.pinned (OpenSpec.ofChange digestChainsWrong)

/-- 'cellplanelaw02.DigestNothing': WHATEVER THE INPUT: true; the input reads as it did. -/
def digestNothingSpec : ChangeSpec := { name := "digestNothing", fn := fun _ => fun
  | [d1, d2, d3] => { results := [.lit (.bool true)], args := [d1, d2, d3] }
  | _ => none }
def digestNothingRow : OpenClaim := { program := "ytomdnmddphoecaa", sum := "6300eedb27fab7d842bfe312cda9c52838a13a377b63e1e6f646bc41a4a4da77", func := "cellplane/cellplanelaw02.DigestNothing", spec := "digestNothing", apart := false }
def DigestNothingSaid : Prop := digestNothingRow.holds Try.pinned (OpenSpec.ofChange digestNothingSpec)

/-- ITS FALSE NEIGHBOUR: 'it returns false'. Refute it at one input. -/
def digestNothingWrong : ChangeSpec := { name := "digestNothing", fn := fun _ => fun
  | [d1, d2, d3] => { results := [.lit (.bool false)], args := [d1, d2, d3] }
  | _ => none }
def DigestNothingWrongFalsely : Prop := digestNothingRow.holds Try.pinned (OpenSpec.ofChange digestNothingWrong)

/- THE SECOND FORM. 'bulk': how many values and letters a reading holds, each counted each time it is reached (what is shared counts as often as it is met; a slice's spare places count too). A statement '..UptoSaid' is the law's where the arguments, and the package variables that the reading takes, are together of bulk at most 1048576: NARROWER than '..Said'. Prove '..Said' where nothing that the law and all that it calls make is longer than what came in: it says more and counts as full. Else prove '..UptoSaid'. A law counts once. -/
mutual
def uptoBulk {H : Type} : DataW H → Nat
  | .lit (.string bytes) => bytes.length + 1
  | .lit _ => 1
  | .nil => 1
  | .ptr d => uptoBulk d + 1
  | .slice elems spare => uptoBulkAll elems + uptoBulkAll spare + 1
  | .agg parts => uptoBulkAll parts + 1
  | .iface _ d => uptoBulk d + 1
  | .map entries => uptoBulkEntries entries + 1
  | .held _ => 1
def uptoBulkAll {H : Type} : List (DataW H) → Nat
  | [] => 0
  | d :: r => uptoBulk d + uptoBulkAll r
def uptoBulkEntries {H : Type} : List (Lit × DataW H) → Nat
  | [] => 0
  | x :: r => uptoBulkEntry x + uptoBulkEntries r
def uptoBulkEntry {H : Type} : Lit × DataW H → Nat
  | (.string bytes, d) => bytes.length + uptoBulk d + 1
  | (_, d) => uptoBulk d + 1
 end
def uptoSmall : (H : Type) → List (DataW H) → Bool := fun _ ds => decide (uptoBulkAll ds ≤ 1048576)
def OpenSpec.upto (s : _root_.Go.ChangeSpec) : _root_.Go.OpenSpec := { _root_.Go.OpenSpec.ofChange s with cond := some uptoSmall }

/-- 'cellplanelaw02.DigestMix', WHERE WHAT IT READS IS OF BULK AT MOST 1048576: true; the input reads as it did. -/
def digestMixUptoRow : OpenClaim := { program := "ytomdnmddphoecaa", sum := "6300eedb27fab7d842bfe312cda9c52838a13a377b63e1e6f646bc41a4a4da77", func := "cellplane/cellplanelaw02.DigestMix", spec := "digestMix", apart := false, narrowed := true }
def DigestMixUptoSaid : Prop := digestMixUptoRow.holds Try.pinned (OpenSpec.upto digestMixSpec)

/-- 'cellplanelaw02.DigestSteps', WHERE WHAT IT READS IS OF BULK AT MOST 1048576: true; the input reads as it did. -/
def digestStepsUptoRow : OpenClaim := { program := "ytomdnmddphoecaa", sum := "6300eedb27fab7d842bfe312cda9c52838a13a377b63e1e6f646bc41a4a4da77", func := "cellplane/cellplanelaw02.DigestSteps", spec := "digestSteps", apart := false, narrowed := true }
def DigestStepsUptoSaid : Prop := digestStepsUptoRow.holds Try.pinned (OpenSpec.upto digestStepsSpec)

/-- 'cellplanelaw02.DigestByte', WHERE WHAT IT READS IS OF BULK AT MOST 1048576: true; the input reads as it did. -/
def digestByteUptoRow : OpenClaim := { program := "ytomdnmddphoecaa", sum := "6300eedb27fab7d842bfe312cda9c52838a13a377b63e1e6f646bc41a4a4da77", func := "cellplane/cellplanelaw02.DigestByte", spec := "digestByte", apart := false, narrowed := true }
def DigestByteUptoSaid : Prop := digestByteUptoRow.holds Try.pinned (OpenSpec.upto digestByteSpec)

/-- 'cellplanelaw02.DigestKeys', WHERE WHAT IT READS IS OF BULK AT MOST 1048576: true; the input reads as it did. -/
def digestKeysUptoRow : OpenClaim := { program := "ytomdnmddphoecaa", sum := "6300eedb27fab7d842bfe312cda9c52838a13a377b63e1e6f646bc41a4a4da77", func := "cellplane/cellplanelaw02.DigestKeys", spec := "digestKeys", apart := false, narrowed := true }
def DigestKeysUptoSaid : Prop := digestKeysUptoRow.holds Try.pinned (OpenSpec.upto digestKeysSpec)

/-- 'cellplanelaw02.DigestInjective', WHERE WHAT IT READS IS OF BULK AT MOST 1048576: true; the input reads as it did. -/
def digestInjectiveUptoRow : OpenClaim := { program := "ytomdnmddphoecaa", sum := "6300eedb27fab7d842bfe312cda9c52838a13a377b63e1e6f646bc41a4a4da77", func := "cellplane/cellplanelaw02.DigestInjective", spec := "digestInjective", apart := false, narrowed := true }
def DigestInjectiveUptoSaid : Prop := digestInjectiveUptoRow.holds Try.pinned (OpenSpec.upto digestInjectiveSpec)

/-- 'cellplanelaw02.DigestSum', WHERE WHAT IT READS IS OF BULK AT MOST 1048576: true; the input reads as it did. -/
def digestSumUptoRow : OpenClaim := { program := "ytomdnmddphoecaa", sum := "6300eedb27fab7d842bfe312cda9c52838a13a377b63e1e6f646bc41a4a4da77", func := "cellplane/cellplanelaw02.DigestSum", spec := "digestSum", apart := false, narrowed := true }
def DigestSumUptoSaid : Prop := digestSumUptoRow.holds Try.pinned (OpenSpec.upto digestSumSpec)

/-- 'cellplanelaw02.DigestChains', WHERE WHAT IT READS IS OF BULK AT MOST 1048576: true; the input reads as it did. -/
def digestChainsUptoRow : OpenClaim := { program := "ytomdnmddphoecaa", sum := "6300eedb27fab7d842bfe312cda9c52838a13a377b63e1e6f646bc41a4a4da77", func := "cellplane/cellplanelaw02.DigestChains", spec := "digestChains", apart := false, narrowed := true }
def DigestChainsUptoSaid : Prop := digestChainsUptoRow.holds Try.pinned (OpenSpec.upto digestChainsSpec)

/-- 'cellplanelaw02.DigestNothing', WHERE WHAT IT READS IS OF BULK AT MOST 1048576: true; the input reads as it did. -/
def digestNothingUptoRow : OpenClaim := { program := "ytomdnmddphoecaa", sum := "6300eedb27fab7d842bfe312cda9c52838a13a377b63e1e6f646bc41a4a4da77", func := "cellplane/cellplanelaw02.DigestNothing", spec := "digestNothing", apart := false, narrowed := true }
def DigestNothingUptoSaid : Prop := digestNothingUptoRow.holds Try.pinned (OpenSpec.upto digestNothingSpec)

end Rows
end Go.Proofs.Ytomdnmddphoecaa
