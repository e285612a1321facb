/- The verdict changes to bad only behind Fall bad results in a row, and to good only behind Rise good ones. No condition. -/
import Derived.Test.YtfoaaglcanogpaaRows
import Derived.Test.YtfoaaglcanogpaaQProbeHoldsx2
import Derived.Test.YtfoaaglcanogpaaPureProbeHolds
import Derived.Test.YtfoaaglcanogpaaMatB
import Derived.WalkKit
import Derived.ProofKit
import Derived.OpenShut
import Derived.ShutString
import Derived.ChangeOld
import Derived.Below
import Derived.SizedLaws
import Derived.Lib.SmallJoins
import Derived.Test.YtfoaaglcanogpaaWSized
namespace Go.Proofs.Ytfoaaglcanogpaa.probeHolds
open Go.ChangeShapes Go.WideShapes Go.ChangeAt Go.RowKit
open Go.Proofs.YtfoaaglcanogpaaW.PrintWords
set_option linter.unusedVariables false
theorem own : ownKnob Try.prog.godebug = none := by kernel_rfl
theorem laidOut : laidOutB Try.prog = true := by kernel_rfl
set_option maxRecDepth 100000 in
theorem lifted (os : Os) (started : os.Started) (H : Type) (enc : TypeId × Value → H) :
    ReturnsInHanded {} Try.checked os 6 .any (Rows.probeHoldsSpec.pre6 enc Try.prog Try.f6 Rows.probeHoldsRow.domain false) (Rows.probeHoldsSpec.post enc Try.prog Try.f6 false true false false) := by
  refine returnsInHanded_of_change_sized (C := Try.checked) own started (by kernel_rfl) Try.func6
    (ChangeSpec.witness6 (enc := enc) (C := Try.checked) false ⟨#[], #[.agg #[.int .i64 0, .int .i64 0], .slice none 0 0], []⟩ 8 (by kernel_rfl) (by kernel_rfl) (by kernel_rfl) (by kernel_rfl)) ?_
  intro W base args ds gs before hval0 hW hcnd hsz0 _
  have hval : ∀ (j : Nat) t v, Try.f6.params[j]? = some t → args[j]? = some v → Value.okWide Try.prog W .any base t v := hval0
  have hW' := hW
  obtain ⟨p, q, hA0, hV, rfl, hfz, hnd⟩ := hW
  have hA : DataW.TrodAll enc Try.prog W 0 (fun _ => true) true Try.f6.params.toList args.toList ds p := hA0
  rw [Try.params6] at hA hval
  obtain ⟨v0, vs0, d0, ds0, p0, q0, hargs, rfl, rfl, h0, r0⟩ := trodAll_cons hA
  obtain ⟨v1, vs1, d1, ds1, p1, q1, rfl, rfl, rfl, h1, r1⟩ := trodAll_cons r0
  obtain ⟨rfl, rfl, rfl⟩ := trodAll_nil r1
  obtain rfl : args = #[v0, v1] := by cases args; simp_all
  obtain ⟨rfl, rfl⟩ := trodVars_none hV
  have k0 := h0
  have lt0 : ∀ x ∈ p0, x.block < W.heap.size := by obtain ⟨m, hm⟩ := k0; exact DataW.trod_lt m _ _ _ hm
  obtain ⟨c0, e0, y0, z0, n0, rfl, dq0, pq0, t0, u0⟩ := Go.Joins.open_agg2 Try.underlying23 (by kernel_rfl) (by kernel_rfl) (hval 0 23 _ rfl rfl) h0
  obtain ⟨a0_0, hc0, _, _⟩ := DataW.trod_int Try.underlying3 t0
  obtain ⟨a0_1, he0, _, _⟩ := DataW.trod_int Try.underlying3 u0
  injection hc0 with hc0 _
  injection he0 with he0 _
  subst hc0 he0
  have k1 := h1
  have lt1 : ∀ x ∈ p1, x.block < W.heap.size := by obtain ⟨m, hm⟩ := k1; exact DataW.trod_lt m _ _ _ hm
  obtain ⟨a1, len1, cap1, rfl⟩ := okWide_slice Try.underlying24 (hval 1 24 _ rfl rfl)
  obtain ⟨l1, e1, c1, C1⟩ := MatB.open_brow Try.underlying24 Try.underlying4 (by kernel_rfl) h1
  subst e1
  clear hA0 hval0 hsz0
  obtain ⟨k, hk⟩ := Pure.ProbeHolds a0_0 a0_1 l1
  refine (QProbeHolds.cellplanelaw22_ProbeHolds.calls k a0_0 a0_1 a1 cap1 l1 true W C1 c1 hk).mono fun e W' ⟨he, bel⟩ => ?_
  subst he
  exact ⟨_, rfl, _, _, _, [], _, [], hW', trodAll_mk1 (shut_bool Try.underlying4 _), (trodAll_cons_mk (Below.trod laidOut (by kernel_rfl) (of_decide_eq_true (by kernel_rfl)) k0 bel lt0) (trodAll_cons_mk (Below.trod laidOut (by kernel_rfl) (of_decide_eq_true (by kernel_rfl)) k1 bel lt1) trodAll_mk0)), rfl, bel.frame _, fun h => by cases h⟩
theorem over : Rows.probeHoldsRow.holds Try.pinned (OpenSpec.ofChange Rows.probeHoldsSpec) :=
  OpenClaim.holds_of_wide 6 Try.f6 rfl rfl rfl rfl rfl rfl rfl ⟨rfl, rfl, rfl, rfl, rfl⟩ rfl rfl rfl rfl rfl (by kernel_rfl) Try.func6 (by kernel_rfl)
    (of_decide_eq_true (by kernel_rfl)) (by unfold Func.isWrapper; first | (rw [if_pos (by decide +kernel)]; kernel_rfl) | (rw [if_neg (by decide +kernel)]; exact ⟨rfl, rfl⟩))
    (fun os started H enc _ => lifted os started H enc)
theorem proved : Rows.ProbeHoldsSaid := over
#print axioms proved
end Go.Proofs.Ytfoaaglcanogpaa.probeHolds
namespace Go.Proofs.Ytfoaaglcanogpaa
/-- The row, under a short name, for the claim. -/
theorem probeHolds_holds : Rows.ProbeHoldsSaid := probeHolds.proved
end Go.Proofs.Ytfoaaglcanogpaa
