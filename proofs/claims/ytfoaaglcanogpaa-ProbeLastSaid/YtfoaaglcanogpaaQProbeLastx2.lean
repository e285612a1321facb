-- Written by a program of this session's own (wip/myprint.sh). Lean checks it.
import Derived.Test.YtfoaaglcanogpaaQProbeLastx0
import Derived.Test.YtfoaaglcanogpaaQProbeLastx1
namespace Go.Proofs.Ytfoaaglcanogpaa.QProbeLast
open Go.RowKit Go.Proofs.YtfoaaglcanogpaaW.PrintWords Go.Proofs.YtfoaaglcanogpaaW.PrintLast Go.Proofs.YtfoaaglcanogpaaW.PrintMore
attribute [local go_sem] max2_int min2_int max_two min_two max_three min_three max_four min_four   -- for this text's walks alone
set_option linter.unusedVariables false
set_option linter.unusedSimpArgs false

/-! ### cellplanelaw22_ProbeLast: function 5 -/
mutual
def cellplanelaw22_ProbeLast.j0 : Nat → List Bool → List Bool → Bool → Option (Bool)
  | 0, _, _, _ => none
  | k + 1, x0, x3, x28 => if x28 = true then (some false) else (cellplanelaw22_ProbeLast.l0 k x0 x3 0)
def cellplanelaw22_ProbeLast.l0 : Nat → List Bool → List Bool → Int → Option (Bool)
  | 0, _, _, _ => none
  | k + 1, x0, x3, x5 => if x5 < (x0.length : Int) then (if 0 ≤ x5 then (if x5 < (x3.length : Int) then (if ((rdOf false x3 x5) == (rdOf false x0 x5)) = true then (some false) else (cellplanelaw22_ProbeLast.l0 k x0 x3 (wrap64 (x5 + 1)))) else (none)) else (none)) else (some true)
end
def cellplanelaw22_ProbeLast.f (k : Nat) (l0 : List Bool) : Option (Bool) := if (l0.length : Int) > 500 then ((cellplanelaw22_awake.f k).bind fun t131 => (some t131)) else ((probe_Verdicts.f 1 1 l0).bind fun bt132 => ((cellplanelaw22_awake.f k).bind fun t136 => (if t136 = true then (if bt132.2 = 0 then (cellplanelaw22_ProbeLast.j0 k l0 bt132.1 ((bt132.1.length : Int) != (l0.length : Int))) else (cellplanelaw22_ProbeLast.j0 k l0 bt132.1 true)) else (cellplanelaw22_ProbeLast.j0 k l0 bt132.1 true))))
theorem cellplanelaw22_ProbeLast.mono_l : ∀ k, (∀ y0 y1 y2, LeO (cellplanelaw22_ProbeLast.j0 k y0 y1 y2) (cellplanelaw22_ProbeLast.j0 (k + 1) y0 y1 y2)) ∧ (∀ y0 y1 y2, LeO (cellplanelaw22_ProbeLast.l0 k y0 y1 y2) (cellplanelaw22_ProbeLast.l0 (k + 1) y0 y1 y2))
  | 0 => ⟨fun _ _ _ r h => by simp [cellplanelaw22_ProbeLast.j0] at h, fun _ _ _ r h => by simp [cellplanelaw22_ProbeLast.l0] at h⟩
  | k + 1 => by
    obtain ⟨ih0, ih1⟩ := cellplanelaw22_ProbeLast.mono_l k
    refine ⟨?_, ?_⟩
    · intro y0 y1 y2
      unfold cellplanelaw22_ProbeLast.j0
      repeat' first
      | (with_reducible exact ih0 _ _ _)
      | (with_reducible exact ih1 _ _ _)
      | (with_reducible exact cellplanelaw22_awake.mono _)
      | (with_reducible exact LeO.refl _)
      | (with_reducible exact LeO.none _)
      | (with_reducible refine LeO.ite ?_ ?_)
      | (with_reducible refine LeO.bind ?_ (fun _ => ?_))
      | exact ih0 _ _ _
      | exact ih1 _ _ _
      | exact cellplanelaw22_awake.mono _
      | exact LeO.none _
      | refine LeO.ite ?_ ?_
      | refine LeO.bind ?_ (fun _ => ?_)
    · intro y0 y1 y2
      unfold cellplanelaw22_ProbeLast.l0
      repeat' first
      | (with_reducible exact ih0 _ _ _)
      | (with_reducible exact ih1 _ _ _)
      | (with_reducible exact cellplanelaw22_awake.mono _)
      | (with_reducible exact LeO.refl _)
      | (with_reducible exact LeO.none _)
      | (with_reducible refine LeO.ite ?_ ?_)
      | (with_reducible refine LeO.bind ?_ (fun _ => ?_))
      | exact ih0 _ _ _
      | exact ih1 _ _ _
      | exact cellplanelaw22_awake.mono _
      | exact LeO.none _
      | refine LeO.ite ?_ ?_
      | refine LeO.bind ?_ (fun _ => ?_)
theorem cellplanelaw22_ProbeLast.mono : ∀ a0 k, LeO (cellplanelaw22_ProbeLast.f k a0) (cellplanelaw22_ProbeLast.f (k + 1) a0) := by
  intro a0 k
  obtain ⟨ih0, ih1⟩ := cellplanelaw22_ProbeLast.mono_l k
  unfold cellplanelaw22_ProbeLast.f
  repeat' first
      | (with_reducible exact ih0 _ _ _)
      | (with_reducible exact ih1 _ _ _)
      | (with_reducible exact cellplanelaw22_awake.mono _)
      | (with_reducible exact LeO.refl _)
      | (with_reducible exact LeO.none _)
      | (with_reducible refine LeO.ite ?_ ?_)
      | (with_reducible refine LeO.bind ?_ (fun _ => ?_))
      | exact ih0 _ _ _
      | exact ih1 _ _ _
      | exact cellplanelaw22_awake.mono _
      | exact LeO.none _
      | refine LeO.ite ?_ ?_
      | refine LeO.bind ?_ (fun _ => ?_)
set_option maxHeartbeats 8000000 in
set_option maxRecDepth 100000 in
theorem cellplanelaw22_ProbeLast.calls (k : Nat) (A0 : Option Addr) (c0 : Nat) (l0 : List Bool) (r : Bool) (w : World) (hr0 : Kd.C Kd.bool w A0 l0.length l0) (hc0 : l0.length ≤ c0) (h : cellplanelaw22_ProbeLast.f k l0 = some r) :
    Calls Try.prog 5 #[.slice A0 l0.length c0] w fun e w' => e = .returned (.bool r) ∧ Below w.heap.size w w' := by
  have hu23 := Try.underlying23
  have HR0 := Aside0.mk hr0
  have HC0 := Aside0.mk hc0
  clear hr0 hc0
  have HB := Aside0.mk (Below.refl w.heap.size w)
  have H : (if (l0.length : Int) > 500 then ((cellplanelaw22_awake.f k).bind fun t131 => (some t131)) else ((probe_Verdicts.f 1 1 l0).bind fun bt132 => ((cellplanelaw22_awake.f k).bind fun t136 => (if t136 = true then (if bt132.2 = 0 then (cellplanelaw22_ProbeLast.j0 k l0 bt132.1 ((bt132.1.length : Int) != (l0.length : Int))) else (cellplanelaw22_ProbeLast.j0 k l0 bt132.1 true)) else (cellplanelaw22_ProbeLast.j0 k l0 bt132.1 true))))) = some r := h
  clear h
  by_cases c2 : (l0.length : Int) > 500
  · rw [if_pos c2] at H
    have c2b0 : decide (500 < (l0.length : Int)) = true := decide_eq_true c2
    have c2b1 : decide (500 < l0.length) = true := decide_eq_true (by omega)
    clear c2
    replace H := Option.bind_eq_some_iff.mp H
    obtain ⟨t131, A30, H⟩ := H
    replace H : (some t131) = some r := H
    have A3 := Aside0.mk A30
    clear A30
    obtain rfl := Option.some.inj H
    go_enter Try.func5, Try.ntmps5
    go_wp2_with (first | (go_at_call 9; (with_reducible refine (cellplanelaw22_awake.calls k  t131 _ A3.out).mono ?_); rintro e w4 ⟨rfl, hb⟩; have n0_ := Aside0.mk (below_step (by repeat (first | (with_reducible first | exact HB.out | apply below_alloc | apply pw_below_drewN | apply below_drew1) | exact HB.out)) hb); clear HB; have HB := n0_; clear n0_; (try clear hb); (try clear hb2); (try clear hk); (try clear hi)))
    repeat (go_quiet (first | (go_at_call 9; (with_reducible refine (cellplanelaw22_awake.calls k  t131 _ A3.out).mono ?_); rintro e w4 ⟨rfl, hb⟩; have n0_ := Aside0.mk (below_step (by repeat (first | (with_reducible first | exact HB.out | apply below_alloc | apply pw_below_drewN | apply below_drew1) | exact HB.out)) hb); clear HB; have HB := n0_; clear n0_; (try clear hb); (try clear hb2); (try clear hk); (try clear hi))); try go_wp2_with (first | (go_at_call 9; (with_reducible refine (cellplanelaw22_awake.calls k  t131 _ A3.out).mono ?_); rintro e w4 ⟨rfl, hb⟩; have n0_ := Aside0.mk (below_step (by repeat (first | (with_reducible first | exact HB.out | apply below_alloc | apply pw_below_drewN | apply below_drew1) | exact HB.out)) hb); clear HB; have HB := n0_; clear n0_; (try clear hb); (try clear hb2); (try clear hk); (try clear hi))))
    go_ret
    exact ⟨by first | rfl | (simp [errW_none, errW_some] <;> rfl) | (simp [*, errW_none, errW_some] <;> rfl), by repeat (first | (with_reducible first | exact HB.out | apply below_alloc | apply pw_below_drewN | apply below_drew1) | exact HB.out)⟩
  · rw [if_neg c2] at H
    have c2b0 : decide (500 < (l0.length : Int)) = false := decide_eq_false c2
    have c2b1 : decide (500 < l0.length) = false := decide_eq_false (by omega)
    clear c2
    replace H := Option.bind_eq_some_iff.mp H
    obtain ⟨⟨t132, t135⟩, A50, H⟩ := H
    replace H : ((cellplanelaw22_awake.f k).bind fun t136 => (if t136 = true then (if t135 = 0 then (cellplanelaw22_ProbeLast.j0 k l0 t132 ((t132.length : Int) != (l0.length : Int))) else (cellplanelaw22_ProbeLast.j0 k l0 t132 true)) else (cellplanelaw22_ProbeLast.j0 k l0 t132 true))) = some r := H
    have A5 := Aside0.mk A50
    clear A50
    have HC6 := Aside0.mk H
    clear H
    go_enter Try.func5, Try.ntmps5
    go_upto_region 4 with (first | (go_at_call 10; (with_reducible refine (probe_Verdicts.calls 1 1 _ _ l0 t132 t135 _ ?side1 ?side2 A5.out).mono ?_); (case side1 => repeat (first | exact HR0.out | (with_reducible refine Kd.C_alloc ?_ _) | (with_reducible refine Kd.C_drewN ?_ _) | (with_reducible refine Kd.C_drew ?_))); (case side2 => exact HC0.out); rintro e w7 ⟨v133, rfl, ho0, hb⟩; have n0_ := Aside0.mk (Kd.R_lower ho0 (below_size (by repeat (first | (with_reducible first | exact HB.out | apply below_alloc | apply pw_below_drewN | apply below_drew1) | exact HB.out)))); have n1_ := Aside0.mk (below_step (by repeat (first | (with_reducible first | exact HB.out | apply below_alloc | apply pw_below_drewN | apply below_drew1) | exact HB.out)) hb); clear HB; have HO134 := n0_; have HB := n1_; clear n0_ n1_; (try clear hb); (try clear hb2); (try clear hk); (try clear hi); (try clear ho0)))
    repeat (go_quiet (first | (go_at_call 10; (with_reducible refine (probe_Verdicts.calls 1 1 _ _ l0 t132 t135 _ ?side1 ?side2 A5.out).mono ?_); (case side1 => repeat (first | exact HR0.out | (with_reducible refine Kd.C_alloc ?_ _) | (with_reducible refine Kd.C_drewN ?_ _) | (with_reducible refine Kd.C_drew ?_))); (case side2 => exact HC0.out); rintro e w7 ⟨v133, rfl, ho0, hb⟩; have n0_ := Aside0.mk (Kd.R_lower ho0 (below_size (by repeat (first | (with_reducible first | exact HB.out | apply below_alloc | apply pw_below_drewN | apply below_drew1) | exact HB.out)))); have n1_ := Aside0.mk (below_step (by repeat (first | (with_reducible first | exact HB.out | apply below_alloc | apply pw_below_drewN | apply below_drew1) | exact HB.out)) hb); clear HB; have HO134 := n0_; have HB := n1_; clear n0_ n1_; (try clear hb); (try clear hb2); (try clear hk); (try clear hi); (try clear ho0))); go_upto_region 4 with (first | (go_at_call 10; (with_reducible refine (probe_Verdicts.calls 1 1 _ _ l0 t132 t135 _ ?side1 ?side2 A5.out).mono ?_); (case side1 => repeat (first | exact HR0.out | (with_reducible refine Kd.C_alloc ?_ _) | (with_reducible refine Kd.C_drewN ?_ _) | (with_reducible refine Kd.C_drew ?_))); (case side2 => exact HC0.out); rintro e w7 ⟨v133, rfl, ho0, hb⟩; have n0_ := Aside0.mk (Kd.R_lower ho0 (below_size (by repeat (first | (with_reducible first | exact HB.out | apply below_alloc | apply pw_below_drewN | apply below_drew1) | exact HB.out)))); have n1_ := Aside0.mk (below_step (by repeat (first | (with_reducible first | exact HB.out | apply below_alloc | apply pw_below_drewN | apply below_drew1) | exact HB.out)) hb); clear HB; have HO134 := n0_; have HB := n1_; clear n0_ n1_; (try clear hb); (try clear hb2); (try clear hk); (try clear hi); (try clear ho0))))
    (try simp only [Act.put, List.setIfInBounds_toArray, List.set_cons_zero, List.set_cons_succ])
    go_cut [28] (fun v28 wc => ∃ (kq : Nat) (x28_5 : Bool), v28 = .bool x28_5 ∧ Aside0 (cellplanelaw22_ProbeLast.j0 kq l0 t132 x28_5 = some r) ∧ Aside0 (kq ≤ k) ∧ Aside0 (Kd.R Kd.bool 4 wc w.heap.size (fun _ => True) v133 t132) ∧ Aside0 (Below w.heap.size w wc))
    case first =>
      have H := HC6.out
      clear HC6
      replace H := Option.bind_eq_some_iff.mp H
      obtain ⟨t136, A80, H⟩ := H
      replace H : (if t136 = true then (if t135 = 0 then (cellplanelaw22_ProbeLast.j0 k l0 t132 ((t132.length : Int) != (l0.length : Int))) else (cellplanelaw22_ProbeLast.j0 k l0 t132 true)) else (cellplanelaw22_ProbeLast.j0 k l0 t132 true)) = some r := H
      have A8 := Aside0.mk A80
      clear A80
      by_cases c9 : t136 = true
      · subst c9
        have H1 : (if t135 = 0 then (cellplanelaw22_ProbeLast.j0 k l0 t132 ((t132.length : Int) != (l0.length : Int))) else (cellplanelaw22_ProbeLast.j0 k l0 t132 true)) = some r := by rw [if_pos rfl] at H; exact H
        clear H
        have H := H1
        clear H1
        by_cases c10 : t135 = 0
        · rw [if_pos c10] at H
          have c10b0 : (t135 == 0) = true := beq_iff_eq.mpr c10
          have c10b1 : (t135 != 0) = false := bne_eq_false_iff_eq.mpr c10
          clear c10
          (first | rw [c10b0] | (simp only [i64_w, i32_w]; rw [c10b0]) | skip)
          have H' := Aside0.mk H
          clear H
          go_wp2_with (first | (go_at_call 9; (with_reducible refine (cellplanelaw22_awake.calls k  true _ A8.out).mono ?_); rintro e w11 ⟨rfl, hb⟩; have n0_ := Aside0.mk (Kd.R_below (by (with_reducible repeat (first | apply Kd.R_alloc | apply Kd.R_drewN | apply Kd.R_drew)); exact HO134.out) hb); have n1_ := Aside0.mk (below_step (by repeat (first | (with_reducible first | exact HB.out | apply below_alloc | apply pw_below_drewN | apply below_drew1) | exact HB.out)) hb); clear HO134; clear HB; have HO134 := n0_; have HB := n1_; clear n0_ n1_; (try clear hb); (try clear hb2); (try clear hk); (try clear hi); obtain ⟨Ao12, co12, eo12⟩ := Kd.R_slice HO134.out; subst eo12))
          repeat (go_quiet (first | (go_at_call 9; (with_reducible refine (cellplanelaw22_awake.calls k  true _ A8.out).mono ?_); rintro e w11 ⟨rfl, hb⟩; have n0_ := Aside0.mk (Kd.R_below (by (with_reducible repeat (first | apply Kd.R_alloc | apply Kd.R_drewN | apply Kd.R_drew)); exact HO134.out) hb); have n1_ := Aside0.mk (below_step (by repeat (first | (with_reducible first | exact HB.out | apply below_alloc | apply pw_below_drewN | apply below_drew1) | exact HB.out)) hb); clear HO134; clear HB; have HO134 := n0_; have HB := n1_; clear n0_ n1_; (try clear hb); (try clear hb2); (try clear hk); (try clear hi); obtain ⟨Ao12, co12, eo12⟩ := Kd.R_slice HO134.out; subst eo12)); try go_wp2_with (first | (go_at_call 9; (with_reducible refine (cellplanelaw22_awake.calls k  true _ A8.out).mono ?_); rintro e w11 ⟨rfl, hb⟩; have n0_ := Aside0.mk (Kd.R_below (by (with_reducible repeat (first | apply Kd.R_alloc | apply Kd.R_drewN | apply Kd.R_drew)); exact HO134.out) hb); have n1_ := Aside0.mk (below_step (by repeat (first | (with_reducible first | exact HB.out | apply below_alloc | apply pw_below_drewN | apply below_drew1) | exact HB.out)) hb); clear HO134; clear HB; have HO134 := n0_; have HB := n1_; clear n0_ n1_; (try clear hb); (try clear hb2); (try clear hk); (try clear hi); obtain ⟨Ao12, co12, eo12⟩ := Kd.R_slice HO134.out; subst eo12)))
          go_meet
          case rel => exact ⟨_, (((t132.length : Int) != (l0.length : Int))), (by first | rfl | (simp; done) | (simp [*]; done)), H', ⟨by first | omega | exact Nat.le_refl _⟩, ⟨by (with_reducible repeat (first | apply Kd.R_alloc | apply Kd.R_drewN | apply Kd.R_drew)); exact HO134.out⟩, ⟨by repeat (first | (with_reducible first | exact HB.out | apply below_alloc | apply pw_below_drewN | apply below_drew1) | exact HB.out)⟩⟩
        · rw [if_neg c10] at H
          have c10b0 : (t135 == 0) = false := beq_eq_false_iff_ne.mpr c10
          have c10b1 : (t135 != 0) = true := bne_iff_ne.mpr c10
          (first | rw [c10b0] | (simp only [i64_w, i32_w]; rw [c10b0]) | skip)
          have H' := Aside0.mk H
          clear H
          go_wp2_with (first | (go_at_call 9; (with_reducible refine (cellplanelaw22_awake.calls k  true _ A8.out).mono ?_); rintro e w13 ⟨rfl, hb⟩; have n0_ := Aside0.mk (Kd.R_below (by (with_reducible repeat (first | apply Kd.R_alloc | apply Kd.R_drewN | apply Kd.R_drew)); exact HO134.out) hb); have n1_ := Aside0.mk (below_step (by repeat (first | (with_reducible first | exact HB.out | apply below_alloc | apply pw_below_drewN | apply below_drew1) | exact HB.out)) hb); clear HO134; clear HB; have HO134 := n0_; have HB := n1_; clear n0_ n1_; (try clear hb); (try clear hb2); (try clear hk); (try clear hi)))
          repeat (go_quiet (first | (go_at_call 9; (with_reducible refine (cellplanelaw22_awake.calls k  true _ A8.out).mono ?_); rintro e w13 ⟨rfl, hb⟩; have n0_ := Aside0.mk (Kd.R_below (by (with_reducible repeat (first | apply Kd.R_alloc | apply Kd.R_drewN | apply Kd.R_drew)); exact HO134.out) hb); have n1_ := Aside0.mk (below_step (by repeat (first | (with_reducible first | exact HB.out | apply below_alloc | apply pw_below_drewN | apply below_drew1) | exact HB.out)) hb); clear HO134; clear HB; have HO134 := n0_; have HB := n1_; clear n0_ n1_; (try clear hb); (try clear hb2); (try clear hk); (try clear hi))); try go_wp2_with (first | (go_at_call 9; (with_reducible refine (cellplanelaw22_awake.calls k  true _ A8.out).mono ?_); rintro e w13 ⟨rfl, hb⟩; have n0_ := Aside0.mk (Kd.R_below (by (with_reducible repeat (first | apply Kd.R_alloc | apply Kd.R_drewN | apply Kd.R_drew)); exact HO134.out) hb); have n1_ := Aside0.mk (below_step (by repeat (first | (with_reducible first | exact HB.out | apply below_alloc | apply pw_below_drewN | apply below_drew1) | exact HB.out)) hb); clear HO134; clear HB; have HO134 := n0_; have HB := n1_; clear n0_ n1_; (try clear hb); (try clear hb2); (try clear hk); (try clear hi))))
          go_meet
          case rel => exact ⟨_, (true), (by first | rfl | (simp; done) | (simp [*]; done)), H', ⟨by first | omega | exact Nat.le_refl _⟩, ⟨by (with_reducible repeat (first | apply Kd.R_alloc | apply Kd.R_drewN | apply Kd.R_drew)); exact HO134.out⟩, ⟨by repeat (first | (with_reducible first | exact HB.out | apply below_alloc | apply pw_below_drewN | apply below_drew1) | exact HB.out)⟩⟩
      · replace c9 := Bool.eq_false_iff.mpr c9
        subst c9
        have H1 : (cellplanelaw22_ProbeLast.j0 k l0 t132 true) = some r := by rw [if_neg (show ¬ (false = true) by decide)] at H; exact H
        clear H
        have H := H1
        clear H1
        have H' := Aside0.mk H
        clear H
        go_wp2_with (first | (go_at_call 9; (with_reducible refine (cellplanelaw22_awake.calls k  false _ A8.out).mono ?_); rintro e w14 ⟨rfl, hb⟩; have n0_ := Aside0.mk (Kd.R_below (by (with_reducible repeat (first | apply Kd.R_alloc | apply Kd.R_drewN | apply Kd.R_drew)); exact HO134.out) hb); have n1_ := Aside0.mk (below_step (by repeat (first | (with_reducible first | exact HB.out | apply below_alloc | apply pw_below_drewN | apply below_drew1) | exact HB.out)) hb); clear HO134; clear HB; have HO134 := n0_; have HB := n1_; clear n0_ n1_; (try clear hb); (try clear hb2); (try clear hk); (try clear hi)))
        repeat (go_quiet (first | (go_at_call 9; (with_reducible refine (cellplanelaw22_awake.calls k  false _ A8.out).mono ?_); rintro e w14 ⟨rfl, hb⟩; have n0_ := Aside0.mk (Kd.R_below (by (with_reducible repeat (first | apply Kd.R_alloc | apply Kd.R_drewN | apply Kd.R_drew)); exact HO134.out) hb); have n1_ := Aside0.mk (below_step (by repeat (first | (with_reducible first | exact HB.out | apply below_alloc | apply pw_below_drewN | apply below_drew1) | exact HB.out)) hb); clear HO134; clear HB; have HO134 := n0_; have HB := n1_; clear n0_ n1_; (try clear hb); (try clear hb2); (try clear hk); (try clear hi))); try go_wp2_with (first | (go_at_call 9; (with_reducible refine (cellplanelaw22_awake.calls k  false _ A8.out).mono ?_); rintro e w14 ⟨rfl, hb⟩; have n0_ := Aside0.mk (Kd.R_below (by (with_reducible repeat (first | apply Kd.R_alloc | apply Kd.R_drewN | apply Kd.R_drew)); exact HO134.out) hb); have n1_ := Aside0.mk (below_step (by repeat (first | (with_reducible first | exact HB.out | apply below_alloc | apply pw_below_drewN | apply below_drew1) | exact HB.out)) hb); clear HO134; clear HB; have HO134 := n0_; have HB := n1_; clear n0_ n1_; (try clear hb); (try clear hb2); (try clear hk); (try clear hi))))
        go_meet
        case rel => exact ⟨_, (true), (by first | rfl | (simp; done) | (simp [*]; done)), H', ⟨by first | omega | exact Nat.le_refl _⟩, ⟨by (with_reducible repeat (first | apply Kd.R_alloc | apply Kd.R_drewN | apply Kd.R_drew)); exact HO134.out⟩, ⟨by repeat (first | (with_reducible first | exact HB.out | apply below_alloc | apply pw_below_drewN | apply below_drew1) | exact HB.out)⟩⟩
    case rest =>
      clear HC6
      try clear c1
      try clear c2
      try clear c2b0
      try clear c2b1
      try clear p2
      try clear c5
      try clear c9
      try clear c10
      try clear c10b0
      try clear c10b1
      obtain ⟨kq, x28_5, rfl, HA, HJ5, HO_3, HB⟩ := hcut
      cases kq with
      | zero => exact absurd HA.out (by simp [cellplanelaw22_ProbeLast.j0])
      | succ kj5 =>
        have H := HA.out
        clear HA
        simp only [cellplanelaw22_ProbeLast.j0] at H
        by_cases c15 : x28_5 = true
        · subst c15
          have H1 : (some false) = some r := by rw [if_pos rfl] at H; exact H
          clear H
          have H := H1
          clear H1
          obtain rfl := Option.some.inj H
          go_wp2
          repeat (go_quiet (fail); try go_wp2)
          go_ret
          exact ⟨by first | rfl | (simp [errW_none, errW_some] <;> rfl) | (simp [*, errW_none, errW_some] <;> rfl), by repeat (first | (with_reducible first | exact HB.out | apply below_alloc | apply pw_below_drewN | apply below_drew1) | exact HB.out)⟩
        · replace c15 := Bool.eq_false_iff.mpr c15
          subst c15
          have H1 : (cellplanelaw22_ProbeLast.l0 kj5 l0 t132 0) = some r := by rw [if_neg (show ¬ (false = true) by decide)] at H; exact H
          clear H
          have H := H1
          clear H1
          have H' := Aside0.mk H
          clear H
          go_wp2
          repeat (go_quiet (fail); try go_wp2)
          go_loopg [5] kj5 (fun kq v5 w' => ∃ (x5_2 : Int), v5 = .int .i64 x5_2 ∧ Aside0 (cellplanelaw22_ProbeLast.l0 kq l0 t132 x5_2 = some r) ∧ Aside0 (kq ≤ kj5) ∧ Aside0 (Kd.R Kd.bool 4 w' w.heap.size (fun _ => True) v133 t132) ∧ Aside0 (Below w.heap.size w w'))
          case atStart => exact ⟨(0), (by first | rfl | (simp; done) | (simp [*]; done)), H', ⟨Nat.le_refl _⟩, ⟨by (with_reducible repeat (first | apply Kd.R_alloc | apply Kd.R_drewN | apply Kd.R_drew)); exact HO_3.out⟩, ⟨by repeat (first | (with_reducible first | exact HB.out | apply below_alloc | apply pw_below_drewN | apply below_drew1) | exact HB.out)⟩⟩
          case round =>
            clear H'
            try clear c1
            try clear c2
            try clear c2b0
            try clear c2b1
            try clear p2
            try clear c5
            try clear c9
            try clear c10
            try clear c10b0
            try clear c10b1
            try clear c15
            try clear p2
            obtain ⟨x5_2, rfl, HA, HK2, HO_3, HB⟩ := hrel
            cases gk with
            | zero => exact absurd HA.out (by simp [cellplanelaw22_ProbeLast.l0])
            | succ k2 =>
              have H := HA.out
              clear HA
              simp only [cellplanelaw22_ProbeLast.l0] at H
              by_cases c16 : x5_2 < (l0.length : Int)
              · rw [if_pos c16] at H
                have c16b0 : decide (x5_2 < (l0.length : Int)) = true := decide_eq_true c16
                clear c16
                by_cases c17 : 0 ≤ x5_2
                · rw [if_pos c17] at H
                  have c17b0 : decide (0 ≤ x5_2) = true := decide_eq_true c17
                  clear c17
                  by_cases c18 : x5_2 < (t132.length : Int)
                  · rw [if_pos c18] at H
                    have c18b0 : decide (x5_2 < (t132.length : Int)) = true := decide_eq_true c18
                    clear c18
                    by_cases c19 : ((rdOf false t132 x5_2) == (rdOf false l0 x5_2)) = true
                    · rw [if_pos c19] at H
                      have c19b0 : ((rdOf false t132 x5_2) == (rdOf false l0 x5_2)) = true := c19
                      (try (have c19b1 : decide ((rdOf false t132 x5_2) = (rdOf false l0 x5_2)) = true := by simpa using c19))
                      (try (have c19b2 : ((rdOf false t132 x5_2) == (rdOf false l0 x5_2)) = true := by simpa using c19))
                      clear c19
                      obtain rfl := Option.some.inj H
                      obtain ⟨Ao20, co20, eo20⟩ := Kd.R_slice HO_3.out
                      subst eo20
                      have p137 : 0 ≤ (x5_2 : Int) := of_decide_eq_true (by first | (with_reducible assumption) | assumption)
                      have q137 : x5_2 < (t132.length : Int) := of_decide_eq_true (by first | (with_reducible assumption) | assumption)
                      obtain ⟨ad137, e137, hx137_0⟩ := Kd.at_bool (Kd.R_reads' HO_3.out).2.2 x5_2 p137 q137
                      cases e137
                      replace p137 := eq_true p137
                      replace q137 := eq_true q137
                      have p138 : 0 ≤ (x5_2 : Int) := of_decide_eq_true (by first | (with_reducible assumption) | assumption)
                      have q138 : x5_2 < (l0.length : Int) := of_decide_eq_true (by first | (with_reducible assumption) | assumption)
                      obtain ⟨ad138, e138, hx138_0⟩ := Kd.at_bool HR0.out x5_2 p138 q138
                      cases e138
                      replace hx138_0 := (HB.out.cell (World.block_lt_of_cell? w _ hx138_0)).trans hx138_0
                      replace p138 := eq_true p138
                      replace q138 := eq_true q138
                      go_wp2
                      repeat (go_quiet (fail); try go_wp2)
                      go_ret
                      exact ⟨by first | rfl | (simp [errW_none, errW_some] <;> rfl) | (simp [*, errW_none, errW_some] <;> rfl), by repeat (first | (with_reducible first | exact HB.out | apply below_alloc | apply pw_below_drewN | apply below_drew1) | exact HB.out)⟩
                    · rw [if_neg c19] at H
                      have c19b0 : ((rdOf false t132 x5_2) == (rdOf false l0 x5_2)) = false := by simpa using c19
                      (try (have c19b1 : decide ((rdOf false t132 x5_2) = (rdOf false l0 x5_2)) = false := by simpa using c19))
                      (try (have c19b2 : ((rdOf false t132 x5_2) == (rdOf false l0 x5_2)) = false := by simpa using c19))
                      (try (have c19b3 : ¬ ((rdOf false t132 x5_2) = (rdOf false l0 x5_2)) := by simpa using c19))
                      clear c19
                      have H' := Aside0.mk H
                      clear H
                      obtain ⟨Ao21, co21, eo21⟩ := Kd.R_slice HO_3.out
                      subst eo21
                      have p137 : 0 ≤ (x5_2 : Int) := of_decide_eq_true (by first | (with_reducible assumption) | assumption)
                      have q137 : x5_2 < (t132.length : Int) := of_decide_eq_true (by first | (with_reducible assumption) | assumption)
                      obtain ⟨ad137, e137, hx137_0⟩ := Kd.at_bool (Kd.R_reads' HO_3.out).2.2 x5_2 p137 q137
                      cases e137
                      replace p137 := eq_true p137
                      replace q137 := eq_true q137
                      have p138 : 0 ≤ (x5_2 : Int) := of_decide_eq_true (by first | (with_reducible assumption) | assumption)
                      have q138 : x5_2 < (l0.length : Int) := of_decide_eq_true (by first | (with_reducible assumption) | assumption)
                      obtain ⟨ad138, e138, hx138_0⟩ := Kd.at_bool HR0.out x5_2 p138 q138
                      cases e138
                      replace hx138_0 := (HB.out.cell (World.block_lt_of_cell? w _ hx138_0)).trans hx138_0
                      replace p138 := eq_true p138
                      replace q138 := eq_true q138
                      go_wp2
                      repeat (go_quiet (fail); try go_wp2)
                      go_roundg k2
                      case measure => have := HJ5.out; have := HK2.out; omega
                      case rel => exact ⟨(wrap64 (x5_2 + 1)), (by first | rfl | (simp; done) | (simp [*]; done)), H', ⟨by have := HJ5.out; have := HK2.out; omega⟩, ⟨by (with_reducible repeat (first | apply Kd.R_alloc | apply Kd.R_drewN | apply Kd.R_drew)); exact HO_3.out⟩, ⟨by repeat (first | (with_reducible first | exact HB.out | apply below_alloc | apply pw_below_drewN | apply below_drew1) | exact HB.out)⟩⟩
                  · rw [if_neg c18] at H
                    exact absurd H (by simp)
                · rw [if_neg c17] at H
                  exact absurd H (by simp)
              · rw [if_neg c16] at H
                have c16b0 : decide (x5_2 < (l0.length : Int)) = false := decide_eq_false c16
                clear c16
                obtain rfl := Option.some.inj H
                go_wp2
                repeat (go_quiet (fail); try go_wp2)
                go_ret
                exact ⟨by first | rfl | (simp [errW_none, errW_some] <;> rfl) | (simp [*, errW_none, errW_some] <;> rfl), by repeat (first | (with_reducible first | exact HB.out | apply below_alloc | apply pw_below_drewN | apply below_drew1) | exact HB.out)⟩

end Go.Proofs.Ytfoaaglcanogpaa.QProbeLast
