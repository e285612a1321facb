-- Written by a program of this session's own (wip/myprint.sh). Lean checks it.
import Derived.Test.YtfoaaglcanogpaaQProbeBetweenx0
import Derived.Test.YtfoaaglcanogpaaQProbeBetweenx1
namespace Go.Proofs.Ytfoaaglcanogpaa.QProbeBetween
open Go.RowKit Go.Proofs.YtfoaaglcanogpaaW.PrintWords Go.Proofs.YtfoaaglcanogpaaW.PrintLast Go.Proofs.YtfoaaglcanogpaaW.PrintMore
attribute [local go_sem] max2_int min2_int max_two min_two max_three min_three max_four min_four   -- for this text's walks alone
set_option linter.unusedVariables false
set_option linter.unusedSimpArgs false

/-! ### cellplanelaw22_ProbeBetween: function 7 -/
mutual
def cellplanelaw22_ProbeBetween.j0 : Nat → Int → Int → List Int → Bool → Option (Bool)
  | 0, _, _, _, _ => none
  | k + 1, x0, x1, x2, x18 => if x18 = true then ((cellplanelaw22_awake.f k).bind fun t131 => (some t131)) else ((probe_Hot.f k x0 x1 x2).bind fun bt132 => ((cellplanelaw22_awake.f k).bind fun t136 => (if t136 = true then (if bt132.2 = 0 then (cellplanelaw22_ProbeBetween.j1 k x0 x1 x2 bt132.1 ((bt132.1.length : Int) != (x2.length : Int))) else (cellplanelaw22_ProbeBetween.j1 k x0 x1 x2 bt132.1 true)) else (cellplanelaw22_ProbeBetween.j1 k x0 x1 x2 bt132.1 true))))
def cellplanelaw22_ProbeBetween.j1 : Nat → Int → Int → List Int → List Bool → Bool → Option (Bool)
  | 0, _, _, _, _, _ => none
  | k + 1, x0, x1, x2, x7, x39 => if x39 = true then (some false) else (cellplanelaw22_ProbeBetween.l0 k x0 x1 x2 x7 0)
def cellplanelaw22_ProbeBetween.l0 : Nat → Int → Int → List Int → List Bool → Int → Option (Bool)
  | 0, _, _, _, _, _ => none
  | k + 1, x0, x1, x2, x7, x9 => if x9 < (x2.length : Int) then (if x9 > 0 then (if 0 ≤ (wrap64 (x9 - 1)) then (if (wrap64 (x9 - 1)) < (x7.length : Int) then (if 0 ≤ x9 then (if (rd x2 x9) > x0 then (if x9 < (x7.length : Int) then (if rdOf false x7 x9 = true then (if (rd x2 x9) < x1 then (some false) else (if (rd x2 x9) ≤ x0 then (if (rd x2 x9) ≥ x1 then (if ((rdOf false x7 x9) != (rdOf false x7 (wrap64 (x9 - 1)))) = true then (some false) else (cellplanelaw22_ProbeBetween.l0 k x0 x1 x2 x7 (wrap64 (x9 + 1)))) else (cellplanelaw22_ProbeBetween.l0 k x0 x1 x2 x7 (wrap64 (x9 + 1)))) else (cellplanelaw22_ProbeBetween.l0 k x0 x1 x2 x7 (wrap64 (x9 + 1))))) else (some false)) else (none)) else (if (rd x2 x9) < x1 then (if x9 < (x7.length : Int) then (if rdOf false x7 x9 = true then (some false) else (if (rd x2 x9) ≤ x0 then (if (rd x2 x9) ≥ x1 then (if ((rdOf false x7 x9) != (rdOf false x7 (wrap64 (x9 - 1)))) = true then (some false) else (cellplanelaw22_ProbeBetween.l0 k x0 x1 x2 x7 (wrap64 (x9 + 1)))) else (cellplanelaw22_ProbeBetween.l0 k x0 x1 x2 x7 (wrap64 (x9 + 1)))) else (cellplanelaw22_ProbeBetween.l0 k x0 x1 x2 x7 (wrap64 (x9 + 1))))) else (none)) else (if (rd x2 x9) ≤ x0 then (if (rd x2 x9) ≥ x1 then (if x9 < (x7.length : Int) then (if ((rdOf false x7 x9) != (rdOf false x7 (wrap64 (x9 - 1)))) = true then (some false) else (cellplanelaw22_ProbeBetween.l0 k x0 x1 x2 x7 (wrap64 (x9 + 1)))) else (none)) else (cellplanelaw22_ProbeBetween.l0 k x0 x1 x2 x7 (wrap64 (x9 + 1)))) else (cellplanelaw22_ProbeBetween.l0 k x0 x1 x2 x7 (wrap64 (x9 + 1)))))) else (none)) else (none)) else (none)) else (if 0 ≤ x9 then (if (rd x2 x9) > x0 then (if x9 < (x7.length : Int) then (if rdOf false x7 x9 = true then (if (rd x2 x9) < x1 then (some false) else (if (rd x2 x9) ≤ x0 then (if (rd x2 x9) ≥ x1 then (if ((rdOf false x7 x9) != false) = true then (some false) else (cellplanelaw22_ProbeBetween.l0 k x0 x1 x2 x7 (wrap64 (x9 + 1)))) else (cellplanelaw22_ProbeBetween.l0 k x0 x1 x2 x7 (wrap64 (x9 + 1)))) else (cellplanelaw22_ProbeBetween.l0 k x0 x1 x2 x7 (wrap64 (x9 + 1))))) else (some false)) else (none)) else (if (rd x2 x9) < x1 then (if x9 < (x7.length : Int) then (if rdOf false x7 x9 = true then (some false) else (if (rd x2 x9) ≤ x0 then (if (rd x2 x9) ≥ x1 then (if ((rdOf false x7 x9) != false) = true then (some false) else (cellplanelaw22_ProbeBetween.l0 k x0 x1 x2 x7 (wrap64 (x9 + 1)))) else (cellplanelaw22_ProbeBetween.l0 k x0 x1 x2 x7 (wrap64 (x9 + 1)))) else (cellplanelaw22_ProbeBetween.l0 k x0 x1 x2 x7 (wrap64 (x9 + 1))))) else (none)) else (if (rd x2 x9) ≤ x0 then (if (rd x2 x9) ≥ x1 then (if x9 < (x7.length : Int) then (if ((rdOf false x7 x9) != false) = true then (some false) else (cellplanelaw22_ProbeBetween.l0 k x0 x1 x2 x7 (wrap64 (x9 + 1)))) else (none)) else (cellplanelaw22_ProbeBetween.l0 k x0 x1 x2 x7 (wrap64 (x9 + 1)))) else (cellplanelaw22_ProbeBetween.l0 k x0 x1 x2 x7 (wrap64 (x9 + 1)))))) else (none))) else (some true)
end
def cellplanelaw22_ProbeBetween.f (k : Nat) (a0 : Int) (a1 : Int) (l2 : List Int) : Option (Bool) := if (l2.length : Int) > 500 then (cellplanelaw22_ProbeBetween.j0 k a0 a1 l2 true) else (cellplanelaw22_ProbeBetween.j0 k a0 a1 l2 (decide (a1 > a0)))
theorem cellplanelaw22_ProbeBetween.mono_l : ∀ k, (∀ y0 y1 y2 y3, LeO (cellplanelaw22_ProbeBetween.j0 k y0 y1 y2 y3) (cellplanelaw22_ProbeBetween.j0 (k + 1) y0 y1 y2 y3)) ∧ (∀ y0 y1 y2 y3 y4, LeO (cellplanelaw22_ProbeBetween.j1 k y0 y1 y2 y3 y4) (cellplanelaw22_ProbeBetween.j1 (k + 1) y0 y1 y2 y3 y4)) ∧ (∀ y0 y1 y2 y3 y4, LeO (cellplanelaw22_ProbeBetween.l0 k y0 y1 y2 y3 y4) (cellplanelaw22_ProbeBetween.l0 (k + 1) y0 y1 y2 y3 y4))
  | 0 => ⟨fun _ _ _ _ r h => by simp [cellplanelaw22_ProbeBetween.j0] at h, fun _ _ _ _ _ r h => by simp [cellplanelaw22_ProbeBetween.j1] at h, fun _ _ _ _ _ r h => by simp [cellplanelaw22_ProbeBetween.l0] at h⟩
  | k + 1 => by
    obtain ⟨ih0, ih1, ih2⟩ := cellplanelaw22_ProbeBetween.mono_l k
    refine ⟨?_, ?_, ?_⟩
    · intro y0 y1 y2 y3
      unfold cellplanelaw22_ProbeBetween.j0
      repeat' first
      | (with_reducible exact ih0 _ _ _ _)
      | (with_reducible exact ih1 _ _ _ _ _)
      | (with_reducible exact ih2 _ _ _ _ _)
      | (with_reducible exact cellplanelaw22_awake.mono _)
      | (with_reducible exact probe_Hot.mono _ _ _ _)
      | (with_reducible exact LeO.refl _)
      | (with_reducible exact LeO.none _)
      | (with_reducible refine LeO.ite ?_ ?_)
      | (with_reducible refine LeO.bind ?_ (fun _ => ?_))
      | exact ih0 _ _ _ _
      | exact ih1 _ _ _ _ _
      | exact ih2 _ _ _ _ _
      | exact cellplanelaw22_awake.mono _
      | exact probe_Hot.mono _ _ _ _
      | exact LeO.none _
      | refine LeO.ite ?_ ?_
      | refine LeO.bind ?_ (fun _ => ?_)
    · intro y0 y1 y2 y3 y4
      unfold cellplanelaw22_ProbeBetween.j1
      repeat' first
      | (with_reducible exact ih0 _ _ _ _)
      | (with_reducible exact ih1 _ _ _ _ _)
      | (with_reducible exact ih2 _ _ _ _ _)
      | (with_reducible exact cellplanelaw22_awake.mono _)
      | (with_reducible exact probe_Hot.mono _ _ _ _)
      | (with_reducible exact LeO.refl _)
      | (with_reducible exact LeO.none _)
      | (with_reducible refine LeO.ite ?_ ?_)
      | (with_reducible refine LeO.bind ?_ (fun _ => ?_))
      | exact ih0 _ _ _ _
      | exact ih1 _ _ _ _ _
      | exact ih2 _ _ _ _ _
      | exact cellplanelaw22_awake.mono _
      | exact probe_Hot.mono _ _ _ _
      | exact LeO.none _
      | refine LeO.ite ?_ ?_
      | refine LeO.bind ?_ (fun _ => ?_)
    · intro y0 y1 y2 y3 y4
      unfold cellplanelaw22_ProbeBetween.l0
      repeat' first
      | (with_reducible exact ih0 _ _ _ _)
      | (with_reducible exact ih1 _ _ _ _ _)
      | (with_reducible exact ih2 _ _ _ _ _)
      | (with_reducible exact cellplanelaw22_awake.mono _)
      | (with_reducible exact probe_Hot.mono _ _ _ _)
      | (with_reducible exact LeO.refl _)
      | (with_reducible exact LeO.none _)
      | (with_reducible refine LeO.ite ?_ ?_)
      | (with_reducible refine LeO.bind ?_ (fun _ => ?_))
      | exact ih0 _ _ _ _
      | exact ih1 _ _ _ _ _
      | exact ih2 _ _ _ _ _
      | exact cellplanelaw22_awake.mono _
      | exact probe_Hot.mono _ _ _ _
      | exact LeO.none _
      | refine LeO.ite ?_ ?_
      | refine LeO.bind ?_ (fun _ => ?_)
theorem cellplanelaw22_ProbeBetween.mono : ∀ a0 a1 a2 k, LeO (cellplanelaw22_ProbeBetween.f k a0 a1 a2) (cellplanelaw22_ProbeBetween.f (k + 1) a0 a1 a2) := by
  intro a0 a1 a2 k
  obtain ⟨ih0, ih1, ih2⟩ := cellplanelaw22_ProbeBetween.mono_l k
  unfold cellplanelaw22_ProbeBetween.f
  repeat' first
      | (with_reducible exact ih0 _ _ _ _)
      | (with_reducible exact ih1 _ _ _ _ _)
      | (with_reducible exact ih2 _ _ _ _ _)
      | (with_reducible exact cellplanelaw22_awake.mono _)
      | (with_reducible exact probe_Hot.mono _ _ _ _)
      | (with_reducible exact LeO.refl _)
      | (with_reducible exact LeO.none _)
      | (with_reducible refine LeO.ite ?_ ?_)
      | (with_reducible refine LeO.bind ?_ (fun _ => ?_))
      | exact ih0 _ _ _ _
      | exact ih1 _ _ _ _ _
      | exact ih2 _ _ _ _ _
      | exact cellplanelaw22_awake.mono _
      | exact probe_Hot.mono _ _ _ _
      | exact LeO.none _
      | refine LeO.ite ?_ ?_
      | refine LeO.bind ?_ (fun _ => ?_)
set_option maxHeartbeats 8000000 in
set_option maxRecDepth 100000 in
theorem cellplanelaw22_ProbeBetween.calls (k : Nat) (a0 : Int) (a1 : Int) (A2 : Option Addr) (c2 : Nat) (l2 : List Int) (r : Bool) (w : World) (hr2 : Kd.C (Kd.int .i64) w A2 l2.length l2) (hc2 : l2.length ≤ c2) (h : cellplanelaw22_ProbeBetween.f k a0 a1 l2 = some r) :
    Calls Try.prog 7 #[.int .i64 a0, .int .i64 a1, .slice A2 l2.length c2] w fun e w' => e = .returned (.bool r) ∧ Below w.heap.size w w' := by
  have HR2 := Aside0.mk hr2
  have HC2 := Aside0.mk hc2
  clear hr2 hc2
  have HB := Aside0.mk (Below.refl w.heap.size w)
  have H : (if (l2.length : Int) > 500 then (cellplanelaw22_ProbeBetween.j0 k a0 a1 l2 true) else (cellplanelaw22_ProbeBetween.j0 k a0 a1 l2 (decide (a1 > a0)))) = some r := h
  clear h
  have HC4 := Aside0.mk H
  clear H
  go_enter Try.func7, Try.ntmps7
  go_upto_region 1 with (fail)
  go_cut [18] (fun v18 wc => ∃ (kq : Nat) (x18_3 : Bool), v18 = .bool x18_3 ∧ Aside0 (cellplanelaw22_ProbeBetween.j0 kq a0 a1 l2 x18_3 = some r) ∧ Aside0 (kq ≤ k) ∧ Aside0 (Below w.heap.size w wc))
  case first =>
    have H := HC4.out
    clear HC4
    by_cases c5 : (l2.length : Int) > 500
    · rw [if_pos c5] at H
      have c5b0 : decide (500 < (l2.length : Int)) = true := decide_eq_true c5
      have c5b1 : decide (500 < l2.length) = true := decide_eq_true (by omega)
      clear c5
      (first | rw [c5b0] | (simp only [i64_w, i32_w]; rw [c5b0]) | skip)
      have H' := Aside0.mk H
      clear H
      go_wp2
      go_meet
      case rel => exact ⟨_, (true), (by first | rfl | (simp; done) | (simp [*]; done)), H', ⟨by first | omega | exact Nat.le_refl _⟩, ⟨by repeat (first | (with_reducible first | exact HB.out | apply below_alloc | apply pw_below_drewN | apply below_drew1) | exact HB.out)⟩⟩
    · rw [if_neg c5] at H
      have c5b0 : decide (500 < (l2.length : Int)) = false := decide_eq_false c5
      have c5b1 : decide (500 < l2.length) = false := decide_eq_false (by omega)
      clear c5
      (first | rw [c5b0] | (simp only [i64_w, i32_w]; rw [c5b0]) | skip)
      have H' := Aside0.mk H
      clear H
      go_wp2
      go_meet
      case rel => exact ⟨_, (decide (a1 > a0)), (by first | rfl | (simp; done) | (simp [*]; done)), H', ⟨by first | omega | exact Nat.le_refl _⟩, ⟨by repeat (first | (with_reducible first | exact HB.out | apply below_alloc | apply pw_below_drewN | apply below_drew1) | exact HB.out)⟩⟩
  case rest =>
    clear HC4
    try clear c2
    try clear p2
    try clear c5
    try clear c5b0
    try clear c5b1
    obtain ⟨kq, x18_3, rfl, HA, HJ3, HB⟩ := hcut
    cases kq with
    | zero => exact absurd HA.out (by simp [cellplanelaw22_ProbeBetween.j0])
    | succ kj3 =>
      have H := HA.out
      clear HA
      simp only [cellplanelaw22_ProbeBetween.j0] at H
      by_cases c6 : x18_3 = true
      · subst c6
        have H1 : ((cellplanelaw22_awake.f kj3).bind fun t131 => (some t131)) = some r := by rw [if_pos rfl] at H; exact H
        clear H
        have H := H1
        clear H1
        replace H := Option.bind_eq_some_iff.mp H
        obtain ⟨t131, A70, H⟩ := H
        replace H : (some t131) = some r := H
        have A7 := Aside0.mk A70
        clear A70
        obtain rfl := Option.some.inj H
        go_wp2_with (first | ((with_reducible refine gate_callee (f := 9) rfl ?_); refine goesL_ (some 19) rfl rfl Try.func9 (by kernel_rfl) rfl #[] rfl (by (try simp only [List.map_toArray, List.map_cons, List.map_nil]); first | done | rfl | (simp only [List.length_drop, List.length_take]; rfl)) ?_; (with_reducible refine (cellplanelaw22_awake.calls kj3  t131 _ A7.out).mono ?_); rintro e w8 ⟨rfl, hb⟩; refine ⟨_, rfl, ?_⟩; have n0_ := Aside0.mk (below_step (by repeat (first | (with_reducible first | exact HB.out | apply below_alloc | apply pw_below_drewN | apply below_drew1) | exact HB.out)) hb); clear HB; have HB := n0_; clear n0_; (try clear hb); (try clear hb2); (try clear hk); (try clear hi)))
        go_ret
        exact ⟨by first | rfl | (simp [errW_none, errW_some] <;> rfl) | (simp [*, errW_none, errW_some] <;> rfl), by repeat (first | (with_reducible first | exact HB.out | apply below_alloc | apply pw_below_drewN | apply below_drew1) | exact HB.out)⟩
      · replace c6 := Bool.eq_false_iff.mpr c6
        subst c6
        have H1 : ((probe_Hot.f kj3 a0 a1 l2).bind fun bt132 => ((cellplanelaw22_awake.f kj3).bind fun t136 => (if t136 = true then (if bt132.2 = 0 then (cellplanelaw22_ProbeBetween.j1 kj3 a0 a1 l2 bt132.1 ((bt132.1.length : Int) != (l2.length : Int))) else (cellplanelaw22_ProbeBetween.j1 kj3 a0 a1 l2 bt132.1 true)) else (cellplanelaw22_ProbeBetween.j1 kj3 a0 a1 l2 bt132.1 true)))) = some r := by rw [if_neg (show ¬ (false = true) by decide)] at H; exact H
        clear H
        have H := H1
        clear H1
        replace H := Option.bind_eq_some_iff.mp H
        obtain ⟨⟨t132, t133⟩, A90, H⟩ := H
        replace H : ((cellplanelaw22_awake.f kj3).bind fun t136 => (if t136 = true then (if t133 = 0 then (cellplanelaw22_ProbeBetween.j1 kj3 a0 a1 l2 t132 ((t132.length : Int) != (l2.length : Int))) else (cellplanelaw22_ProbeBetween.j1 kj3 a0 a1 l2 t132 true)) else (cellplanelaw22_ProbeBetween.j1 kj3 a0 a1 l2 t132 true))) = some r := H
        have A9 := Aside0.mk A90
        clear A90
        have HC10 := Aside0.mk H
        clear H
        go_upto_region 4 with (first | ((with_reducible refine gate_callee (f := 15) rfl ?_); refine goesL_ (some 24) rfl rfl Try.func15 (by kernel_rfl) rfl #[.int .i64 a0, .int .i64 a1, .slice A2 l2.length c2] rfl (by (try simp only [List.map_toArray, List.map_cons, List.map_nil]); first | done | rfl | (simp only [List.length_drop, List.length_take]; rfl)) ?_; (with_reducible refine (probe_Hot.calls kj3 a0 a1 _ _ l2 t132 t133 _ ?side1 ?side2 A9.out).mono ?_); (case side1 => repeat (first | exact (Kd.C_below HR2.out HB.out) | (with_reducible refine Kd.C_alloc ?_ _) | (with_reducible refine Kd.C_drewN ?_ _) | (with_reducible refine Kd.C_drew ?_))); (case side2 => exact HC2.out); rintro e w11 ⟨v134, rfl, ho0, hb⟩; refine ⟨_, rfl, ?_⟩; have n0_ := Aside0.mk (Kd.R_lower ho0 (below_size (by repeat (first | (with_reducible first | exact HB.out | apply below_alloc | apply pw_below_drewN | apply below_drew1) | exact HB.out)))); have n1_ := Aside0.mk (below_step (by repeat (first | (with_reducible first | exact HB.out | apply below_alloc | apply pw_below_drewN | apply below_drew1) | exact HB.out)) hb); clear HB; have HO135 := n0_; have HB := n1_; clear n0_ n1_; (try clear hb); (try clear hb2); (try clear hk); (try clear hi); (try clear ho0)))
        (try simp only [Act.put, List.setIfInBounds_toArray, List.set_cons_zero, List.set_cons_succ])
        go_cut [39] (fun v39 wc => ∃ (kq : Nat) (x39_9 : Bool), v39 = .bool x39_9 ∧ Aside0 (cellplanelaw22_ProbeBetween.j1 kq a0 a1 l2 t132 x39_9 = some r) ∧ Aside0 (kq ≤ kj3) ∧ Aside0 (Kd.R Kd.bool 4 wc w.heap.size (fun _ => True) v134 t132) ∧ Aside0 (Below w.heap.size w wc))
        case first =>
          have H := HC10.out
          clear HC10
          replace H := Option.bind_eq_some_iff.mp H
          obtain ⟨t136, A120, H⟩ := H
          replace H : (if t136 = true then (if t133 = 0 then (cellplanelaw22_ProbeBetween.j1 kj3 a0 a1 l2 t132 ((t132.length : Int) != (l2.length : Int))) else (cellplanelaw22_ProbeBetween.j1 kj3 a0 a1 l2 t132 true)) else (cellplanelaw22_ProbeBetween.j1 kj3 a0 a1 l2 t132 true)) = some r := H
          have A12 := Aside0.mk A120
          clear A120
          by_cases c13 : t136 = true
          · subst c13
            have H1 : (if t133 = 0 then (cellplanelaw22_ProbeBetween.j1 kj3 a0 a1 l2 t132 ((t132.length : Int) != (l2.length : Int))) else (cellplanelaw22_ProbeBetween.j1 kj3 a0 a1 l2 t132 true)) = some r := by rw [if_pos rfl] at H; exact H
            clear H
            have H := H1
            clear H1
            by_cases c14 : t133 = 0
            · rw [if_pos c14] at H
              have c14b0 : (t133 == 0) = true := beq_iff_eq.mpr c14
              have c14b1 : (t133 != 0) = false := bne_eq_false_iff_eq.mpr c14
              clear c14
              (first | rw [c14b0] | (simp only [i64_w, i32_w]; rw [c14b0]) | skip)
              have H' := Aside0.mk H
              clear H
              go_wp2_with (first | ((with_reducible refine gate_callee (f := 9) rfl ?_); refine goesL_ (some 27) rfl rfl Try.func9 (by kernel_rfl) rfl #[] rfl (by (try simp only [List.map_toArray, List.map_cons, List.map_nil]); first | done | rfl | (simp only [List.length_drop, List.length_take]; rfl)) ?_; (with_reducible refine (cellplanelaw22_awake.calls kj3  true _ A12.out).mono ?_); rintro e w15 ⟨rfl, hb⟩; refine ⟨_, rfl, ?_⟩; have n0_ := Aside0.mk (Kd.R_below (by (with_reducible repeat (first | apply Kd.R_alloc | apply Kd.R_drewN | apply Kd.R_drew)); exact HO135.out) hb); have n1_ := Aside0.mk (below_step (by repeat (first | (with_reducible first | exact HB.out | apply below_alloc | apply pw_below_drewN | apply below_drew1) | exact HB.out)) hb); clear HO135; clear HB; have HO135 := n0_; have HB := n1_; clear n0_ n1_; (try clear hb); (try clear hb2); (try clear hk); (try clear hi); obtain ⟨Ao16, co16, eo16⟩ := Kd.R_slice HO135.out; subst eo16))
              go_meet
              case rel => exact ⟨_, (((t132.length : Int) != (l2.length : Int))), (by first | rfl | (simp; done) | (simp [*]; done)), H', ⟨by have := HJ3.out; first | omega | exact Nat.le_refl _⟩, ⟨by (with_reducible repeat (first | apply Kd.R_alloc | apply Kd.R_drewN | apply Kd.R_drew)); exact HO135.out⟩, ⟨by repeat (first | (with_reducible first | exact HB.out | apply below_alloc | apply pw_below_drewN | apply below_drew1) | exact HB.out)⟩⟩
            · rw [if_neg c14] at H
              have c14b0 : (t133 == 0) = false := beq_eq_false_iff_ne.mpr c14
              have c14b1 : (t133 != 0) = true := bne_iff_ne.mpr c14
              (first | rw [c14b0] | (simp only [i64_w, i32_w]; rw [c14b0]) | skip)
              have H' := Aside0.mk H
              clear H
              go_wp2_with (first | ((with_reducible refine gate_callee (f := 9) rfl ?_); refine goesL_ (some 27) rfl rfl Try.func9 (by kernel_rfl) rfl #[] rfl (by (try simp only [List.map_toArray, List.map_cons, List.map_nil]); first | done | rfl | (simp only [List.length_drop, List.length_take]; rfl)) ?_; (with_reducible refine (cellplanelaw22_awake.calls kj3  true _ A12.out).mono ?_); rintro e w17 ⟨rfl, hb⟩; refine ⟨_, rfl, ?_⟩; have n0_ := Aside0.mk (Kd.R_below (by (with_reducible repeat (first | apply Kd.R_alloc | apply Kd.R_drewN | apply Kd.R_drew)); exact HO135.out) hb); have n1_ := Aside0.mk (below_step (by repeat (first | (with_reducible first | exact HB.out | apply below_alloc | apply pw_below_drewN | apply below_drew1) | exact HB.out)) hb); clear HO135; clear HB; have HO135 := n0_; have HB := n1_; clear n0_ n1_; (try clear hb); (try clear hb2); (try clear hk); (try clear hi)))
              go_meet
              case rel => exact ⟨_, (true), (by first | rfl | (simp; done) | (simp [*]; done)), H', ⟨by have := HJ3.out; first | omega | exact Nat.le_refl _⟩, ⟨by (with_reducible repeat (first | apply Kd.R_alloc | apply Kd.R_drewN | apply Kd.R_drew)); exact HO135.out⟩, ⟨by repeat (first | (with_reducible first | exact HB.out | apply below_alloc | apply pw_below_drewN | apply below_drew1) | exact HB.out)⟩⟩
          · replace c13 := Bool.eq_false_iff.mpr c13
            subst c13
            have H1 : (cellplanelaw22_ProbeBetween.j1 kj3 a0 a1 l2 t132 true) = some r := by rw [if_neg (show ¬ (false = true) by decide)] at H; exact H
            clear H
            have H := H1
            clear H1
            have H' := Aside0.mk H
            clear H
            go_wp2_with (first | ((with_reducible refine gate_callee (f := 9) rfl ?_); refine goesL_ (some 27) rfl rfl Try.func9 (by kernel_rfl) rfl #[] rfl (by (try simp only [List.map_toArray, List.map_cons, List.map_nil]); first | done | rfl | (simp only [List.length_drop, List.length_take]; rfl)) ?_; (with_reducible refine (cellplanelaw22_awake.calls kj3  false _ A12.out).mono ?_); rintro e w18 ⟨rfl, hb⟩; refine ⟨_, rfl, ?_⟩; have n0_ := Aside0.mk (Kd.R_below (by (with_reducible repeat (first | apply Kd.R_alloc | apply Kd.R_drewN | apply Kd.R_drew)); exact HO135.out) hb); have n1_ := Aside0.mk (below_step (by repeat (first | (with_reducible first | exact HB.out | apply below_alloc | apply pw_below_drewN | apply below_drew1) | exact HB.out)) hb); clear HO135; clear HB; have HO135 := n0_; have HB := n1_; clear n0_ n1_; (try clear hb); (try clear hb2); (try clear hk); (try clear hi)))
            go_meet
            case rel => exact ⟨_, (true), (by first | rfl | (simp; done) | (simp [*]; done)), H', ⟨by have := HJ3.out; first | omega | exact Nat.le_refl _⟩, ⟨by (with_reducible repeat (first | apply Kd.R_alloc | apply Kd.R_drewN | apply Kd.R_drew)); exact HO135.out⟩, ⟨by repeat (first | (with_reducible first | exact HB.out | apply below_alloc | apply pw_below_drewN | apply below_drew1) | exact HB.out)⟩⟩
        case rest =>
          clear HC10
          try clear c1
          try clear c2
          try clear p2
          try clear c5
          try clear c5b0
          try clear c5b1
          try clear c6
          try clear c7
          try clear c9
          try clear c13
          try clear c14
          try clear c14b0
          try clear c14b1
          try clear c15
          try clear p2
          obtain ⟨kq, x39_9, rfl, HA, HJ9, HO_7, HB⟩ := hcut
          cases kq with
          | zero => exact absurd HA.out (by simp [cellplanelaw22_ProbeBetween.j1])
          | succ kj9 =>
            have H := HA.out
            clear HA
            simp only [cellplanelaw22_ProbeBetween.j1] at H
            by_cases c19 : x39_9 = true
            · subst c19
              have H1 : (some false) = some r := by rw [if_pos rfl] at H; exact H
              clear H
              have H := H1
              clear H1
              obtain rfl := Option.some.inj H
              go_wp2
              all_goals go_ret
              all_goals exact ⟨by first | rfl | (simp [errW_none, errW_some] <;> rfl) | (simp [*, errW_none, errW_some] <;> rfl), by repeat (first | (with_reducible first | exact HB.out | apply below_alloc | apply pw_below_drewN | apply below_drew1) | exact HB.out)⟩
            · replace c19 := Bool.eq_false_iff.mpr c19
              subst c19
              have H1 : (cellplanelaw22_ProbeBetween.l0 kj9 a0 a1 l2 t132 0) = some r := by rw [if_neg (show ¬ (false = true) by decide)] at H; exact H
              clear H
              have H := H1
              clear H1
              have H' := Aside0.mk H
              clear H
              go_wp2
              go_loopg [9] kj9 (fun kq v9 w' => ∃ (x9_3 : Int), v9 = .int .i64 x9_3 ∧ Aside0 (cellplanelaw22_ProbeBetween.l0 kq a0 a1 l2 t132 x9_3 = some r) ∧ Aside0 (kq ≤ kj9) ∧ Aside0 (Kd.R Kd.bool 4 w' w.heap.size (fun _ => True) v134 t132) ∧ Aside0 (Below w.heap.size w w'))
              case atStart => exact ⟨(0), (by first | rfl | (simp; done) | (simp [*]; done)), H', ⟨Nat.le_refl _⟩, ⟨by (with_reducible repeat (first | apply Kd.R_alloc | apply Kd.R_drewN | apply Kd.R_drew)); exact HO_7.out⟩, ⟨by repeat (first | (with_reducible first | exact HB.out | apply below_alloc | apply pw_below_drewN | apply below_drew1) | exact HB.out)⟩⟩
              case round =>
                clear H'
                try clear c1
                try clear c2
                try clear p2
                try clear c5
                try clear c5b0
                try clear c5b1
                try clear c6
                try clear c7
                try clear c9
                try clear c13
                try clear c14
                try clear c14b0
                try clear c14b1
                try clear c15
                try clear c19
                try clear p2
                obtain ⟨x9_3, rfl, HA, HK3, HO_7, HB⟩ := hrel
                cases gk with
                | zero => exact absurd HA.out (by simp [cellplanelaw22_ProbeBetween.l0])
                | succ k3 =>
                  have H := HA.out
                  clear HA
                  simp only [cellplanelaw22_ProbeBetween.l0] at H
                  by_cases c20 : x9_3 < (l2.length : Int)
                  · rw [if_pos c20] at H
                    have c20b0 : decide (x9_3 < (l2.length : Int)) = true := decide_eq_true c20
                    clear c20
                    by_cases c21 : x9_3 > 0
                    · rw [if_pos c21] at H
                      have c21b0 : decide (0 < x9_3) = true := decide_eq_true c21
                      clear c21
                      obtain ⟨ji22, hji22⟩ : ∃ j_ : Int, (wrap64 (x9_3 - 1)) = j_ := ⟨_, rfl⟩
                      replace H : (if 0 ≤ (ji22) then (if (ji22) < (t132.length : Int) then (if 0 ≤ x9_3 then (if (rd l2 x9_3) > a0 then (if x9_3 < (t132.length : Int) then (if rdOf false t132 x9_3 = true then (if (rd l2 x9_3) < a1 then (some false) else (if (rd l2 x9_3) ≤ a0 then (if (rd l2 x9_3) ≥ a1 then (if ((rdOf false t132 x9_3) != (rdOf false t132 (ji22))) = true then (some false) else (cellplanelaw22_ProbeBetween.l0 k3 a0 a1 l2 t132 (wrap64 (x9_3 + 1)))) else (cellplanelaw22_ProbeBetween.l0 k3 a0 a1 l2 t132 (wrap64 (x9_3 + 1)))) else (cellplanelaw22_ProbeBetween.l0 k3 a0 a1 l2 t132 (wrap64 (x9_3 + 1))))) else (some false)) else (none)) else (if (rd l2 x9_3) < a1 then (if x9_3 < (t132.length : Int) then (if rdOf false t132 x9_3 = true then (some false) else (if (rd l2 x9_3) ≤ a0 then (if (rd l2 x9_3) ≥ a1 then (if ((rdOf false t132 x9_3) != (rdOf false t132 (ji22))) = true then (some false) else (cellplanelaw22_ProbeBetween.l0 k3 a0 a1 l2 t132 (wrap64 (x9_3 + 1)))) else (cellplanelaw22_ProbeBetween.l0 k3 a0 a1 l2 t132 (wrap64 (x9_3 + 1)))) else (cellplanelaw22_ProbeBetween.l0 k3 a0 a1 l2 t132 (wrap64 (x9_3 + 1))))) else (none)) else (if (rd l2 x9_3) ≤ a0 then (if (rd l2 x9_3) ≥ a1 then (if x9_3 < (t132.length : Int) then (if ((rdOf false t132 x9_3) != (rdOf false t132 (ji22))) = true then (some false) else (cellplanelaw22_ProbeBetween.l0 k3 a0 a1 l2 t132 (wrap64 (x9_3 + 1)))) else (none)) else (cellplanelaw22_ProbeBetween.l0 k3 a0 a1 l2 t132 (wrap64 (x9_3 + 1)))) else (cellplanelaw22_ProbeBetween.l0 k3 a0 a1 l2 t132 (wrap64 (x9_3 + 1)))))) else (none)) else (none)) else (none)) = some r := by first | (rw [hji22] at H; exact H) | (simp only [hji22] at H ⊢; exact H)
                      have hji22w : (IntKind.i64.wrap (x9_3 - 1)) = ji22 := (i64_w _).trans hji22
                      by_cases c23 : 0 ≤ (ji22)
                      · rw [if_pos c23] at H
                        have c23b0 : decide (0 ≤ (ji22)) = true := decide_eq_true c23
                        clear c23
                        by_cases c24 : (ji22) < (t132.length : Int)
                        · rw [if_pos c24] at H
                          have c24b0 : decide ((ji22) < (t132.length : Int)) = true := decide_eq_true c24
                          clear c24
                          by_cases c25 : 0 ≤ x9_3
                          · rw [if_pos c25] at H
                            have c25b0 : decide (0 ≤ x9_3) = true := decide_eq_true c25
                            clear c25
                            by_cases c26 : (rd l2 x9_3) > a0
                            · rw [if_pos c26] at H
                              have c26b0 : decide (a0 < (rd l2 x9_3)) = true := decide_eq_true c26
                              clear c26
                              by_cases c27 : x9_3 < (t132.length : Int)
                              · rw [if_pos c27] at H
                                have c27b0 : decide (x9_3 < (t132.length : Int)) = true := decide_eq_true c27
                                clear c27
                                obtain ⟨bq28, hbq28⟩ : ∃ b_ : Bool, b_ = (rdOf false t132 x9_3) := ⟨_, rfl⟩
                                replace H : (if bq28 = true then (if (rd l2 x9_3) < a1 then (some false) else (if (rd l2 x9_3) ≤ a0 then (if (rd l2 x9_3) ≥ a1 then (if ((bq28) != (rdOf false t132 (ji22))) = true then (some false) else (cellplanelaw22_ProbeBetween.l0 k3 a0 a1 l2 t132 (wrap64 (x9_3 + 1)))) else (cellplanelaw22_ProbeBetween.l0 k3 a0 a1 l2 t132 (wrap64 (x9_3 + 1)))) else (cellplanelaw22_ProbeBetween.l0 k3 a0 a1 l2 t132 (wrap64 (x9_3 + 1))))) else (some false)) = some r := by rw [← hbq28] at H; exact H
                                have Nbq28 := Aside0.mk hbq28
                                clear hbq28
                                by_cases c29 : bq28 = true
                                · subst c29
                                  have H1 : (if (rd l2 x9_3) < a1 then (some false) else (if (rd l2 x9_3) ≤ a0 then (if (rd l2 x9_3) ≥ a1 then (if ((true) != (rdOf false t132 (ji22))) = true then (some false) else (cellplanelaw22_ProbeBetween.l0 k3 a0 a1 l2 t132 (wrap64 (x9_3 + 1)))) else (cellplanelaw22_ProbeBetween.l0 k3 a0 a1 l2 t132 (wrap64 (x9_3 + 1)))) else (cellplanelaw22_ProbeBetween.l0 k3 a0 a1 l2 t132 (wrap64 (x9_3 + 1))))) = some r := by rw [if_pos rfl] at H; exact H
                                  clear H
                                  have H := H1
                                  clear H1
                                  by_cases c30 : (rd l2 x9_3) < a1
                                  · rw [if_pos c30] at H
                                    have c30b0 : decide ((rd l2 x9_3) < a1) = true := decide_eq_true c30
                                    clear c30
                                    obtain rfl := Option.some.inj H
                                    obtain ⟨Ao31, co31, eo31⟩ := Kd.R_slice HO_7.out
                                    subst eo31
                                    have p137 : 0 ≤ ((ji22) : Int) := of_decide_eq_true (by first | (with_reducible assumption) | assumption)
                                    have q137 : (ji22) < (t132.length : Int) := of_decide_eq_true (by first | (with_reducible assumption) | assumption)
                                    obtain ⟨ad137, e137, hx137_0⟩ := Kd.at_bool (Kd.R_reads' HO_7.out).2.2 (ji22) p137 q137
                                    (try rw [← Nbq28.out] at hx137_0)
                                    cases e137
                                    replace p137 := eq_true p137
                                    replace q137 := eq_true q137
                                    have p138 : 0 ≤ (x9_3 : Int) := of_decide_eq_true (by first | (with_reducible assumption) | assumption)
                                    have q138 : x9_3 < (l2.length : Int) := of_decide_eq_true (by first | (with_reducible assumption) | assumption)
                                    obtain ⟨ad138, e138, hx138_0⟩ := Kd.at_int HR2.out x9_3 p138 q138
                                    cases e138
                                    replace hx138_0 := (HB.out.cell (World.block_lt_of_cell? w _ hx138_0)).trans hx138_0
                                    replace p138 := eq_true p138
                                    replace q138 := eq_true q138
                                    have p139 : 0 ≤ (x9_3 : Int) := of_decide_eq_true (by first | (with_reducible assumption) | assumption)
                                    have q139 : x9_3 < (t132.length : Int) := of_decide_eq_true (by first | (with_reducible assumption) | assumption)
                                    obtain ⟨ad139, e139, hx139_0⟩ := Kd.at_bool (Kd.R_reads' HO_7.out).2.2 x9_3 p139 q139
                                    (try rw [← Nbq28.out] at hx139_0)
                                    obtain rfl : ad137 = ad139 := (by injection e139)
                                    replace p139 := eq_true p139
                                    replace q139 := eq_true q139
                                    have p140 : 0 ≤ (x9_3 : Int) := of_decide_eq_true (by first | (with_reducible assumption) | assumption)
                                    have q140 : x9_3 < (l2.length : Int) := of_decide_eq_true (by first | (with_reducible assumption) | assumption)
                                    obtain ⟨ad140, e140, hx140_0⟩ := Kd.at_int HR2.out x9_3 p140 q140
                                    obtain rfl : ad138 = ad140 := (by injection e140)
                                    replace hx140_0 := (HB.out.cell (World.block_lt_of_cell? w _ hx140_0)).trans hx140_0
                                    replace p140 := eq_true p140
                                    replace q140 := eq_true q140
                                    have p141 : 0 ≤ (x9_3 : Int) := of_decide_eq_true (by first | (with_reducible assumption) | assumption)
                                    have q141 : x9_3 < (t132.length : Int) := of_decide_eq_true (by first | (with_reducible assumption) | assumption)
                                    obtain ⟨ad141, e141, hx141_0⟩ := Kd.at_bool (Kd.R_reads' HO_7.out).2.2 x9_3 p141 q141
                                    (try rw [← Nbq28.out] at hx141_0)
                                    obtain rfl : ad137 = ad141 := (by injection e141)
                                    replace p141 := eq_true p141
                                    replace q141 := eq_true q141
                                    go_wp2
                                    all_goals go_ret
                                    all_goals exact ⟨by first | rfl | (simp [errW_none, errW_some] <;> rfl) | (simp only [← hji22]; first | rfl | (simp [errW_none, errW_some] <;> rfl)) | (simp [*, errW_none, errW_some] <;> rfl), by repeat (first | (with_reducible first | exact HB.out | apply below_alloc | apply pw_below_drewN | apply below_drew1) | exact HB.out)⟩
                                  · rw [if_neg c30] at H
                                    have c30b0 : decide ((rd l2 x9_3) < a1) = false := decide_eq_false c30
                                    clear c30
                                    by_cases c32 : (rd l2 x9_3) ≤ a0
                                    · rw [if_pos c32] at H
                                      have c32b0 : decide ((rd l2 x9_3) ≤ a0) = true := decide_eq_true c32
                                      clear c32
                                      by_cases c33 : (rd l2 x9_3) ≥ a1
                                      · rw [if_pos c33] at H
                                        have c33b0 : decide (a1 ≤ (rd l2 x9_3)) = true := decide_eq_true c33
                                        clear c33
                                        by_cases c34 : ((true) != (rdOf false t132 (ji22))) = true
                                        · rw [if_pos c34] at H
                                          have c34b0 : ((true) != (rdOf false t132 (ji22))) = true := c34
                                          (try (have c34b1 : decide ((true) = (rdOf false t132 (ji22))) = false := by first | (simp; done) | (simp at c34; done) | simpa using c34))
                                          (try (have c34b2 : ((true) == (rdOf false t132 (ji22))) = false := by first | (simp; done) | (simp at c34; done) | simpa using c34))
                                          (try (have c34b3 : ¬ ((true) = (rdOf false t132 (ji22))) := by first | (simp; done) | (simp at c34; done) | simpa using c34))
                                          clear c34
                                          obtain rfl := Option.some.inj H
                                          obtain ⟨Ao35, co35, eo35⟩ := Kd.R_slice HO_7.out
                                          subst eo35
                                          have p137 : 0 ≤ ((ji22) : Int) := of_decide_eq_true (by first | (with_reducible assumption) | assumption)
                                          have q137 : (ji22) < (t132.length : Int) := of_decide_eq_true (by first | (with_reducible assumption) | assumption)
                                          obtain ⟨ad137, e137, hx137_0⟩ := Kd.at_bool (Kd.R_reads' HO_7.out).2.2 (ji22) p137 q137
                                          (try rw [← Nbq28.out] at hx137_0)
                                          cases e137
                                          replace p137 := eq_true p137
                                          replace q137 := eq_true q137
                                          have p138 : 0 ≤ (x9_3 : Int) := of_decide_eq_true (by first | (with_reducible assumption) | assumption)
                                          have q138 : x9_3 < (l2.length : Int) := of_decide_eq_true (by first | (with_reducible assumption) | assumption)
                                          obtain ⟨ad138, e138, hx138_0⟩ := Kd.at_int HR2.out x9_3 p138 q138
                                          cases e138
                                          replace hx138_0 := (HB.out.cell (World.block_lt_of_cell? w _ hx138_0)).trans hx138_0
                                          replace p138 := eq_true p138
                                          replace q138 := eq_true q138
                                          have p139 : 0 ≤ (x9_3 : Int) := of_decide_eq_true (by first | (with_reducible assumption) | assumption)
                                          have q139 : x9_3 < (t132.length : Int) := of_decide_eq_true (by first | (with_reducible assumption) | assumption)
                                          obtain ⟨ad139, e139, hx139_0⟩ := Kd.at_bool (Kd.R_reads' HO_7.out).2.2 x9_3 p139 q139
                                          (try rw [← Nbq28.out] at hx139_0)
                                          obtain rfl : ad137 = ad139 := (by injection e139)
                                          replace p139 := eq_true p139
                                          replace q139 := eq_true q139
                                          have p140 : 0 ≤ (x9_3 : Int) := of_decide_eq_true (by first | (with_reducible assumption) | assumption)
                                          have q140 : x9_3 < (l2.length : Int) := of_decide_eq_true (by first | (with_reducible assumption) | assumption)
                                          obtain ⟨ad140, e140, hx140_0⟩ := Kd.at_int HR2.out x9_3 p140 q140
                                          obtain rfl : ad138 = ad140 := (by injection e140)
                                          replace hx140_0 := (HB.out.cell (World.block_lt_of_cell? w _ hx140_0)).trans hx140_0
                                          replace p140 := eq_true p140
                                          replace q140 := eq_true q140
                                          have p142 : 0 ≤ (x9_3 : Int) := of_decide_eq_true (by first | (with_reducible assumption) | assumption)
                                          have q142 : x9_3 < (l2.length : Int) := of_decide_eq_true (by first | (with_reducible assumption) | assumption)
                                          obtain ⟨ad142, e142, hx142_0⟩ := Kd.at_int HR2.out x9_3 p142 q142
                                          obtain rfl : ad138 = ad142 := (by injection e142)
                                          replace hx142_0 := (HB.out.cell (World.block_lt_of_cell? w _ hx142_0)).trans hx142_0
                                          replace p142 := eq_true p142
                                          replace q142 := eq_true q142
                                          have p143 : 0 ≤ (x9_3 : Int) := of_decide_eq_true (by first | (with_reducible assumption) | assumption)
                                          have q143 : x9_3 < (l2.length : Int) := of_decide_eq_true (by first | (with_reducible assumption) | assumption)
                                          obtain ⟨ad143, e143, hx143_0⟩ := Kd.at_int HR2.out x9_3 p143 q143
                                          obtain rfl : ad138 = ad143 := (by injection e143)
                                          replace hx143_0 := (HB.out.cell (World.block_lt_of_cell? w _ hx143_0)).trans hx143_0
                                          replace p143 := eq_true p143
                                          replace q143 := eq_true q143
                                          have p144 : 0 ≤ (x9_3 : Int) := of_decide_eq_true (by first | (with_reducible assumption) | assumption)
                                          have q144 : x9_3 < (t132.length : Int) := of_decide_eq_true (by first | (with_reducible assumption) | assumption)
                                          obtain ⟨ad144, e144, hx144_0⟩ := Kd.at_bool (Kd.R_reads' HO_7.out).2.2 x9_3 p144 q144
                                          (try rw [← Nbq28.out] at hx144_0)
                                          obtain rfl : ad137 = ad144 := (by injection e144)
                                          replace p144 := eq_true p144
                                          replace q144 := eq_true q144
                                          go_wp2
                                          all_goals go_ret
                                          all_goals exact ⟨by first | rfl | (simp [errW_none, errW_some] <;> rfl) | (simp only [← hji22]; first | rfl | (simp [errW_none, errW_some] <;> rfl)) | (simp [*, errW_none, errW_some] <;> rfl), by repeat (first | (with_reducible first | exact HB.out | apply below_alloc | apply pw_below_drewN | apply below_drew1) | exact HB.out)⟩
                                        · rw [if_neg c34] at H
                                          have c34b0 : ((true) != (rdOf false t132 (ji22))) = false := by first | (simp; done) | (simp at c34; done) | simpa using c34
                                          (try (have c34b1 : decide ((true) = (rdOf false t132 (ji22))) = true := by first | (simp; done) | (simp at c34; done) | simpa using c34))
                                          (try (have c34b2 : ((true) == (rdOf false t132 (ji22))) = true := by first | (simp; done) | (simp at c34; done) | simpa using c34))
                                          clear c34
                                          have H' := Aside0.mk H
                                          clear H
                                          obtain ⟨Ao36, co36, eo36⟩ := Kd.R_slice HO_7.out
                                          subst eo36
                                          have p137 : 0 ≤ ((ji22) : Int) := of_decide_eq_true (by first | (with_reducible assumption) | assumption)
                                          have q137 : (ji22) < (t132.length : Int) := of_decide_eq_true (by first | (with_reducible assumption) | assumption)
                                          obtain ⟨ad137, e137, hx137_0⟩ := Kd.at_bool (Kd.R_reads' HO_7.out).2.2 (ji22) p137 q137
                                          (try rw [← Nbq28.out] at hx137_0)
                                          cases e137
                                          replace p137 := eq_true p137
                                          replace q137 := eq_true q137
                                          have p138 : 0 ≤ (x9_3 : Int) := of_decide_eq_true (by first | (with_reducible assumption) | assumption)
                                          have q138 : x9_3 < (l2.length : Int) := of_decide_eq_true (by first | (with_reducible assumption) | assumption)
                                          obtain ⟨ad138, e138, hx138_0⟩ := Kd.at_int HR2.out x9_3 p138 q138
                                          cases e138
                                          replace hx138_0 := (HB.out.cell (World.block_lt_of_cell? w _ hx138_0)).trans hx138_0
                                          replace p138 := eq_true p138
                                          replace q138 := eq_true q138
                                          have p139 : 0 ≤ (x9_3 : Int) := of_decide_eq_true (by first | (with_reducible assumption) | assumption)
                                          have q139 : x9_3 < (t132.length : Int) := of_decide_eq_true (by first | (with_reducible assumption) | assumption)
                                          obtain ⟨ad139, e139, hx139_0⟩ := Kd.at_bool (Kd.R_reads' HO_7.out).2.2 x9_3 p139 q139
                                          (try rw [← Nbq28.out] at hx139_0)
                                          obtain rfl : ad137 = ad139 := (by injection e139)
                                          replace p139 := eq_true p139
                                          replace q139 := eq_true q139
                                          have p140 : 0 ≤ (x9_3 : Int) := of_decide_eq_true (by first | (with_reducible assumption) | assumption)
                                          have q140 : x9_3 < (l2.length : Int) := of_decide_eq_true (by first | (with_reducible assumption) | assumption)
                                          obtain ⟨ad140, e140, hx140_0⟩ := Kd.at_int HR2.out x9_3 p140 q140
                                          obtain rfl : ad138 = ad140 := (by injection e140)
                                          replace hx140_0 := (HB.out.cell (World.block_lt_of_cell? w _ hx140_0)).trans hx140_0
                                          replace p140 := eq_true p140
                                          replace q140 := eq_true q140
                                          have p142 : 0 ≤ (x9_3 : Int) := of_decide_eq_true (by first | (with_reducible assumption) | assumption)
                                          have q142 : x9_3 < (l2.length : Int) := of_decide_eq_true (by first | (with_reducible assumption) | assumption)
                                          obtain ⟨ad142, e142, hx142_0⟩ := Kd.at_int HR2.out x9_3 p142 q142
                                          obtain rfl : ad138 = ad142 := (by injection e142)
                                          replace hx142_0 := (HB.out.cell (World.block_lt_of_cell? w _ hx142_0)).trans hx142_0
                                          replace p142 := eq_true p142
                                          replace q142 := eq_true q142
                                          have p143 : 0 ≤ (x9_3 : Int) := of_decide_eq_true (by first | (with_reducible assumption) | assumption)
                                          have q143 : x9_3 < (l2.length : Int) := of_decide_eq_true (by first | (with_reducible assumption) | assumption)
                                          obtain ⟨ad143, e143, hx143_0⟩ := Kd.at_int HR2.out x9_3 p143 q143
                                          obtain rfl : ad138 = ad143 := (by injection e143)
                                          replace hx143_0 := (HB.out.cell (World.block_lt_of_cell? w _ hx143_0)).trans hx143_0
                                          replace p143 := eq_true p143
                                          replace q143 := eq_true q143
                                          have p144 : 0 ≤ (x9_3 : Int) := of_decide_eq_true (by first | (with_reducible assumption) | assumption)
                                          have q144 : x9_3 < (t132.length : Int) := of_decide_eq_true (by first | (with_reducible assumption) | assumption)
                                          obtain ⟨ad144, e144, hx144_0⟩ := Kd.at_bool (Kd.R_reads' HO_7.out).2.2 x9_3 p144 q144
                                          (try rw [← Nbq28.out] at hx144_0)
                                          obtain rfl : ad137 = ad144 := (by injection e144)
                                          replace p144 := eq_true p144
                                          replace q144 := eq_true q144
                                          go_wp2
                                          go_roundg k3
                                          case measure => have := HJ3.out; have := HJ9.out; have := HK3.out; omega
                                          case rel => exact ⟨(wrap64 (x9_3 + 1)), (by first | rfl | (simp; done) | (simp [*]; done)), H', ⟨by have := HJ3.out; have := HJ9.out; have := HK3.out; omega⟩, ⟨by (with_reducible repeat (first | apply Kd.R_alloc | apply Kd.R_drewN | apply Kd.R_drew)); exact HO_7.out⟩, ⟨by repeat (first | (with_reducible first | exact HB.out | apply below_alloc | apply pw_below_drewN | apply below_drew1) | exact HB.out)⟩⟩
                                      · rw [if_neg c33] at H
                                        have c33b0 : decide (a1 ≤ (rd l2 x9_3)) = false := decide_eq_false c33
                                        clear c33
                                        have H' := Aside0.mk H
                                        clear H
                                        obtain ⟨Ao37, co37, eo37⟩ := Kd.R_slice HO_7.out
                                        subst eo37
                                        have p137 : 0 ≤ ((ji22) : Int) := of_decide_eq_true (by first | (with_reducible assumption) | assumption)
                                        have q137 : (ji22) < (t132.length : Int) := of_decide_eq_true (by first | (with_reducible assumption) | assumption)
                                        obtain ⟨ad137, e137, hx137_0⟩ := Kd.at_bool (Kd.R_reads' HO_7.out).2.2 (ji22) p137 q137
                                        (try rw [← Nbq28.out] at hx137_0)
                                        cases e137
                                        replace p137 := eq_true p137
                                        replace q137 := eq_true q137
                                        have p138 : 0 ≤ (x9_3 : Int) := of_decide_eq_true (by first | (with_reducible assumption) | assumption)
                                        have q138 : x9_3 < (l2.length : Int) := of_decide_eq_true (by first | (with_reducible assumption) | assumption)
                                        obtain ⟨ad138, e138, hx138_0⟩ := Kd.at_int HR2.out x9_3 p138 q138
                                        cases e138
                                        replace hx138_0 := (HB.out.cell (World.block_lt_of_cell? w _ hx138_0)).trans hx138_0
                                        replace p138 := eq_true p138
                                        replace q138 := eq_true q138
                                        have p139 : 0 ≤ (x9_3 : Int) := of_decide_eq_true (by first | (with_reducible assumption) | assumption)
                                        have q139 : x9_3 < (t132.length : Int) := of_decide_eq_true (by first | (with_reducible assumption) | assumption)
                                        obtain ⟨ad139, e139, hx139_0⟩ := Kd.at_bool (Kd.R_reads' HO_7.out).2.2 x9_3 p139 q139
                                        (try rw [← Nbq28.out] at hx139_0)
                                        obtain rfl : ad137 = ad139 := (by injection e139)
                                        replace p139 := eq_true p139
                                        replace q139 := eq_true q139
                                        have p140 : 0 ≤ (x9_3 : Int) := of_decide_eq_true (by first | (with_reducible assumption) | assumption)
                                        have q140 : x9_3 < (l2.length : Int) := of_decide_eq_true (by first | (with_reducible assumption) | assumption)
                                        obtain ⟨ad140, e140, hx140_0⟩ := Kd.at_int HR2.out x9_3 p140 q140
                                        obtain rfl : ad138 = ad140 := (by injection e140)
                                        replace hx140_0 := (HB.out.cell (World.block_lt_of_cell? w _ hx140_0)).trans hx140_0
                                        replace p140 := eq_true p140
                                        replace q140 := eq_true q140
                                        have p142 : 0 ≤ (x9_3 : Int) := of_decide_eq_true (by first | (with_reducible assumption) | assumption)
                                        have q142 : x9_3 < (l2.length : Int) := of_decide_eq_true (by first | (with_reducible assumption) | assumption)
                                        obtain ⟨ad142, e142, hx142_0⟩ := Kd.at_int HR2.out x9_3 p142 q142
                                        obtain rfl : ad138 = ad142 := (by injection e142)
                                        replace hx142_0 := (HB.out.cell (World.block_lt_of_cell? w _ hx142_0)).trans hx142_0
                                        replace p142 := eq_true p142
                                        replace q142 := eq_true q142
                                        have p143 : 0 ≤ (x9_3 : Int) := of_decide_eq_true (by first | (with_reducible assumption) | assumption)
                                        have q143 : x9_3 < (l2.length : Int) := of_decide_eq_true (by first | (with_reducible assumption) | assumption)
                                        obtain ⟨ad143, e143, hx143_0⟩ := Kd.at_int HR2.out x9_3 p143 q143
                                        obtain rfl : ad138 = ad143 := (by injection e143)
                                        replace hx143_0 := (HB.out.cell (World.block_lt_of_cell? w _ hx143_0)).trans hx143_0
                                        replace p143 := eq_true p143
                                        replace q143 := eq_true q143
                                        go_wp2
                                        go_roundg k3
                                        case measure => have := HJ3.out; have := HJ9.out; have := HK3.out; omega
                                        case rel => exact ⟨(wrap64 (x9_3 + 1)), (by first | rfl | (simp; done) | (simp [*]; done)), H', ⟨by have := HJ3.out; have := HJ9.out; have := HK3.out; omega⟩, ⟨by (with_reducible repeat (first | apply Kd.R_alloc | apply Kd.R_drewN | apply Kd.R_drew)); exact HO_7.out⟩, ⟨by repeat (first | (with_reducible first | exact HB.out | apply below_alloc | apply pw_below_drewN | apply below_drew1) | exact HB.out)⟩⟩
                                    · rw [if_neg c32] at H
                                      have c32b0 : decide ((rd l2 x9_3) ≤ a0) = false := decide_eq_false c32
                                      clear c32
                                      have H' := Aside0.mk H
                                      clear H
                                      obtain ⟨Ao38, co38, eo38⟩ := Kd.R_slice HO_7.out
                                      subst eo38
                                      have p137 : 0 ≤ ((ji22) : Int) := of_decide_eq_true (by first | (with_reducible assumption) | assumption)
                                      have q137 : (ji22) < (t132.length : Int) := of_decide_eq_true (by first | (with_reducible assumption) | assumption)
                                      obtain ⟨ad137, e137, hx137_0⟩ := Kd.at_bool (Kd.R_reads' HO_7.out).2.2 (ji22) p137 q137
                                      (try rw [← Nbq28.out] at hx137_0)
                                      cases e137
                                      replace p137 := eq_true p137
                                      replace q137 := eq_true q137
                                      have p138 : 0 ≤ (x9_3 : Int) := of_decide_eq_true (by first | (with_reducible assumption) | assumption)
                                      have q138 : x9_3 < (l2.length : Int) := of_decide_eq_true (by first | (with_reducible assumption) | assumption)
                                      obtain ⟨ad138, e138, hx138_0⟩ := Kd.at_int HR2.out x9_3 p138 q138
                                      cases e138
                                      replace hx138_0 := (HB.out.cell (World.block_lt_of_cell? w _ hx138_0)).trans hx138_0
                                      replace p138 := eq_true p138
                                      replace q138 := eq_true q138
                                      have p139 : 0 ≤ (x9_3 : Int) := of_decide_eq_true (by first | (with_reducible assumption) | assumption)
                                      have q139 : x9_3 < (t132.length : Int) := of_decide_eq_true (by first | (with_reducible assumption) | assumption)
                                      obtain ⟨ad139, e139, hx139_0⟩ := Kd.at_bool (Kd.R_reads' HO_7.out).2.2 x9_3 p139 q139
                                      (try rw [← Nbq28.out] at hx139_0)
                                      obtain rfl : ad137 = ad139 := (by injection e139)
                                      replace p139 := eq_true p139
                                      replace q139 := eq_true q139
                                      have p140 : 0 ≤ (x9_3 : Int) := of_decide_eq_true (by first | (with_reducible assumption) | assumption)
                                      have q140 : x9_3 < (l2.length : Int) := of_decide_eq_true (by first | (with_reducible assumption) | assumption)
                                      obtain ⟨ad140, e140, hx140_0⟩ := Kd.at_int HR2.out x9_3 p140 q140
                                      obtain rfl : ad138 = ad140 := (by injection e140)
                                      replace hx140_0 := (HB.out.cell (World.block_lt_of_cell? w _ hx140_0)).trans hx140_0
                                      replace p140 := eq_true p140
                                      replace q140 := eq_true q140
                                      have p142 : 0 ≤ (x9_3 : Int) := of_decide_eq_true (by first | (with_reducible assumption) | assumption)
                                      have q142 : x9_3 < (l2.length : Int) := of_decide_eq_true (by first | (with_reducible assumption) | assumption)
                                      obtain ⟨ad142, e142, hx142_0⟩ := Kd.at_int HR2.out x9_3 p142 q142
                                      obtain rfl : ad138 = ad142 := (by injection e142)
                                      replace hx142_0 := (HB.out.cell (World.block_lt_of_cell? w _ hx142_0)).trans hx142_0
                                      replace p142 := eq_true p142
                                      replace q142 := eq_true q142
                                      go_wp2
                                      go_roundg k3
                                      case measure => have := HJ3.out; have := HJ9.out; have := HK3.out; omega
                                      case rel => exact ⟨(wrap64 (x9_3 + 1)), (by first | rfl | (simp; done) | (simp [*]; done)), H', ⟨by have := HJ3.out; have := HJ9.out; have := HK3.out; omega⟩, ⟨by (with_reducible repeat (first | apply Kd.R_alloc | apply Kd.R_drewN | apply Kd.R_drew)); exact HO_7.out⟩, ⟨by repeat (first | (with_reducible first | exact HB.out | apply below_alloc | apply pw_below_drewN | apply below_drew1) | exact HB.out)⟩⟩
                                · replace c29 := Bool.eq_false_iff.mpr c29
                                  subst c29
                                  have H1 : (some false) = some r := by rw [if_neg (show ¬ (false = true) by decide)] at H; exact H
                                  clear H
                                  have H := H1
                                  clear H1
                                  obtain rfl := Option.some.inj H
                                  obtain ⟨Ao39, co39, eo39⟩ := Kd.R_slice HO_7.out
                                  subst eo39
                                  have p137 : 0 ≤ ((ji22) : Int) := of_decide_eq_true (by first | (with_reducible assumption) | assumption)
                                  have q137 : (ji22) < (t132.length : Int) := of_decide_eq_true (by first | (with_reducible assumption) | assumption)
                                  obtain ⟨ad137, e137, hx137_0⟩ := Kd.at_bool (Kd.R_reads' HO_7.out).2.2 (ji22) p137 q137
                                  (try rw [← Nbq28.out] at hx137_0)
                                  cases e137
                                  replace p137 := eq_true p137
                                  replace q137 := eq_true q137
                                  have p138 : 0 ≤ (x9_3 : Int) := of_decide_eq_true (by first | (with_reducible assumption) | assumption)
                                  have q138 : x9_3 < (l2.length : Int) := of_decide_eq_true (by first | (with_reducible assumption) | assumption)
                                  obtain ⟨ad138, e138, hx138_0⟩ := Kd.at_int HR2.out x9_3 p138 q138
                                  cases e138
                                  replace hx138_0 := (HB.out.cell (World.block_lt_of_cell? w _ hx138_0)).trans hx138_0
                                  replace p138 := eq_true p138
                                  replace q138 := eq_true q138
                                  have p139 : 0 ≤ (x9_3 : Int) := of_decide_eq_true (by first | (with_reducible assumption) | assumption)
                                  have q139 : x9_3 < (t132.length : Int) := of_decide_eq_true (by first | (with_reducible assumption) | assumption)
                                  obtain ⟨ad139, e139, hx139_0⟩ := Kd.at_bool (Kd.R_reads' HO_7.out).2.2 x9_3 p139 q139
                                  (try rw [← Nbq28.out] at hx139_0)
                                  obtain rfl : ad137 = ad139 := (by injection e139)
                                  replace p139 := eq_true p139
                                  replace q139 := eq_true q139
                                  go_wp2
                                  all_goals go_ret
                                  all_goals exact ⟨by first | rfl | (simp [errW_none, errW_some] <;> rfl) | (simp only [← hji22]; first | rfl | (simp [errW_none, errW_some] <;> rfl)) | (simp [*, errW_none, errW_some] <;> rfl), by repeat (first | (with_reducible first | exact HB.out | apply below_alloc | apply pw_below_drewN | apply below_drew1) | exact HB.out)⟩
                              · rw [if_neg c27] at H
                                exact absurd H (by simp)
                            · rw [if_neg c26] at H
                              have c26b0 : decide (a0 < (rd l2 x9_3)) = false := decide_eq_false c26
                              clear c26
                              by_cases c40 : (rd l2 x9_3) < a1
                              · rw [if_pos c40] at H
                                have c40b0 : decide ((rd l2 x9_3) < a1) = true := decide_eq_true c40
                                clear c40
                                by_cases c41 : x9_3 < (t132.length : Int)
                                · rw [if_pos c41] at H
                                  have c41b0 : decide (x9_3 < (t132.length : Int)) = true := decide_eq_true c41
                                  clear c41
                                  obtain ⟨bq42, hbq42⟩ : ∃ b_ : Bool, b_ = (rdOf false t132 x9_3) := ⟨_, rfl⟩
                                  replace H : (if bq42 = true then (some false) else (if (rd l2 x9_3) ≤ a0 then (if (rd l2 x9_3) ≥ a1 then (if ((bq42) != (rdOf false t132 (ji22))) = true then (some false) else (cellplanelaw22_ProbeBetween.l0 k3 a0 a1 l2 t132 (wrap64 (x9_3 + 1)))) else (cellplanelaw22_ProbeBetween.l0 k3 a0 a1 l2 t132 (wrap64 (x9_3 + 1)))) else (cellplanelaw22_ProbeBetween.l0 k3 a0 a1 l2 t132 (wrap64 (x9_3 + 1))))) = some r := by rw [← hbq42] at H; exact H
                                  have Nbq42 := Aside0.mk hbq42
                                  clear hbq42
                                  by_cases c43 : bq42 = true
                                  · subst c43
                                    have H1 : (some false) = some r := by rw [if_pos rfl] at H; exact H
                                    clear H
                                    have H := H1
                                    clear H1
                                    obtain rfl := Option.some.inj H
                                    obtain ⟨Ao44, co44, eo44⟩ := Kd.R_slice HO_7.out
                                    subst eo44
                                    have p137 : 0 ≤ ((ji22) : Int) := of_decide_eq_true (by first | (with_reducible assumption) | assumption)
                                    have q137 : (ji22) < (t132.length : Int) := of_decide_eq_true (by first | (with_reducible assumption) | assumption)
                                    obtain ⟨ad137, e137, hx137_0⟩ := Kd.at_bool (Kd.R_reads' HO_7.out).2.2 (ji22) p137 q137
                                    (try rw [← Nbq42.out] at hx137_0)
                                    cases e137
                                    replace p137 := eq_true p137
                                    replace q137 := eq_true q137
                                    have p138 : 0 ≤ (x9_3 : Int) := of_decide_eq_true (by first | (with_reducible assumption) | assumption)
                                    have q138 : x9_3 < (l2.length : Int) := of_decide_eq_true (by first | (with_reducible assumption) | assumption)
                                    obtain ⟨ad138, e138, hx138_0⟩ := Kd.at_int HR2.out x9_3 p138 q138
                                    cases e138
                                    replace hx138_0 := (HB.out.cell (World.block_lt_of_cell? w _ hx138_0)).trans hx138_0
                                    replace p138 := eq_true p138
                                    replace q138 := eq_true q138
                                    have p145 : 0 ≤ (x9_3 : Int) := of_decide_eq_true (by first | (with_reducible assumption) | assumption)
                                    have q145 : x9_3 < (l2.length : Int) := of_decide_eq_true (by first | (with_reducible assumption) | assumption)
                                    obtain ⟨ad145, e145, hx145_0⟩ := Kd.at_int HR2.out x9_3 p145 q145
                                    obtain rfl : ad138 = ad145 := (by injection e145)
                                    replace hx145_0 := (HB.out.cell (World.block_lt_of_cell? w _ hx145_0)).trans hx145_0
                                    replace p145 := eq_true p145
                                    replace q145 := eq_true q145
                                    have p146 : 0 ≤ (x9_3 : Int) := of_decide_eq_true (by first | (with_reducible assumption) | assumption)
                                    have q146 : x9_3 < (t132.length : Int) := of_decide_eq_true (by first | (with_reducible assumption) | assumption)
                                    obtain ⟨ad146, e146, hx146_0⟩ := Kd.at_bool (Kd.R_reads' HO_7.out).2.2 x9_3 p146 q146
                                    (try rw [← Nbq42.out] at hx146_0)
                                    obtain rfl : ad137 = ad146 := (by injection e146)
                                    replace p146 := eq_true p146
                                    replace q146 := eq_true q146
                                    go_wp2
                                    all_goals go_ret
                                    all_goals exact ⟨by first | rfl | (simp [errW_none, errW_some] <;> rfl) | (simp only [← hji22]; first | rfl | (simp [errW_none, errW_some] <;> rfl)) | (simp [*, errW_none, errW_some] <;> rfl), by repeat (first | (with_reducible first | exact HB.out | apply below_alloc | apply pw_below_drewN | apply below_drew1) | exact HB.out)⟩
                                  · replace c43 := Bool.eq_false_iff.mpr c43
                                    subst c43
                                    have H1 : (if (rd l2 x9_3) ≤ a0 then (if (rd l2 x9_3) ≥ a1 then (if ((false) != (rdOf false t132 (ji22))) = true then (some false) else (cellplanelaw22_ProbeBetween.l0 k3 a0 a1 l2 t132 (wrap64 (x9_3 + 1)))) else (cellplanelaw22_ProbeBetween.l0 k3 a0 a1 l2 t132 (wrap64 (x9_3 + 1)))) else (cellplanelaw22_ProbeBetween.l0 k3 a0 a1 l2 t132 (wrap64 (x9_3 + 1)))) = some r := by rw [if_neg (show ¬ (false = true) by decide)] at H; exact H
                                    clear H
                                    have H := H1
                                    clear H1
                                    by_cases c45 : (rd l2 x9_3) ≤ a0
                                    · rw [if_pos c45] at H
                                      have c45b0 : decide ((rd l2 x9_3) ≤ a0) = true := decide_eq_true c45
                                      clear c45
                                      by_cases c46 : (rd l2 x9_3) ≥ a1
                                      · rw [if_pos c46] at H
                                        have c46b0 : decide (a1 ≤ (rd l2 x9_3)) = true := decide_eq_true c46
                                        clear c46
                                        by_cases c47 : ((false) != (rdOf false t132 (ji22))) = true
                                        · rw [if_pos c47] at H
                                          have c47b0 : ((false) != (rdOf false t132 (ji22))) = true := c47
                                          (try (have c47b1 : decide ((false) = (rdOf false t132 (ji22))) = false := by first | (simp; done) | (simp at c47; done) | simpa using c47))
                                          (try (have c47b2 : ((false) == (rdOf false t132 (ji22))) = false := by first | (simp; done) | (simp at c47; done) | simpa using c47))
                                          (try (have c47b3 : ¬ ((false) = (rdOf false t132 (ji22))) := by first | (simp; done) | (simp at c47; done) | simpa using c47))
                                          clear c47
                                          obtain rfl := Option.some.inj H
                                          obtain ⟨Ao48, co48, eo48⟩ := Kd.R_slice HO_7.out
                                          subst eo48
                                          have p137 : 0 ≤ ((ji22) : Int) := of_decide_eq_true (by first | (with_reducible assumption) | assumption)
                                          have q137 : (ji22) < (t132.length : Int) := of_decide_eq_true (by first | (with_reducible assumption) | assumption)
                                          obtain ⟨ad137, e137, hx137_0⟩ := Kd.at_bool (Kd.R_reads' HO_7.out).2.2 (ji22) p137 q137
                                          (try rw [← Nbq42.out] at hx137_0)
                                          cases e137
                                          replace p137 := eq_true p137
                                          replace q137 := eq_true q137
                                          have p138 : 0 ≤ (x9_3 : Int) := of_decide_eq_true (by first | (with_reducible assumption) | assumption)
                                          have q138 : x9_3 < (l2.length : Int) := of_decide_eq_true (by first | (with_reducible assumption) | assumption)
                                          obtain ⟨ad138, e138, hx138_0⟩ := Kd.at_int HR2.out x9_3 p138 q138
                                          cases e138
                                          replace hx138_0 := (HB.out.cell (World.block_lt_of_cell? w _ hx138_0)).trans hx138_0
                                          replace p138 := eq_true p138
                                          replace q138 := eq_true q138
                                          have p145 : 0 ≤ (x9_3 : Int) := of_decide_eq_true (by first | (with_reducible assumption) | assumption)
                                          have q145 : x9_3 < (l2.length : Int) := of_decide_eq_true (by first | (with_reducible assumption) | assumption)
                                          obtain ⟨ad145, e145, hx145_0⟩ := Kd.at_int HR2.out x9_3 p145 q145
                                          obtain rfl : ad138 = ad145 := (by injection e145)
                                          replace hx145_0 := (HB.out.cell (World.block_lt_of_cell? w _ hx145_0)).trans hx145_0
                                          replace p145 := eq_true p145
                                          replace q145 := eq_true q145
                                          have p146 : 0 ≤ (x9_3 : Int) := of_decide_eq_true (by first | (with_reducible assumption) | assumption)
                                          have q146 : x9_3 < (t132.length : Int) := of_decide_eq_true (by first | (with_reducible assumption) | assumption)
                                          obtain ⟨ad146, e146, hx146_0⟩ := Kd.at_bool (Kd.R_reads' HO_7.out).2.2 x9_3 p146 q146
                                          (try rw [← Nbq42.out] at hx146_0)
                                          obtain rfl : ad137 = ad146 := (by injection e146)
                                          replace p146 := eq_true p146
                                          replace q146 := eq_true q146
                                          have p147 : 0 ≤ (x9_3 : Int) := of_decide_eq_true (by first | (with_reducible assumption) | assumption)
                                          have q147 : x9_3 < (l2.length : Int) := of_decide_eq_true (by first | (with_reducible assumption) | assumption)
                                          obtain ⟨ad147, e147, hx147_0⟩ := Kd.at_int HR2.out x9_3 p147 q147
                                          obtain rfl : ad138 = ad147 := (by injection e147)
                                          replace hx147_0 := (HB.out.cell (World.block_lt_of_cell? w _ hx147_0)).trans hx147_0
                                          replace p147 := eq_true p147
                                          replace q147 := eq_true q147
                                          have p148 : 0 ≤ (x9_3 : Int) := of_decide_eq_true (by first | (with_reducible assumption) | assumption)
                                          have q148 : x9_3 < (l2.length : Int) := of_decide_eq_true (by first | (with_reducible assumption) | assumption)
                                          obtain ⟨ad148, e148, hx148_0⟩ := Kd.at_int HR2.out x9_3 p148 q148
                                          obtain rfl : ad138 = ad148 := (by injection e148)
                                          replace hx148_0 := (HB.out.cell (World.block_lt_of_cell? w _ hx148_0)).trans hx148_0
                                          replace p148 := eq_true p148
                                          replace q148 := eq_true q148
                                          have p149 : 0 ≤ (x9_3 : Int) := of_decide_eq_true (by first | (with_reducible assumption) | assumption)
                                          have q149 : x9_3 < (t132.length : Int) := of_decide_eq_true (by first | (with_reducible assumption) | assumption)
                                          obtain ⟨ad149, e149, hx149_0⟩ := Kd.at_bool (Kd.R_reads' HO_7.out).2.2 x9_3 p149 q149
                                          (try rw [← Nbq42.out] at hx149_0)
                                          obtain rfl : ad137 = ad149 := (by injection e149)
                                          replace p149 := eq_true p149
                                          replace q149 := eq_true q149
                                          go_wp2
                                          all_goals go_ret
                                          all_goals exact ⟨by first | rfl | (simp [errW_none, errW_some] <;> rfl) | (simp only [← hji22]; first | rfl | (simp [errW_none, errW_some] <;> rfl)) | (simp [*, errW_none, errW_some] <;> rfl), by repeat (first | (with_reducible first | exact HB.out | apply below_alloc | apply pw_below_drewN | apply below_drew1) | exact HB.out)⟩
                                        · rw [if_neg c47] at H
                                          have c47b0 : ((false) != (rdOf false t132 (ji22))) = false := by first | (simp; done) | (simp at c47; done) | simpa using c47
                                          (try (have c47b1 : decide ((false) = (rdOf false t132 (ji22))) = true := by first | (simp; done) | (simp at c47; done) | simpa using c47))
                                          (try (have c47b2 : ((false) == (rdOf false t132 (ji22))) = true := by first | (simp; done) | (simp at c47; done) | simpa using c47))
                                          clear c47
                                          have H' := Aside0.mk H
                                          clear H
                                          obtain ⟨Ao49, co49, eo49⟩ := Kd.R_slice HO_7.out
                                          subst eo49
                                          have p137 : 0 ≤ ((ji22) : Int) := of_decide_eq_true (by first | (with_reducible assumption) | assumption)
                                          have q137 : (ji22) < (t132.length : Int) := of_decide_eq_true (by first | (with_reducible assumption) | assumption)
                                          obtain ⟨ad137, e137, hx137_0⟩ := Kd.at_bool (Kd.R_reads' HO_7.out).2.2 (ji22) p137 q137
                                          (try rw [← Nbq42.out] at hx137_0)
                                          cases e137
                                          replace p137 := eq_true p137
                                          replace q137 := eq_true q137
                                          have p138 : 0 ≤ (x9_3 : Int) := of_decide_eq_true (by first | (with_reducible assumption) | assumption)
                                          have q138 : x9_3 < (l2.length : Int) := of_decide_eq_true (by first | (with_reducible assumption) | assumption)
                                          obtain ⟨ad138, e138, hx138_0⟩ := Kd.at_int HR2.out x9_3 p138 q138
                                          cases e138
                                          replace hx138_0 := (HB.out.cell (World.block_lt_of_cell? w _ hx138_0)).trans hx138_0
                                          replace p138 := eq_true p138
                                          replace q138 := eq_true q138
                                          have p145 : 0 ≤ (x9_3 : Int) := of_decide_eq_true (by first | (with_reducible assumption) | assumption)
                                          have q145 : x9_3 < (l2.length : Int) := of_decide_eq_true (by first | (with_reducible assumption) | assumption)
                                          obtain ⟨ad145, e145, hx145_0⟩ := Kd.at_int HR2.out x9_3 p145 q145
                                          obtain rfl : ad138 = ad145 := (by injection e145)
                                          replace hx145_0 := (HB.out.cell (World.block_lt_of_cell? w _ hx145_0)).trans hx145_0
                                          replace p145 := eq_true p145
                                          replace q145 := eq_true q145
                                          have p146 : 0 ≤ (x9_3 : Int) := of_decide_eq_true (by first | (with_reducible assumption) | assumption)
                                          have q146 : x9_3 < (t132.length : Int) := of_decide_eq_true (by first | (with_reducible assumption) | assumption)
                                          obtain ⟨ad146, e146, hx146_0⟩ := Kd.at_bool (Kd.R_reads' HO_7.out).2.2 x9_3 p146 q146
                                          (try rw [← Nbq42.out] at hx146_0)
                                          obtain rfl : ad137 = ad146 := (by injection e146)
                                          replace p146 := eq_true p146
                                          replace q146 := eq_true q146
                                          have p147 : 0 ≤ (x9_3 : Int) := of_decide_eq_true (by first | (with_reducible assumption) | assumption)
                                          have q147 : x9_3 < (l2.length : Int) := of_decide_eq_true (by first | (with_reducible assumption) | assumption)
                                          obtain ⟨ad147, e147, hx147_0⟩ := Kd.at_int HR2.out x9_3 p147 q147
                                          obtain rfl : ad138 = ad147 := (by injection e147)
                                          replace hx147_0 := (HB.out.cell (World.block_lt_of_cell? w _ hx147_0)).trans hx147_0
                                          replace p147 := eq_true p147
                                          replace q147 := eq_true q147
                                          have p148 : 0 ≤ (x9_3 : Int) := of_decide_eq_true (by first | (with_reducible assumption) | assumption)
                                          have q148 : x9_3 < (l2.length : Int) := of_decide_eq_true (by first | (with_reducible assumption) | assumption)
                                          obtain ⟨ad148, e148, hx148_0⟩ := Kd.at_int HR2.out x9_3 p148 q148
                                          obtain rfl : ad138 = ad148 := (by injection e148)
                                          replace hx148_0 := (HB.out.cell (World.block_lt_of_cell? w _ hx148_0)).trans hx148_0
                                          replace p148 := eq_true p148
                                          replace q148 := eq_true q148
                                          have p149 : 0 ≤ (x9_3 : Int) := of_decide_eq_true (by first | (with_reducible assumption) | assumption)
                                          have q149 : x9_3 < (t132.length : Int) := of_decide_eq_true (by first | (with_reducible assumption) | assumption)
                                          obtain ⟨ad149, e149, hx149_0⟩ := Kd.at_bool (Kd.R_reads' HO_7.out).2.2 x9_3 p149 q149
                                          (try rw [← Nbq42.out] at hx149_0)
                                          obtain rfl : ad137 = ad149 := (by injection e149)
                                          replace p149 := eq_true p149
                                          replace q149 := eq_true q149
                                          go_wp2
                                          go_roundg k3
                                          case measure => have := HJ3.out; have := HJ9.out; have := HK3.out; omega
                                          case rel => exact ⟨(wrap64 (x9_3 + 1)), (by first | rfl | (simp; done) | (simp [*]; done)), H', ⟨by have := HJ3.out; have := HJ9.out; have := HK3.out; omega⟩, ⟨by (with_reducible repeat (first | apply Kd.R_alloc | apply Kd.R_drewN | apply Kd.R_drew)); exact HO_7.out⟩, ⟨by repeat (first | (with_reducible first | exact HB.out | apply below_alloc | apply pw_below_drewN | apply below_drew1) | exact HB.out)⟩⟩
                                      · rw [if_neg c46] at H
                                        have c46b0 : decide (a1 ≤ (rd l2 x9_3)) = false := decide_eq_false c46
                                        clear c46
                                        have H' := Aside0.mk H
                                        clear H
                                        obtain ⟨Ao50, co50, eo50⟩ := Kd.R_slice HO_7.out
                                        subst eo50
                                        have p137 : 0 ≤ ((ji22) : Int) := of_decide_eq_true (by first | (with_reducible assumption) | assumption)
                                        have q137 : (ji22) < (t132.length : Int) := of_decide_eq_true (by first | (with_reducible assumption) | assumption)
                                        obtain ⟨ad137, e137, hx137_0⟩ := Kd.at_bool (Kd.R_reads' HO_7.out).2.2 (ji22) p137 q137
                                        (try rw [← Nbq42.out] at hx137_0)
                                        cases e137
                                        replace p137 := eq_true p137
                                        replace q137 := eq_true q137
                                        have p138 : 0 ≤ (x9_3 : Int) := of_decide_eq_true (by first | (with_reducible assumption) | assumption)
                                        have q138 : x9_3 < (l2.length : Int) := of_decide_eq_true (by first | (with_reducible assumption) | assumption)
                                        obtain ⟨ad138, e138, hx138_0⟩ := Kd.at_int HR2.out x9_3 p138 q138
                                        cases e138
                                        replace hx138_0 := (HB.out.cell (World.block_lt_of_cell? w _ hx138_0)).trans hx138_0
                                        replace p138 := eq_true p138
                                        replace q138 := eq_true q138
                                        have p145 : 0 ≤ (x9_3 : Int) := of_decide_eq_true (by first | (with_reducible assumption) | assumption)
                                        have q145 : x9_3 < (l2.length : Int) := of_decide_eq_true (by first | (with_reducible assumption) | assumption)
                                        obtain ⟨ad145, e145, hx145_0⟩ := Kd.at_int HR2.out x9_3 p145 q145
                                        obtain rfl : ad138 = ad145 := (by injection e145)
                                        replace hx145_0 := (HB.out.cell (World.block_lt_of_cell? w _ hx145_0)).trans hx145_0
                                        replace p145 := eq_true p145
                                        replace q145 := eq_true q145
                                        have p146 : 0 ≤ (x9_3 : Int) := of_decide_eq_true (by first | (with_reducible assumption) | assumption)
                                        have q146 : x9_3 < (t132.length : Int) := of_decide_eq_true (by first | (with_reducible assumption) | assumption)
                                        obtain ⟨ad146, e146, hx146_0⟩ := Kd.at_bool (Kd.R_reads' HO_7.out).2.2 x9_3 p146 q146
                                        (try rw [← Nbq42.out] at hx146_0)
                                        obtain rfl : ad137 = ad146 := (by injection e146)
                                        replace p146 := eq_true p146
                                        replace q146 := eq_true q146
                                        have p147 : 0 ≤ (x9_3 : Int) := of_decide_eq_true (by first | (with_reducible assumption) | assumption)
                                        have q147 : x9_3 < (l2.length : Int) := of_decide_eq_true (by first | (with_reducible assumption) | assumption)
                                        obtain ⟨ad147, e147, hx147_0⟩ := Kd.at_int HR2.out x9_3 p147 q147
                                        obtain rfl : ad138 = ad147 := (by injection e147)
                                        replace hx147_0 := (HB.out.cell (World.block_lt_of_cell? w _ hx147_0)).trans hx147_0
                                        replace p147 := eq_true p147
                                        replace q147 := eq_true q147
                                        have p148 : 0 ≤ (x9_3 : Int) := of_decide_eq_true (by first | (with_reducible assumption) | assumption)
                                        have q148 : x9_3 < (l2.length : Int) := of_decide_eq_true (by first | (with_reducible assumption) | assumption)
                                        obtain ⟨ad148, e148, hx148_0⟩ := Kd.at_int HR2.out x9_3 p148 q148
                                        obtain rfl : ad138 = ad148 := (by injection e148)
                                        replace hx148_0 := (HB.out.cell (World.block_lt_of_cell? w _ hx148_0)).trans hx148_0
                                        replace p148 := eq_true p148
                                        replace q148 := eq_true q148
                                        go_wp2
                                        go_roundg k3
                                        case measure => have := HJ3.out; have := HJ9.out; have := HK3.out; omega
                                        case rel => exact ⟨(wrap64 (x9_3 + 1)), (by first | rfl | (simp; done) | (simp [*]; done)), H', ⟨by have := HJ3.out; have := HJ9.out; have := HK3.out; omega⟩, ⟨by (with_reducible repeat (first | apply Kd.R_alloc | apply Kd.R_drewN | apply Kd.R_drew)); exact HO_7.out⟩, ⟨by repeat (first | (with_reducible first | exact HB.out | apply below_alloc | apply pw_below_drewN | apply below_drew1) | exact HB.out)⟩⟩
                                    · rw [if_neg c45] at H
                                      have c45b0 : decide ((rd l2 x9_3) ≤ a0) = false := decide_eq_false c45
                                      clear c45
                                      have H' := Aside0.mk H
                                      clear H
                                      obtain ⟨Ao51, co51, eo51⟩ := Kd.R_slice HO_7.out
                                      subst eo51
                                      have p137 : 0 ≤ ((ji22) : Int) := of_decide_eq_true (by first | (with_reducible assumption) | assumption)
                                      have q137 : (ji22) < (t132.length : Int) := of_decide_eq_true (by first | (with_reducible assumption) | assumption)
                                      obtain ⟨ad137, e137, hx137_0⟩ := Kd.at_bool (Kd.R_reads' HO_7.out).2.2 (ji22) p137 q137
                                      (try rw [← Nbq42.out] at hx137_0)
                                      cases e137
                                      replace p137 := eq_true p137
                                      replace q137 := eq_true q137
                                      have p138 : 0 ≤ (x9_3 : Int) := of_decide_eq_true (by first | (with_reducible assumption) | assumption)
                                      have q138 : x9_3 < (l2.length : Int) := of_decide_eq_true (by first | (with_reducible assumption) | assumption)
                                      obtain ⟨ad138, e138, hx138_0⟩ := Kd.at_int HR2.out x9_3 p138 q138
                                      cases e138
                                      replace hx138_0 := (HB.out.cell (World.block_lt_of_cell? w _ hx138_0)).trans hx138_0
                                      replace p138 := eq_true p138
                                      replace q138 := eq_true q138
                                      have p145 : 0 ≤ (x9_3 : Int) := of_decide_eq_true (by first | (with_reducible assumption) | assumption)
                                      have q145 : x9_3 < (l2.length : Int) := of_decide_eq_true (by first | (with_reducible assumption) | assumption)
                                      obtain ⟨ad145, e145, hx145_0⟩ := Kd.at_int HR2.out x9_3 p145 q145
                                      obtain rfl : ad138 = ad145 := (by injection e145)
                                      replace hx145_0 := (HB.out.cell (World.block_lt_of_cell? w _ hx145_0)).trans hx145_0
                                      replace p145 := eq_true p145
                                      replace q145 := eq_true q145
                                      have p146 : 0 ≤ (x9_3 : Int) := of_decide_eq_true (by first | (with_reducible assumption) | assumption)
                                      have q146 : x9_3 < (t132.length : Int) := of_decide_eq_true (by first | (with_reducible assumption) | assumption)
                                      obtain ⟨ad146, e146, hx146_0⟩ := Kd.at_bool (Kd.R_reads' HO_7.out).2.2 x9_3 p146 q146
                                      (try rw [← Nbq42.out] at hx146_0)
                                      obtain rfl : ad137 = ad146 := (by injection e146)
                                      replace p146 := eq_true p146
                                      replace q146 := eq_true q146
                                      have p147 : 0 ≤ (x9_3 : Int) := of_decide_eq_true (by first | (with_reducible assumption) | assumption)
                                      have q147 : x9_3 < (l2.length : Int) := of_decide_eq_true (by first | (with_reducible assumption) | assumption)
                                      obtain ⟨ad147, e147, hx147_0⟩ := Kd.at_int HR2.out x9_3 p147 q147
                                      obtain rfl : ad138 = ad147 := (by injection e147)
                                      replace hx147_0 := (HB.out.cell (World.block_lt_of_cell? w _ hx147_0)).trans hx147_0
                                      replace p147 := eq_true p147
                                      replace q147 := eq_true q147
                                      go_wp2
                                      go_roundg k3
                                      case measure => have := HJ3.out; have := HJ9.out; have := HK3.out; omega
                                      case rel => exact ⟨(wrap64 (x9_3 + 1)), (by first | rfl | (simp; done) | (simp [*]; done)), H', ⟨by have := HJ3.out; have := HJ9.out; have := HK3.out; omega⟩, ⟨by (with_reducible repeat (first | apply Kd.R_alloc | apply Kd.R_drewN | apply Kd.R_drew)); exact HO_7.out⟩, ⟨by repeat (first | (with_reducible first | exact HB.out | apply below_alloc | apply pw_below_drewN | apply below_drew1) | exact HB.out)⟩⟩
                                · rw [if_neg c41] at H
                                  exact absurd H (by simp)
                              · rw [if_neg c40] at H
                                have c40b0 : decide ((rd l2 x9_3) < a1) = false := decide_eq_false c40
                                clear c40
                                by_cases c52 : (rd l2 x9_3) ≤ a0
                                · rw [if_pos c52] at H
                                  have c52b0 : decide ((rd l2 x9_3) ≤ a0) = true := decide_eq_true c52
                                  clear c52
                                  by_cases c53 : (rd l2 x9_3) ≥ a1
                                  · rw [if_pos c53] at H
                                    have c53b0 : decide (a1 ≤ (rd l2 x9_3)) = true := decide_eq_true c53
                                    clear c53
                                    by_cases c54 : x9_3 < (t132.length : Int)
                                    · rw [if_pos c54] at H
                                      have c54b0 : decide (x9_3 < (t132.length : Int)) = true := decide_eq_true c54
                                      clear c54
                                      by_cases c55 : ((rdOf false t132 x9_3) != (rdOf false t132 (ji22))) = true
                                      · rw [if_pos c55] at H
                                        have c55b0 : ((rdOf false t132 x9_3) != (rdOf false t132 (ji22))) = true := c55
                                        (try (have c55b1 : decide ((rdOf false t132 x9_3) = (rdOf false t132 (ji22))) = false := by first | (simp; done) | (simp at c55; done) | simpa using c55))
                                        (try (have c55b2 : ((rdOf false t132 x9_3) == (rdOf false t132 (ji22))) = false := by first | (simp; done) | (simp at c55; done) | simpa using c55))
                                        (try (have c55b3 : ¬ ((rdOf false t132 x9_3) = (rdOf false t132 (ji22))) := by first | (simp; done) | (simp at c55; done) | simpa using c55))
                                        clear c55
                                        obtain rfl := Option.some.inj H
                                        obtain ⟨Ao56, co56, eo56⟩ := Kd.R_slice HO_7.out
                                        subst eo56
                                        have p137 : 0 ≤ ((ji22) : Int) := of_decide_eq_true (by first | (with_reducible assumption) | assumption)
                                        have q137 : (ji22) < (t132.length : Int) := of_decide_eq_true (by first | (with_reducible assumption) | assumption)
                                        obtain ⟨ad137, e137, hx137_0⟩ := Kd.at_bool (Kd.R_reads' HO_7.out).2.2 (ji22) p137 q137
                                        cases e137
                                        replace p137 := eq_true p137
                                        replace q137 := eq_true q137
                                        have p138 : 0 ≤ (x9_3 : Int) := of_decide_eq_true (by first | (with_reducible assumption) | assumption)
                                        have q138 : x9_3 < (l2.length : Int) := of_decide_eq_true (by first | (with_reducible assumption) | assumption)
                                        obtain ⟨ad138, e138, hx138_0⟩ := Kd.at_int HR2.out x9_3 p138 q138
                                        cases e138
                                        replace hx138_0 := (HB.out.cell (World.block_lt_of_cell? w _ hx138_0)).trans hx138_0
                                        replace p138 := eq_true p138
                                        replace q138 := eq_true q138
                                        have p145 : 0 ≤ (x9_3 : Int) := of_decide_eq_true (by first | (with_reducible assumption) | assumption)
                                        have q145 : x9_3 < (l2.length : Int) := of_decide_eq_true (by first | (with_reducible assumption) | assumption)
                                        obtain ⟨ad145, e145, hx145_0⟩ := Kd.at_int HR2.out x9_3 p145 q145
                                        obtain rfl : ad138 = ad145 := (by injection e145)
                                        replace hx145_0 := (HB.out.cell (World.block_lt_of_cell? w _ hx145_0)).trans hx145_0
                                        replace p145 := eq_true p145
                                        replace q145 := eq_true q145
                                        have p150 : 0 ≤ (x9_3 : Int) := of_decide_eq_true (by first | (with_reducible assumption) | assumption)
                                        have q150 : x9_3 < (l2.length : Int) := of_decide_eq_true (by first | (with_reducible assumption) | assumption)
                                        obtain ⟨ad150, e150, hx150_0⟩ := Kd.at_int HR2.out x9_3 p150 q150
                                        obtain rfl : ad138 = ad150 := (by injection e150)
                                        replace hx150_0 := (HB.out.cell (World.block_lt_of_cell? w _ hx150_0)).trans hx150_0
                                        replace p150 := eq_true p150
                                        replace q150 := eq_true q150
                                        have p151 : 0 ≤ (x9_3 : Int) := of_decide_eq_true (by first | (with_reducible assumption) | assumption)
                                        have q151 : x9_3 < (l2.length : Int) := of_decide_eq_true (by first | (with_reducible assumption) | assumption)
                                        obtain ⟨ad151, e151, hx151_0⟩ := Kd.at_int HR2.out x9_3 p151 q151
                                        obtain rfl : ad138 = ad151 := (by injection e151)
                                        replace hx151_0 := (HB.out.cell (World.block_lt_of_cell? w _ hx151_0)).trans hx151_0
                                        replace p151 := eq_true p151
                                        replace q151 := eq_true q151
                                        have p152 : 0 ≤ (x9_3 : Int) := of_decide_eq_true (by first | (with_reducible assumption) | assumption)
                                        have q152 : x9_3 < (t132.length : Int) := of_decide_eq_true (by first | (with_reducible assumption) | assumption)
                                        obtain ⟨ad152, e152, hx152_0⟩ := Kd.at_bool (Kd.R_reads' HO_7.out).2.2 x9_3 p152 q152
                                        obtain rfl : ad137 = ad152 := (by injection e152)
                                        replace p152 := eq_true p152
                                        replace q152 := eq_true q152
                                        go_wp2
                                        all_goals go_ret
                                        all_goals exact ⟨by first | rfl | (simp [errW_none, errW_some] <;> rfl) | (simp only [← hji22]; first | rfl | (simp [errW_none, errW_some] <;> rfl)) | (simp [*, errW_none, errW_some] <;> rfl), by repeat (first | (with_reducible first | exact HB.out | apply below_alloc | apply pw_below_drewN | apply below_drew1) | exact HB.out)⟩
                                      · rw [if_neg c55] at H
                                        have c55b0 : ((rdOf false t132 x9_3) != (rdOf false t132 (ji22))) = false := by first | (simp; done) | (simp at c55; done) | simpa using c55
                                        (try (have c55b1 : decide ((rdOf false t132 x9_3) = (rdOf false t132 (ji22))) = true := by first | (simp; done) | (simp at c55; done) | simpa using c55))
                                        (try (have c55b2 : ((rdOf false t132 x9_3) == (rdOf false t132 (ji22))) = true := by first | (simp; done) | (simp at c55; done) | simpa using c55))
                                        clear c55
                                        have H' := Aside0.mk H
                                        clear H
                                        obtain ⟨Ao57, co57, eo57⟩ := Kd.R_slice HO_7.out
                                        subst eo57
                                        have p137 : 0 ≤ ((ji22) : Int) := of_decide_eq_true (by first | (with_reducible assumption) | assumption)
                                        have q137 : (ji22) < (t132.length : Int) := of_decide_eq_true (by first | (with_reducible assumption) | assumption)
                                        obtain ⟨ad137, e137, hx137_0⟩ := Kd.at_bool (Kd.R_reads' HO_7.out).2.2 (ji22) p137 q137
                                        cases e137
                                        replace p137 := eq_true p137
                                        replace q137 := eq_true q137
                                        have p138 : 0 ≤ (x9_3 : Int) := of_decide_eq_true (by first | (with_reducible assumption) | assumption)
                                        have q138 : x9_3 < (l2.length : Int) := of_decide_eq_true (by first | (with_reducible assumption) | assumption)
                                        obtain ⟨ad138, e138, hx138_0⟩ := Kd.at_int HR2.out x9_3 p138 q138
                                        cases e138
                                        replace hx138_0 := (HB.out.cell (World.block_lt_of_cell? w _ hx138_0)).trans hx138_0
                                        replace p138 := eq_true p138
                                        replace q138 := eq_true q138
                                        have p145 : 0 ≤ (x9_3 : Int) := of_decide_eq_true (by first | (with_reducible assumption) | assumption)
                                        have q145 : x9_3 < (l2.length : Int) := of_decide_eq_true (by first | (with_reducible assumption) | assumption)
                                        obtain ⟨ad145, e145, hx145_0⟩ := Kd.at_int HR2.out x9_3 p145 q145
                                        obtain rfl : ad138 = ad145 := (by injection e145)
                                        replace hx145_0 := (HB.out.cell (World.block_lt_of_cell? w _ hx145_0)).trans hx145_0
                                        replace p145 := eq_true p145
                                        replace q145 := eq_true q145
                                        have p150 : 0 ≤ (x9_3 : Int) := of_decide_eq_true (by first | (with_reducible assumption) | assumption)
                                        have q150 : x9_3 < (l2.length : Int) := of_decide_eq_true (by first | (with_reducible assumption) | assumption)
                                        obtain ⟨ad150, e150, hx150_0⟩ := Kd.at_int HR2.out x9_3 p150 q150
                                        obtain rfl : ad138 = ad150 := (by injection e150)
                                        replace hx150_0 := (HB.out.cell (World.block_lt_of_cell? w _ hx150_0)).trans hx150_0
                                        replace p150 := eq_true p150
                                        replace q150 := eq_true q150
                                        have p151 : 0 ≤ (x9_3 : Int) := of_decide_eq_true (by first | (with_reducible assumption) | assumption)
                                        have q151 : x9_3 < (l2.length : Int) := of_decide_eq_true (by first | (with_reducible assumption) | assumption)
                                        obtain ⟨ad151, e151, hx151_0⟩ := Kd.at_int HR2.out x9_3 p151 q151
                                        obtain rfl : ad138 = ad151 := (by injection e151)
                                        replace hx151_0 := (HB.out.cell (World.block_lt_of_cell? w _ hx151_0)).trans hx151_0
                                        replace p151 := eq_true p151
                                        replace q151 := eq_true q151
                                        have p152 : 0 ≤ (x9_3 : Int) := of_decide_eq_true (by first | (with_reducible assumption) | assumption)
                                        have q152 : x9_3 < (t132.length : Int) := of_decide_eq_true (by first | (with_reducible assumption) | assumption)
                                        obtain ⟨ad152, e152, hx152_0⟩ := Kd.at_bool (Kd.R_reads' HO_7.out).2.2 x9_3 p152 q152
                                        obtain rfl : ad137 = ad152 := (by injection e152)
                                        replace p152 := eq_true p152
                                        replace q152 := eq_true q152
                                        go_wp2
                                        go_roundg k3
                                        case measure => have := HJ3.out; have := HJ9.out; have := HK3.out; omega
                                        case rel => exact ⟨(wrap64 (x9_3 + 1)), (by first | rfl | (simp; done) | (simp [*]; done)), H', ⟨by have := HJ3.out; have := HJ9.out; have := HK3.out; omega⟩, ⟨by (with_reducible repeat (first | apply Kd.R_alloc | apply Kd.R_drewN | apply Kd.R_drew)); exact HO_7.out⟩, ⟨by repeat (first | (with_reducible first | exact HB.out | apply below_alloc | apply pw_below_drewN | apply below_drew1) | exact HB.out)⟩⟩
                                    · rw [if_neg c54] at H
                                      exact absurd H (by simp)
                                  · rw [if_neg c53] at H
                                    have c53b0 : decide (a1 ≤ (rd l2 x9_3)) = false := decide_eq_false c53
                                    clear c53
                                    have H' := Aside0.mk H
                                    clear H
                                    obtain ⟨Ao58, co58, eo58⟩ := Kd.R_slice HO_7.out
                                    subst eo58
                                    have p137 : 0 ≤ ((ji22) : Int) := of_decide_eq_true (by first | (with_reducible assumption) | assumption)
                                    have q137 : (ji22) < (t132.length : Int) := of_decide_eq_true (by first | (with_reducible assumption) | assumption)
                                    obtain ⟨ad137, e137, hx137_0⟩ := Kd.at_bool (Kd.R_reads' HO_7.out).2.2 (ji22) p137 q137
                                    cases e137
                                    replace p137 := eq_true p137
                                    replace q137 := eq_true q137
                                    have p138 : 0 ≤ (x9_3 : Int) := of_decide_eq_true (by first | (with_reducible assumption) | assumption)
                                    have q138 : x9_3 < (l2.length : Int) := of_decide_eq_true (by first | (with_reducible assumption) | assumption)
                                    obtain ⟨ad138, e138, hx138_0⟩ := Kd.at_int HR2.out x9_3 p138 q138
                                    cases e138
                                    replace hx138_0 := (HB.out.cell (World.block_lt_of_cell? w _ hx138_0)).trans hx138_0
                                    replace p138 := eq_true p138
                                    replace q138 := eq_true q138
                                    have p145 : 0 ≤ (x9_3 : Int) := of_decide_eq_true (by first | (with_reducible assumption) | assumption)
                                    have q145 : x9_3 < (l2.length : Int) := of_decide_eq_true (by first | (with_reducible assumption) | assumption)
                                    obtain ⟨ad145, e145, hx145_0⟩ := Kd.at_int HR2.out x9_3 p145 q145
                                    obtain rfl : ad138 = ad145 := (by injection e145)
                                    replace hx145_0 := (HB.out.cell (World.block_lt_of_cell? w _ hx145_0)).trans hx145_0
                                    replace p145 := eq_true p145
                                    replace q145 := eq_true q145
                                    have p150 : 0 ≤ (x9_3 : Int) := of_decide_eq_true (by first | (with_reducible assumption) | assumption)
                                    have q150 : x9_3 < (l2.length : Int) := of_decide_eq_true (by first | (with_reducible assumption) | assumption)
                                    obtain ⟨ad150, e150, hx150_0⟩ := Kd.at_int HR2.out x9_3 p150 q150
                                    obtain rfl : ad138 = ad150 := (by injection e150)
                                    replace hx150_0 := (HB.out.cell (World.block_lt_of_cell? w _ hx150_0)).trans hx150_0
                                    replace p150 := eq_true p150
                                    replace q150 := eq_true q150
                                    have p151 : 0 ≤ (x9_3 : Int) := of_decide_eq_true (by first | (with_reducible assumption) | assumption)
                                    have q151 : x9_3 < (l2.length : Int) := of_decide_eq_true (by first | (with_reducible assumption) | assumption)
                                    obtain ⟨ad151, e151, hx151_0⟩ := Kd.at_int HR2.out x9_3 p151 q151
                                    obtain rfl : ad138 = ad151 := (by injection e151)
                                    replace hx151_0 := (HB.out.cell (World.block_lt_of_cell? w _ hx151_0)).trans hx151_0
                                    replace p151 := eq_true p151
                                    replace q151 := eq_true q151
                                    go_wp2
                                    go_roundg k3
                                    case measure => have := HJ3.out; have := HJ9.out; have := HK3.out; omega
                                    case rel => exact ⟨(wrap64 (x9_3 + 1)), (by first | rfl | (simp; done) | (simp [*]; done)), H', ⟨by have := HJ3.out; have := HJ9.out; have := HK3.out; omega⟩, ⟨by (with_reducible repeat (first | apply Kd.R_alloc | apply Kd.R_drewN | apply Kd.R_drew)); exact HO_7.out⟩, ⟨by repeat (first | (with_reducible first | exact HB.out | apply below_alloc | apply pw_below_drewN | apply below_drew1) | exact HB.out)⟩⟩
                                · rw [if_neg c52] at H
                                  have c52b0 : decide ((rd l2 x9_3) ≤ a0) = false := decide_eq_false c52
                                  clear c52
                                  have H' := Aside0.mk H
                                  clear H
                                  obtain ⟨Ao59, co59, eo59⟩ := Kd.R_slice HO_7.out
                                  subst eo59
                                  have p137 : 0 ≤ ((ji22) : Int) := of_decide_eq_true (by first | (with_reducible assumption) | assumption)
                                  have q137 : (ji22) < (t132.length : Int) := of_decide_eq_true (by first | (with_reducible assumption) | assumption)
                                  obtain ⟨ad137, e137, hx137_0⟩ := Kd.at_bool (Kd.R_reads' HO_7.out).2.2 (ji22) p137 q137
                                  cases e137
                                  replace p137 := eq_true p137
                                  replace q137 := eq_true q137
                                  have p138 : 0 ≤ (x9_3 : Int) := of_decide_eq_true (by first | (with_reducible assumption) | assumption)
                                  have q138 : x9_3 < (l2.length : Int) := of_decide_eq_true (by first | (with_reducible assumption) | assumption)
                                  obtain ⟨ad138, e138, hx138_0⟩ := Kd.at_int HR2.out x9_3 p138 q138
                                  cases e138
                                  replace hx138_0 := (HB.out.cell (World.block_lt_of_cell? w _ hx138_0)).trans hx138_0
                                  replace p138 := eq_true p138
                                  replace q138 := eq_true q138
                                  have p145 : 0 ≤ (x9_3 : Int) := of_decide_eq_true (by first | (with_reducible assumption) | assumption)
                                  have q145 : x9_3 < (l2.length : Int) := of_decide_eq_true (by first | (with_reducible assumption) | assumption)
                                  obtain ⟨ad145, e145, hx145_0⟩ := Kd.at_int HR2.out x9_3 p145 q145
                                  obtain rfl : ad138 = ad145 := (by injection e145)
                                  replace hx145_0 := (HB.out.cell (World.block_lt_of_cell? w _ hx145_0)).trans hx145_0
                                  replace p145 := eq_true p145
                                  replace q145 := eq_true q145
                                  have p150 : 0 ≤ (x9_3 : Int) := of_decide_eq_true (by first | (with_reducible assumption) | assumption)
                                  have q150 : x9_3 < (l2.length : Int) := of_decide_eq_true (by first | (with_reducible assumption) | assumption)
                                  obtain ⟨ad150, e150, hx150_0⟩ := Kd.at_int HR2.out x9_3 p150 q150
                                  obtain rfl : ad138 = ad150 := (by injection e150)
                                  replace hx150_0 := (HB.out.cell (World.block_lt_of_cell? w _ hx150_0)).trans hx150_0
                                  replace p150 := eq_true p150
                                  replace q150 := eq_true q150
                                  go_wp2
                                  go_roundg k3
                                  case measure => have := HJ3.out; have := HJ9.out; have := HK3.out; omega
                                  case rel => exact ⟨(wrap64 (x9_3 + 1)), (by first | rfl | (simp; done) | (simp [*]; done)), H', ⟨by have := HJ3.out; have := HJ9.out; have := HK3.out; omega⟩, ⟨by (with_reducible repeat (first | apply Kd.R_alloc | apply Kd.R_drewN | apply Kd.R_drew)); exact HO_7.out⟩, ⟨by repeat (first | (with_reducible first | exact HB.out | apply below_alloc | apply pw_below_drewN | apply below_drew1) | exact HB.out)⟩⟩
                          · rw [if_neg c25] at H
                            exact absurd H (by simp)
                        · rw [if_neg c24] at H
                          exact absurd H (by simp)
                      · rw [if_neg c23] at H
                        exact absurd H (by simp)
                    · rw [if_neg c21] at H
                      have c21b0 : decide (0 < x9_3) = false := decide_eq_false c21
                      clear c21
                      by_cases c60 : 0 ≤ x9_3
                      · rw [if_pos c60] at H
                        have c60b0 : decide (0 ≤ x9_3) = true := decide_eq_true c60
                        clear c60
                        by_cases c61 : (rd l2 x9_3) > a0
                        · rw [if_pos c61] at H
                          have c61b0 : decide (a0 < (rd l2 x9_3)) = true := decide_eq_true c61
                          clear c61
                          by_cases c62 : x9_3 < (t132.length : Int)
                          · rw [if_pos c62] at H
                            have c62b0 : decide (x9_3 < (t132.length : Int)) = true := decide_eq_true c62
                            clear c62
                            obtain ⟨bq63, hbq63⟩ : ∃ b_ : Bool, b_ = (rdOf false t132 x9_3) := ⟨_, rfl⟩
                            replace H : (if bq63 = true then (if (rd l2 x9_3) < a1 then (some false) else (if (rd l2 x9_3) ≤ a0 then (if (rd l2 x9_3) ≥ a1 then (if ((bq63) != false) = true then (some false) else (cellplanelaw22_ProbeBetween.l0 k3 a0 a1 l2 t132 (wrap64 (x9_3 + 1)))) else (cellplanelaw22_ProbeBetween.l0 k3 a0 a1 l2 t132 (wrap64 (x9_3 + 1)))) else (cellplanelaw22_ProbeBetween.l0 k3 a0 a1 l2 t132 (wrap64 (x9_3 + 1))))) else (some false)) = some r := by rw [← hbq63] at H; exact H
                            have Nbq63 := Aside0.mk hbq63
                            clear hbq63
                            by_cases c64 : bq63 = true
                            · subst c64
                              have H1 : (if (rd l2 x9_3) < a1 then (some false) else (if (rd l2 x9_3) ≤ a0 then (if (rd l2 x9_3) ≥ a1 then (if ((true) != false) = true then (some false) else (cellplanelaw22_ProbeBetween.l0 k3 a0 a1 l2 t132 (wrap64 (x9_3 + 1)))) else (cellplanelaw22_ProbeBetween.l0 k3 a0 a1 l2 t132 (wrap64 (x9_3 + 1)))) else (cellplanelaw22_ProbeBetween.l0 k3 a0 a1 l2 t132 (wrap64 (x9_3 + 1))))) = some r := by rw [if_pos rfl] at H; exact H
                              clear H
                              have H := H1
                              clear H1
                              by_cases c65 : (rd l2 x9_3) < a1
                              · rw [if_pos c65] at H
                                have c65b0 : decide ((rd l2 x9_3) < a1) = true := decide_eq_true c65
                                clear c65
                                obtain rfl := Option.some.inj H
                                have p153 : 0 ≤ (x9_3 : Int) := of_decide_eq_true (by first | (with_reducible assumption) | assumption)
                                have q153 : x9_3 < (l2.length : Int) := of_decide_eq_true (by first | (with_reducible assumption) | assumption)
                                obtain ⟨ad153, e153, hx153_0⟩ := Kd.at_int HR2.out x9_3 p153 q153
                                cases e153
                                replace hx153_0 := (HB.out.cell (World.block_lt_of_cell? w _ hx153_0)).trans hx153_0
                                replace p153 := eq_true p153
                                replace q153 := eq_true q153
                                obtain ⟨Ao66, co66, eo66⟩ := Kd.R_slice HO_7.out
                                subst eo66
                                have p154 : 0 ≤ (x9_3 : Int) := of_decide_eq_true (by first | (with_reducible assumption) | assumption)
                                have q154 : x9_3 < (t132.length : Int) := of_decide_eq_true (by first | (with_reducible assumption) | assumption)
                                obtain ⟨ad154, e154, hx154_0⟩ := Kd.at_bool (Kd.R_reads' HO_7.out).2.2 x9_3 p154 q154
                                (try rw [← Nbq63.out] at hx154_0)
                                cases e154
                                replace p154 := eq_true p154
                                replace q154 := eq_true q154
                                have p155 : 0 ≤ (x9_3 : Int) := of_decide_eq_true (by first | (with_reducible assumption) | assumption)
                                have q155 : x9_3 < (l2.length : Int) := of_decide_eq_true (by first | (with_reducible assumption) | assumption)
                                obtain ⟨ad155, e155, hx155_0⟩ := Kd.at_int HR2.out x9_3 p155 q155
                                obtain rfl : ad153 = ad155 := (by injection e155)
                                replace hx155_0 := (HB.out.cell (World.block_lt_of_cell? w _ hx155_0)).trans hx155_0
                                replace p155 := eq_true p155
                                replace q155 := eq_true q155
                                have p156 : 0 ≤ (x9_3 : Int) := of_decide_eq_true (by first | (with_reducible assumption) | assumption)
                                have q156 : x9_3 < (t132.length : Int) := of_decide_eq_true (by first | (with_reducible assumption) | assumption)
                                obtain ⟨ad156, e156, hx156_0⟩ := Kd.at_bool (Kd.R_reads' HO_7.out).2.2 x9_3 p156 q156
                                (try rw [← Nbq63.out] at hx156_0)
                                obtain rfl : ad154 = ad156 := (by injection e156)
                                replace p156 := eq_true p156
                                replace q156 := eq_true q156
                                go_wp2
                                all_goals go_ret
                                all_goals exact ⟨by first | rfl | (simp [errW_none, errW_some] <;> rfl) | (simp [*, errW_none, errW_some] <;> rfl), by repeat (first | (with_reducible first | exact HB.out | apply below_alloc | apply pw_below_drewN | apply below_drew1) | exact HB.out)⟩
                              · rw [if_neg c65] at H
                                have c65b0 : decide ((rd l2 x9_3) < a1) = false := decide_eq_false c65
                                clear c65
                                by_cases c67 : (rd l2 x9_3) ≤ a0
                                · rw [if_pos c67] at H
                                  have c67b0 : decide ((rd l2 x9_3) ≤ a0) = true := decide_eq_true c67
                                  clear c67
                                  by_cases c68 : (rd l2 x9_3) ≥ a1
                                  · rw [if_pos c68] at H
                                    have c68b0 : decide (a1 ≤ (rd l2 x9_3)) = true := decide_eq_true c68
                                    clear c68
                                    by_cases c69 : ((true) != false) = true
                                    · rw [if_pos c69] at H
                                      have c69b0 : ((true) != false) = true := c69
                                      (try (have c69b1 : decide ((true) = false) = false := by first | (simp; done) | (simp at c69; done) | simpa using c69))
                                      (try (have c69b2 : ((true) == false) = false := by first | (simp; done) | (simp at c69; done) | simpa using c69))
                                      (try (have c69b3 : ¬ ((true) = false) := by first | (simp; done) | (simp at c69; done) | simpa using c69))
                                      clear c69
                                      obtain rfl := Option.some.inj H
                                      have p153 : 0 ≤ (x9_3 : Int) := of_decide_eq_true (by first | (with_reducible assumption) | assumption)
                                      have q153 : x9_3 < (l2.length : Int) := of_decide_eq_true (by first | (with_reducible assumption) | assumption)
                                      obtain ⟨ad153, e153, hx153_0⟩ := Kd.at_int HR2.out x9_3 p153 q153
                                      cases e153
                                      replace hx153_0 := (HB.out.cell (World.block_lt_of_cell? w _ hx153_0)).trans hx153_0
                                      replace p153 := eq_true p153
                                      replace q153 := eq_true q153
                                      obtain ⟨Ao70, co70, eo70⟩ := Kd.R_slice HO_7.out
                                      subst eo70
                                      have p154 : 0 ≤ (x9_3 : Int) := of_decide_eq_true (by first | (with_reducible assumption) | assumption)
                                      have q154 : x9_3 < (t132.length : Int) := of_decide_eq_true (by first | (with_reducible assumption) | assumption)
                                      obtain ⟨ad154, e154, hx154_0⟩ := Kd.at_bool (Kd.R_reads' HO_7.out).2.2 x9_3 p154 q154
                                      (try rw [← Nbq63.out] at hx154_0)
                                      cases e154
                                      replace p154 := eq_true p154
                                      replace q154 := eq_true q154
                                      have p155 : 0 ≤ (x9_3 : Int) := of_decide_eq_true (by first | (with_reducible assumption) | assumption)
                                      have q155 : x9_3 < (l2.length : Int) := of_decide_eq_true (by first | (with_reducible assumption) | assumption)
                                      obtain ⟨ad155, e155, hx155_0⟩ := Kd.at_int HR2.out x9_3 p155 q155
                                      obtain rfl : ad153 = ad155 := (by injection e155)
                                      replace hx155_0 := (HB.out.cell (World.block_lt_of_cell? w _ hx155_0)).trans hx155_0
                                      replace p155 := eq_true p155
                                      replace q155 := eq_true q155
                                      have p157 : 0 ≤ (x9_3 : Int) := of_decide_eq_true (by first | (with_reducible assumption) | assumption)
                                      have q157 : x9_3 < (l2.length : Int) := of_decide_eq_true (by first | (with_reducible assumption) | assumption)
                                      obtain ⟨ad157, e157, hx157_0⟩ := Kd.at_int HR2.out x9_3 p157 q157
                                      obtain rfl : ad153 = ad157 := (by injection e157)
                                      replace hx157_0 := (HB.out.cell (World.block_lt_of_cell? w _ hx157_0)).trans hx157_0
                                      replace p157 := eq_true p157
                                      replace q157 := eq_true q157
                                      have p158 : 0 ≤ (x9_3 : Int) := of_decide_eq_true (by first | (with_reducible assumption) | assumption)
                                      have q158 : x9_3 < (l2.length : Int) := of_decide_eq_true (by first | (with_reducible assumption) | assumption)
                                      obtain ⟨ad158, e158, hx158_0⟩ := Kd.at_int HR2.out x9_3 p158 q158
                                      obtain rfl : ad153 = ad158 := (by injection e158)
                                      replace hx158_0 := (HB.out.cell (World.block_lt_of_cell? w _ hx158_0)).trans hx158_0
                                      replace p158 := eq_true p158
                                      replace q158 := eq_true q158
                                      have p159 : 0 ≤ (x9_3 : Int) := of_decide_eq_true (by first | (with_reducible assumption) | assumption)
                                      have q159 : x9_3 < (t132.length : Int) := of_decide_eq_true (by first | (with_reducible assumption) | assumption)
                                      obtain ⟨ad159, e159, hx159_0⟩ := Kd.at_bool (Kd.R_reads' HO_7.out).2.2 x9_3 p159 q159
                                      (try rw [← Nbq63.out] at hx159_0)
                                      obtain rfl : ad154 = ad159 := (by injection e159)
                                      replace p159 := eq_true p159
                                      replace q159 := eq_true q159
                                      go_wp2
                                      all_goals go_ret
                                      all_goals exact ⟨by first | rfl | (simp [errW_none, errW_some] <;> rfl) | (simp [*, errW_none, errW_some] <;> rfl), by repeat (first | (with_reducible first | exact HB.out | apply below_alloc | apply pw_below_drewN | apply below_drew1) | exact HB.out)⟩
                                    · rw [if_neg c69] at H
                                      have c69b0 : ((true) != false) = false := by first | (simp; done) | (simp at c69; done) | simpa using c69
                                      (try (have c69b1 : decide ((true) = false) = true := by first | (simp; done) | (simp at c69; done) | simpa using c69))
                                      (try (have c69b2 : ((true) == false) = true := by first | (simp; done) | (simp at c69; done) | simpa using c69))
                                      clear c69
                                      have H' := Aside0.mk H
                                      clear H
                                      have p153 : 0 ≤ (x9_3 : Int) := of_decide_eq_true (by first | (with_reducible assumption) | assumption)
                                      have q153 : x9_3 < (l2.length : Int) := of_decide_eq_true (by first | (with_reducible assumption) | assumption)
                                      obtain ⟨ad153, e153, hx153_0⟩ := Kd.at_int HR2.out x9_3 p153 q153
                                      cases e153
                                      replace hx153_0 := (HB.out.cell (World.block_lt_of_cell? w _ hx153_0)).trans hx153_0
                                      replace p153 := eq_true p153
                                      replace q153 := eq_true q153
                                      obtain ⟨Ao71, co71, eo71⟩ := Kd.R_slice HO_7.out
                                      subst eo71
                                      have p154 : 0 ≤ (x9_3 : Int) := of_decide_eq_true (by first | (with_reducible assumption) | assumption)
                                      have q154 : x9_3 < (t132.length : Int) := of_decide_eq_true (by first | (with_reducible assumption) | assumption)
                                      obtain ⟨ad154, e154, hx154_0⟩ := Kd.at_bool (Kd.R_reads' HO_7.out).2.2 x9_3 p154 q154
                                      (try rw [← Nbq63.out] at hx154_0)
                                      cases e154
                                      replace p154 := eq_true p154
                                      replace q154 := eq_true q154
                                      have p155 : 0 ≤ (x9_3 : Int) := of_decide_eq_true (by first | (with_reducible assumption) | assumption)
                                      have q155 : x9_3 < (l2.length : Int) := of_decide_eq_true (by first | (with_reducible assumption) | assumption)
                                      obtain ⟨ad155, e155, hx155_0⟩ := Kd.at_int HR2.out x9_3 p155 q155
                                      obtain rfl : ad153 = ad155 := (by injection e155)
                                      replace hx155_0 := (HB.out.cell (World.block_lt_of_cell? w _ hx155_0)).trans hx155_0
                                      replace p155 := eq_true p155
                                      replace q155 := eq_true q155
                                      have p157 : 0 ≤ (x9_3 : Int) := of_decide_eq_true (by first | (with_reducible assumption) | assumption)
                                      have q157 : x9_3 < (l2.length : Int) := of_decide_eq_true (by first | (with_reducible assumption) | assumption)
                                      obtain ⟨ad157, e157, hx157_0⟩ := Kd.at_int HR2.out x9_3 p157 q157
                                      obtain rfl : ad153 = ad157 := (by injection e157)
                                      replace hx157_0 := (HB.out.cell (World.block_lt_of_cell? w _ hx157_0)).trans hx157_0
                                      replace p157 := eq_true p157
                                      replace q157 := eq_true q157
                                      have p158 : 0 ≤ (x9_3 : Int) := of_decide_eq_true (by first | (with_reducible assumption) | assumption)
                                      have q158 : x9_3 < (l2.length : Int) := of_decide_eq_true (by first | (with_reducible assumption) | assumption)
                                      obtain ⟨ad158, e158, hx158_0⟩ := Kd.at_int HR2.out x9_3 p158 q158
                                      obtain rfl : ad153 = ad158 := (by injection e158)
                                      replace hx158_0 := (HB.out.cell (World.block_lt_of_cell? w _ hx158_0)).trans hx158_0
                                      replace p158 := eq_true p158
                                      replace q158 := eq_true q158
                                      have p159 : 0 ≤ (x9_3 : Int) := of_decide_eq_true (by first | (with_reducible assumption) | assumption)
                                      have q159 : x9_3 < (t132.length : Int) := of_decide_eq_true (by first | (with_reducible assumption) | assumption)
                                      obtain ⟨ad159, e159, hx159_0⟩ := Kd.at_bool (Kd.R_reads' HO_7.out).2.2 x9_3 p159 q159
                                      (try rw [← Nbq63.out] at hx159_0)
                                      obtain rfl : ad154 = ad159 := (by injection e159)
                                      replace p159 := eq_true p159
                                      replace q159 := eq_true q159
                                      go_wp2
                                      go_roundg k3
                                      case measure => have := HJ3.out; have := HJ9.out; have := HK3.out; omega
                                      case rel => exact ⟨(wrap64 (x9_3 + 1)), (by first | rfl | (simp; done) | (simp [*]; done)), H', ⟨by have := HJ3.out; have := HJ9.out; have := HK3.out; omega⟩, ⟨by (with_reducible repeat (first | apply Kd.R_alloc | apply Kd.R_drewN | apply Kd.R_drew)); exact HO_7.out⟩, ⟨by repeat (first | (with_reducible first | exact HB.out | apply below_alloc | apply pw_below_drewN | apply below_drew1) | exact HB.out)⟩⟩
                                  · rw [if_neg c68] at H
                                    have c68b0 : decide (a1 ≤ (rd l2 x9_3)) = false := decide_eq_false c68
                                    clear c68
                                    have H' := Aside0.mk H
                                    clear H
                                    have p153 : 0 ≤ (x9_3 : Int) := of_decide_eq_true (by first | (with_reducible assumption) | assumption)
                                    have q153 : x9_3 < (l2.length : Int) := of_decide_eq_true (by first | (with_reducible assumption) | assumption)
                                    obtain ⟨ad153, e153, hx153_0⟩ := Kd.at_int HR2.out x9_3 p153 q153
                                    cases e153
                                    replace hx153_0 := (HB.out.cell (World.block_lt_of_cell? w _ hx153_0)).trans hx153_0
                                    replace p153 := eq_true p153
                                    replace q153 := eq_true q153
                                    obtain ⟨Ao72, co72, eo72⟩ := Kd.R_slice HO_7.out
                                    subst eo72
                                    have p154 : 0 ≤ (x9_3 : Int) := of_decide_eq_true (by first | (with_reducible assumption) | assumption)
                                    have q154 : x9_3 < (t132.length : Int) := of_decide_eq_true (by first | (with_reducible assumption) | assumption)
                                    obtain ⟨ad154, e154, hx154_0⟩ := Kd.at_bool (Kd.R_reads' HO_7.out).2.2 x9_3 p154 q154
                                    (try rw [← Nbq63.out] at hx154_0)
                                    cases e154
                                    replace p154 := eq_true p154
                                    replace q154 := eq_true q154
                                    have p155 : 0 ≤ (x9_3 : Int) := of_decide_eq_true (by first | (with_reducible assumption) | assumption)
                                    have q155 : x9_3 < (l2.length : Int) := of_decide_eq_true (by first | (with_reducible assumption) | assumption)
                                    obtain ⟨ad155, e155, hx155_0⟩ := Kd.at_int HR2.out x9_3 p155 q155
                                    obtain rfl : ad153 = ad155 := (by injection e155)
                                    replace hx155_0 := (HB.out.cell (World.block_lt_of_cell? w _ hx155_0)).trans hx155_0
                                    replace p155 := eq_true p155
                                    replace q155 := eq_true q155
                                    have p157 : 0 ≤ (x9_3 : Int) := of_decide_eq_true (by first | (with_reducible assumption) | assumption)
                                    have q157 : x9_3 < (l2.length : Int) := of_decide_eq_true (by first | (with_reducible assumption) | assumption)
                                    obtain ⟨ad157, e157, hx157_0⟩ := Kd.at_int HR2.out x9_3 p157 q157
                                    obtain rfl : ad153 = ad157 := (by injection e157)
                                    replace hx157_0 := (HB.out.cell (World.block_lt_of_cell? w _ hx157_0)).trans hx157_0
                                    replace p157 := eq_true p157
                                    replace q157 := eq_true q157
                                    have p158 : 0 ≤ (x9_3 : Int) := of_decide_eq_true (by first | (with_reducible assumption) | assumption)
                                    have q158 : x9_3 < (l2.length : Int) := of_decide_eq_true (by first | (with_reducible assumption) | assumption)
                                    obtain ⟨ad158, e158, hx158_0⟩ := Kd.at_int HR2.out x9_3 p158 q158
                                    obtain rfl : ad153 = ad158 := (by injection e158)
                                    replace hx158_0 := (HB.out.cell (World.block_lt_of_cell? w _ hx158_0)).trans hx158_0
                                    replace p158 := eq_true p158
                                    replace q158 := eq_true q158
                                    go_wp2
                                    go_roundg k3
                                    case measure => have := HJ3.out; have := HJ9.out; have := HK3.out; omega
                                    case rel => exact ⟨(wrap64 (x9_3 + 1)), (by first | rfl | (simp; done) | (simp [*]; done)), H', ⟨by have := HJ3.out; have := HJ9.out; have := HK3.out; omega⟩, ⟨by (with_reducible repeat (first | apply Kd.R_alloc | apply Kd.R_drewN | apply Kd.R_drew)); exact HO_7.out⟩, ⟨by repeat (first | (with_reducible first | exact HB.out | apply below_alloc | apply pw_below_drewN | apply below_drew1) | exact HB.out)⟩⟩
                                · rw [if_neg c67] at H
                                  have c67b0 : decide ((rd l2 x9_3) ≤ a0) = false := decide_eq_false c67
                                  clear c67
                                  have H' := Aside0.mk H
                                  clear H
                                  have p153 : 0 ≤ (x9_3 : Int) := of_decide_eq_true (by first | (with_reducible assumption) | assumption)
                                  have q153 : x9_3 < (l2.length : Int) := of_decide_eq_true (by first | (with_reducible assumption) | assumption)
                                  obtain ⟨ad153, e153, hx153_0⟩ := Kd.at_int HR2.out x9_3 p153 q153
                                  cases e153
                                  replace hx153_0 := (HB.out.cell (World.block_lt_of_cell? w _ hx153_0)).trans hx153_0
                                  replace p153 := eq_true p153
                                  replace q153 := eq_true q153
                                  obtain ⟨Ao73, co73, eo73⟩ := Kd.R_slice HO_7.out
                                  subst eo73
                                  have p154 : 0 ≤ (x9_3 : Int) := of_decide_eq_true (by first | (with_reducible assumption) | assumption)
                                  have q154 : x9_3 < (t132.length : Int) := of_decide_eq_true (by first | (with_reducible assumption) | assumption)
                                  obtain ⟨ad154, e154, hx154_0⟩ := Kd.at_bool (Kd.R_reads' HO_7.out).2.2 x9_3 p154 q154
                                  (try rw [← Nbq63.out] at hx154_0)
                                  cases e154
                                  replace p154 := eq_true p154
                                  replace q154 := eq_true q154
                                  have p155 : 0 ≤ (x9_3 : Int) := of_decide_eq_true (by first | (with_reducible assumption) | assumption)
                                  have q155 : x9_3 < (l2.length : Int) := of_decide_eq_true (by first | (with_reducible assumption) | assumption)
                                  obtain ⟨ad155, e155, hx155_0⟩ := Kd.at_int HR2.out x9_3 p155 q155
                                  obtain rfl : ad153 = ad155 := (by injection e155)
                                  replace hx155_0 := (HB.out.cell (World.block_lt_of_cell? w _ hx155_0)).trans hx155_0
                                  replace p155 := eq_true p155
                                  replace q155 := eq_true q155
                                  have p157 : 0 ≤ (x9_3 : Int) := of_decide_eq_true (by first | (with_reducible assumption) | assumption)
                                  have q157 : x9_3 < (l2.length : Int) := of_decide_eq_true (by first | (with_reducible assumption) | assumption)
                                  obtain ⟨ad157, e157, hx157_0⟩ := Kd.at_int HR2.out x9_3 p157 q157
                                  obtain rfl : ad153 = ad157 := (by injection e157)
                                  replace hx157_0 := (HB.out.cell (World.block_lt_of_cell? w _ hx157_0)).trans hx157_0
                                  replace p157 := eq_true p157
                                  replace q157 := eq_true q157
                                  go_wp2
                                  go_roundg k3
                                  case measure => have := HJ3.out; have := HJ9.out; have := HK3.out; omega
                                  case rel => exact ⟨(wrap64 (x9_3 + 1)), (by first | rfl | (simp; done) | (simp [*]; done)), H', ⟨by have := HJ3.out; have := HJ9.out; have := HK3.out; omega⟩, ⟨by (with_reducible repeat (first | apply Kd.R_alloc | apply Kd.R_drewN | apply Kd.R_drew)); exact HO_7.out⟩, ⟨by repeat (first | (with_reducible first | exact HB.out | apply below_alloc | apply pw_below_drewN | apply below_drew1) | exact HB.out)⟩⟩
                            · replace c64 := Bool.eq_false_iff.mpr c64
                              subst c64
                              have H1 : (some false) = some r := by rw [if_neg (show ¬ (false = true) by decide)] at H; exact H
                              clear H
                              have H := H1
                              clear H1
                              obtain rfl := Option.some.inj H
                              have p153 : 0 ≤ (x9_3 : Int) := of_decide_eq_true (by first | (with_reducible assumption) | assumption)
                              have q153 : x9_3 < (l2.length : Int) := of_decide_eq_true (by first | (with_reducible assumption) | assumption)
                              obtain ⟨ad153, e153, hx153_0⟩ := Kd.at_int HR2.out x9_3 p153 q153
                              cases e153
                              replace hx153_0 := (HB.out.cell (World.block_lt_of_cell? w _ hx153_0)).trans hx153_0
                              replace p153 := eq_true p153
                              replace q153 := eq_true q153
                              obtain ⟨Ao74, co74, eo74⟩ := Kd.R_slice HO_7.out
                              subst eo74
                              have p154 : 0 ≤ (x9_3 : Int) := of_decide_eq_true (by first | (with_reducible assumption) | assumption)
                              have q154 : x9_3 < (t132.length : Int) := of_decide_eq_true (by first | (with_reducible assumption) | assumption)
                              obtain ⟨ad154, e154, hx154_0⟩ := Kd.at_bool (Kd.R_reads' HO_7.out).2.2 x9_3 p154 q154
                              (try rw [← Nbq63.out] at hx154_0)
                              cases e154
                              replace p154 := eq_true p154
                              replace q154 := eq_true q154
                              go_wp2
                              all_goals go_ret
                              all_goals exact ⟨by first | rfl | (simp [errW_none, errW_some] <;> rfl) | (simp [*, errW_none, errW_some] <;> rfl), by repeat (first | (with_reducible first | exact HB.out | apply below_alloc | apply pw_below_drewN | apply below_drew1) | exact HB.out)⟩
                          · rw [if_neg c62] at H
                            exact absurd H (by simp)
                        · rw [if_neg c61] at H
                          have c61b0 : decide (a0 < (rd l2 x9_3)) = false := decide_eq_false c61
                          clear c61
                          by_cases c75 : (rd l2 x9_3) < a1
                          · rw [if_pos c75] at H
                            have c75b0 : decide ((rd l2 x9_3) < a1) = true := decide_eq_true c75
                            clear c75
                            by_cases c76 : x9_3 < (t132.length : Int)
                            · rw [if_pos c76] at H
                              have c76b0 : decide (x9_3 < (t132.length : Int)) = true := decide_eq_true c76
                              clear c76
                              obtain ⟨bq77, hbq77⟩ : ∃ b_ : Bool, b_ = (rdOf false t132 x9_3) := ⟨_, rfl⟩
                              replace H : (if bq77 = true then (some false) else (if (rd l2 x9_3) ≤ a0 then (if (rd l2 x9_3) ≥ a1 then (if ((bq77) != false) = true then (some false) else (cellplanelaw22_ProbeBetween.l0 k3 a0 a1 l2 t132 (wrap64 (x9_3 + 1)))) else (cellplanelaw22_ProbeBetween.l0 k3 a0 a1 l2 t132 (wrap64 (x9_3 + 1)))) else (cellplanelaw22_ProbeBetween.l0 k3 a0 a1 l2 t132 (wrap64 (x9_3 + 1))))) = some r := by rw [← hbq77] at H; exact H
                              have Nbq77 := Aside0.mk hbq77
                              clear hbq77
                              by_cases c78 : bq77 = true
                              · subst c78
                                have H1 : (some false) = some r := by rw [if_pos rfl] at H; exact H
                                clear H
                                have H := H1
                                clear H1
                                obtain rfl := Option.some.inj H
                                have p153 : 0 ≤ (x9_3 : Int) := of_decide_eq_true (by first | (with_reducible assumption) | assumption)
                                have q153 : x9_3 < (l2.length : Int) := of_decide_eq_true (by first | (with_reducible assumption) | assumption)
                                obtain ⟨ad153, e153, hx153_0⟩ := Kd.at_int HR2.out x9_3 p153 q153
                                cases e153
                                replace hx153_0 := (HB.out.cell (World.block_lt_of_cell? w _ hx153_0)).trans hx153_0
                                replace p153 := eq_true p153
                                replace q153 := eq_true q153
                                have p160 : 0 ≤ (x9_3 : Int) := of_decide_eq_true (by first | (with_reducible assumption) | assumption)
                                have q160 : x9_3 < (l2.length : Int) := of_decide_eq_true (by first | (with_reducible assumption) | assumption)
                                obtain ⟨ad160, e160, hx160_0⟩ := Kd.at_int HR2.out x9_3 p160 q160
                                obtain rfl : ad153 = ad160 := (by injection e160)
                                replace hx160_0 := (HB.out.cell (World.block_lt_of_cell? w _ hx160_0)).trans hx160_0
                                replace p160 := eq_true p160
                                replace q160 := eq_true q160
                                obtain ⟨Ao79, co79, eo79⟩ := Kd.R_slice HO_7.out
                                subst eo79
                                have p161 : 0 ≤ (x9_3 : Int) := of_decide_eq_true (by first | (with_reducible assumption) | assumption)
                                have q161 : x9_3 < (t132.length : Int) := of_decide_eq_true (by first | (with_reducible assumption) | assumption)
                                obtain ⟨ad161, e161, hx161_0⟩ := Kd.at_bool (Kd.R_reads' HO_7.out).2.2 x9_3 p161 q161
                                (try rw [← Nbq77.out] at hx161_0)
                                cases e161
                                replace p161 := eq_true p161
                                replace q161 := eq_true q161
                                go_wp2
                                all_goals go_ret
                                all_goals exact ⟨by first | rfl | (simp [errW_none, errW_some] <;> rfl) | (simp [*, errW_none, errW_some] <;> rfl), by repeat (first | (with_reducible first | exact HB.out | apply below_alloc | apply pw_below_drewN | apply below_drew1) | exact HB.out)⟩
                              · replace c78 := Bool.eq_false_iff.mpr c78
                                subst c78
                                have H1 : (if (rd l2 x9_3) ≤ a0 then (if (rd l2 x9_3) ≥ a1 then (if ((false) != false) = true then (some false) else (cellplanelaw22_ProbeBetween.l0 k3 a0 a1 l2 t132 (wrap64 (x9_3 + 1)))) else (cellplanelaw22_ProbeBetween.l0 k3 a0 a1 l2 t132 (wrap64 (x9_3 + 1)))) else (cellplanelaw22_ProbeBetween.l0 k3 a0 a1 l2 t132 (wrap64 (x9_3 + 1)))) = some r := by rw [if_neg (show ¬ (false = true) by decide)] at H; exact H
                                clear H
                                have H := H1
                                clear H1
                                by_cases c80 : (rd l2 x9_3) ≤ a0
                                · rw [if_pos c80] at H
                                  have c80b0 : decide ((rd l2 x9_3) ≤ a0) = true := decide_eq_true c80
                                  clear c80
                                  by_cases c81 : (rd l2 x9_3) ≥ a1
                                  · rw [if_pos c81] at H
                                    have c81b0 : decide (a1 ≤ (rd l2 x9_3)) = true := decide_eq_true c81
                                    clear c81
                                    by_cases c82 : ((false) != false) = true
                                    · rw [if_pos c82] at H
                                      have c82b0 : ((false) != false) = true := c82
                                      (try (have c82b1 : decide ((false) = false) = false := by first | (simp; done) | (simp at c82; done) | simpa using c82))
                                      (try (have c82b2 : ((false) == false) = false := by first | (simp; done) | (simp at c82; done) | simpa using c82))
                                      (try (have c82b3 : ¬ ((false) = false) := by first | (simp; done) | (simp at c82; done) | simpa using c82))
                                      clear c82
                                      obtain rfl := Option.some.inj H
                                      have p153 : 0 ≤ (x9_3 : Int) := of_decide_eq_true (by first | (with_reducible assumption) | assumption)
                                      have q153 : x9_3 < (l2.length : Int) := of_decide_eq_true (by first | (with_reducible assumption) | assumption)
                                      obtain ⟨ad153, e153, hx153_0⟩ := Kd.at_int HR2.out x9_3 p153 q153
                                      cases e153
                                      replace hx153_0 := (HB.out.cell (World.block_lt_of_cell? w _ hx153_0)).trans hx153_0
                                      replace p153 := eq_true p153
                                      replace q153 := eq_true q153
                                      have p160 : 0 ≤ (x9_3 : Int) := of_decide_eq_true (by first | (with_reducible assumption) | assumption)
                                      have q160 : x9_3 < (l2.length : Int) := of_decide_eq_true (by first | (with_reducible assumption) | assumption)
                                      obtain ⟨ad160, e160, hx160_0⟩ := Kd.at_int HR2.out x9_3 p160 q160
                                      obtain rfl : ad153 = ad160 := (by injection e160)
                                      replace hx160_0 := (HB.out.cell (World.block_lt_of_cell? w _ hx160_0)).trans hx160_0
                                      replace p160 := eq_true p160
                                      replace q160 := eq_true q160
                                      obtain ⟨Ao83, co83, eo83⟩ := Kd.R_slice HO_7.out
                                      subst eo83
                                      have p161 : 0 ≤ (x9_3 : Int) := of_decide_eq_true (by first | (with_reducible assumption) | assumption)
                                      have q161 : x9_3 < (t132.length : Int) := of_decide_eq_true (by first | (with_reducible assumption) | assumption)
                                      obtain ⟨ad161, e161, hx161_0⟩ := Kd.at_bool (Kd.R_reads' HO_7.out).2.2 x9_3 p161 q161
                                      (try rw [← Nbq77.out] at hx161_0)
                                      cases e161
                                      replace p161 := eq_true p161
                                      replace q161 := eq_true q161
                                      have p162 : 0 ≤ (x9_3 : Int) := of_decide_eq_true (by first | (with_reducible assumption) | assumption)
                                      have q162 : x9_3 < (l2.length : Int) := of_decide_eq_true (by first | (with_reducible assumption) | assumption)
                                      obtain ⟨ad162, e162, hx162_0⟩ := Kd.at_int HR2.out x9_3 p162 q162
                                      obtain rfl : ad153 = ad162 := (by injection e162)
                                      replace hx162_0 := (HB.out.cell (World.block_lt_of_cell? w _ hx162_0)).trans hx162_0
                                      replace p162 := eq_true p162
                                      replace q162 := eq_true q162
                                      have p163 : 0 ≤ (x9_3 : Int) := of_decide_eq_true (by first | (with_reducible assumption) | assumption)
                                      have q163 : x9_3 < (l2.length : Int) := of_decide_eq_true (by first | (with_reducible assumption) | assumption)
                                      obtain ⟨ad163, e163, hx163_0⟩ := Kd.at_int HR2.out x9_3 p163 q163
                                      obtain rfl : ad153 = ad163 := (by injection e163)
                                      replace hx163_0 := (HB.out.cell (World.block_lt_of_cell? w _ hx163_0)).trans hx163_0
                                      replace p163 := eq_true p163
                                      replace q163 := eq_true q163
                                      have p164 : 0 ≤ (x9_3 : Int) := of_decide_eq_true (by first | (with_reducible assumption) | assumption)
                                      have q164 : x9_3 < (t132.length : Int) := of_decide_eq_true (by first | (with_reducible assumption) | assumption)
                                      obtain ⟨ad164, e164, hx164_0⟩ := Kd.at_bool (Kd.R_reads' HO_7.out).2.2 x9_3 p164 q164
                                      (try rw [← Nbq77.out] at hx164_0)
                                      obtain rfl : ad161 = ad164 := (by injection e164)
                                      replace p164 := eq_true p164
                                      replace q164 := eq_true q164
                                      go_wp2
                                      all_goals go_ret
                                      all_goals exact ⟨by first | rfl | (simp [errW_none, errW_some] <;> rfl) | (simp [*, errW_none, errW_some] <;> rfl), by repeat (first | (with_reducible first | exact HB.out | apply below_alloc | apply pw_below_drewN | apply below_drew1) | exact HB.out)⟩
                                    · rw [if_neg c82] at H
                                      have c82b0 : ((false) != false) = false := by first | (simp; done) | (simp at c82; done) | simpa using c82
                                      (try (have c82b1 : decide ((false) = false) = true := by first | (simp; done) | (simp at c82; done) | simpa using c82))
                                      (try (have c82b2 : ((false) == false) = true := by first | (simp; done) | (simp at c82; done) | simpa using c82))
                                      clear c82
                                      have H' := Aside0.mk H
                                      clear H
                                      have p153 : 0 ≤ (x9_3 : Int) := of_decide_eq_true (by first | (with_reducible assumption) | assumption)
                                      have q153 : x9_3 < (l2.length : Int) := of_decide_eq_true (by first | (with_reducible assumption) | assumption)
                                      obtain ⟨ad153, e153, hx153_0⟩ := Kd.at_int HR2.out x9_3 p153 q153
                                      cases e153
                                      replace hx153_0 := (HB.out.cell (World.block_lt_of_cell? w _ hx153_0)).trans hx153_0
                                      replace p153 := eq_true p153
                                      replace q153 := eq_true q153
                                      have p160 : 0 ≤ (x9_3 : Int) := of_decide_eq_true (by first | (with_reducible assumption) | assumption)
                                      have q160 : x9_3 < (l2.length : Int) := of_decide_eq_true (by first | (with_reducible assumption) | assumption)
                                      obtain ⟨ad160, e160, hx160_0⟩ := Kd.at_int HR2.out x9_3 p160 q160
                                      obtain rfl : ad153 = ad160 := (by injection e160)
                                      replace hx160_0 := (HB.out.cell (World.block_lt_of_cell? w _ hx160_0)).trans hx160_0
                                      replace p160 := eq_true p160
                                      replace q160 := eq_true q160
                                      obtain ⟨Ao84, co84, eo84⟩ := Kd.R_slice HO_7.out
                                      subst eo84
                                      have p161 : 0 ≤ (x9_3 : Int) := of_decide_eq_true (by first | (with_reducible assumption) | assumption)
                                      have q161 : x9_3 < (t132.length : Int) := of_decide_eq_true (by first | (with_reducible assumption) | assumption)
                                      obtain ⟨ad161, e161, hx161_0⟩ := Kd.at_bool (Kd.R_reads' HO_7.out).2.2 x9_3 p161 q161
                                      (try rw [← Nbq77.out] at hx161_0)
                                      cases e161
                                      replace p161 := eq_true p161
                                      replace q161 := eq_true q161
                                      have p162 : 0 ≤ (x9_3 : Int) := of_decide_eq_true (by first | (with_reducible assumption) | assumption)
                                      have q162 : x9_3 < (l2.length : Int) := of_decide_eq_true (by first | (with_reducible assumption) | assumption)
                                      obtain ⟨ad162, e162, hx162_0⟩ := Kd.at_int HR2.out x9_3 p162 q162
                                      obtain rfl : ad153 = ad162 := (by injection e162)
                                      replace hx162_0 := (HB.out.cell (World.block_lt_of_cell? w _ hx162_0)).trans hx162_0
                                      replace p162 := eq_true p162
                                      replace q162 := eq_true q162
                                      have p163 : 0 ≤ (x9_3 : Int) := of_decide_eq_true (by first | (with_reducible assumption) | assumption)
                                      have q163 : x9_3 < (l2.length : Int) := of_decide_eq_true (by first | (with_reducible assumption) | assumption)
                                      obtain ⟨ad163, e163, hx163_0⟩ := Kd.at_int HR2.out x9_3 p163 q163
                                      obtain rfl : ad153 = ad163 := (by injection e163)
                                      replace hx163_0 := (HB.out.cell (World.block_lt_of_cell? w _ hx163_0)).trans hx163_0
                                      replace p163 := eq_true p163
                                      replace q163 := eq_true q163
                                      have p164 : 0 ≤ (x9_3 : Int) := of_decide_eq_true (by first | (with_reducible assumption) | assumption)
                                      have q164 : x9_3 < (t132.length : Int) := of_decide_eq_true (by first | (with_reducible assumption) | assumption)
                                      obtain ⟨ad164, e164, hx164_0⟩ := Kd.at_bool (Kd.R_reads' HO_7.out).2.2 x9_3 p164 q164
                                      (try rw [← Nbq77.out] at hx164_0)
                                      obtain rfl : ad161 = ad164 := (by injection e164)
                                      replace p164 := eq_true p164
                                      replace q164 := eq_true q164
                                      go_wp2
                                      go_roundg k3
                                      case measure => have := HJ3.out; have := HJ9.out; have := HK3.out; omega
                                      case rel => exact ⟨(wrap64 (x9_3 + 1)), (by first | rfl | (simp; done) | (simp [*]; done)), H', ⟨by have := HJ3.out; have := HJ9.out; have := HK3.out; omega⟩, ⟨by (with_reducible repeat (first | apply Kd.R_alloc | apply Kd.R_drewN | apply Kd.R_drew)); exact HO_7.out⟩, ⟨by repeat (first | (with_reducible first | exact HB.out | apply below_alloc | apply pw_below_drewN | apply below_drew1) | exact HB.out)⟩⟩
                                  · rw [if_neg c81] at H
                                    have c81b0 : decide (a1 ≤ (rd l2 x9_3)) = false := decide_eq_false c81
                                    clear c81
                                    have H' := Aside0.mk H
                                    clear H
                                    have p153 : 0 ≤ (x9_3 : Int) := of_decide_eq_true (by first | (with_reducible assumption) | assumption)
                                    have q153 : x9_3 < (l2.length : Int) := of_decide_eq_true (by first | (with_reducible assumption) | assumption)
                                    obtain ⟨ad153, e153, hx153_0⟩ := Kd.at_int HR2.out x9_3 p153 q153
                                    cases e153
                                    replace hx153_0 := (HB.out.cell (World.block_lt_of_cell? w _ hx153_0)).trans hx153_0
                                    replace p153 := eq_true p153
                                    replace q153 := eq_true q153
                                    have p160 : 0 ≤ (x9_3 : Int) := of_decide_eq_true (by first | (with_reducible assumption) | assumption)
                                    have q160 : x9_3 < (l2.length : Int) := of_decide_eq_true (by first | (with_reducible assumption) | assumption)
                                    obtain ⟨ad160, e160, hx160_0⟩ := Kd.at_int HR2.out x9_3 p160 q160
                                    obtain rfl : ad153 = ad160 := (by injection e160)
                                    replace hx160_0 := (HB.out.cell (World.block_lt_of_cell? w _ hx160_0)).trans hx160_0
                                    replace p160 := eq_true p160
                                    replace q160 := eq_true q160
                                    obtain ⟨Ao85, co85, eo85⟩ := Kd.R_slice HO_7.out
                                    subst eo85
                                    have p161 : 0 ≤ (x9_3 : Int) := of_decide_eq_true (by first | (with_reducible assumption) | assumption)
                                    have q161 : x9_3 < (t132.length : Int) := of_decide_eq_true (by first | (with_reducible assumption) | assumption)
                                    obtain ⟨ad161, e161, hx161_0⟩ := Kd.at_bool (Kd.R_reads' HO_7.out).2.2 x9_3 p161 q161
                                    (try rw [← Nbq77.out] at hx161_0)
                                    cases e161
                                    replace p161 := eq_true p161
                                    replace q161 := eq_true q161
                                    have p162 : 0 ≤ (x9_3 : Int) := of_decide_eq_true (by first | (with_reducible assumption) | assumption)
                                    have q162 : x9_3 < (l2.length : Int) := of_decide_eq_true (by first | (with_reducible assumption) | assumption)
                                    obtain ⟨ad162, e162, hx162_0⟩ := Kd.at_int HR2.out x9_3 p162 q162
                                    obtain rfl : ad153 = ad162 := (by injection e162)
                                    replace hx162_0 := (HB.out.cell (World.block_lt_of_cell? w _ hx162_0)).trans hx162_0
                                    replace p162 := eq_true p162
                                    replace q162 := eq_true q162
                                    have p163 : 0 ≤ (x9_3 : Int) := of_decide_eq_true (by first | (with_reducible assumption) | assumption)
                                    have q163 : x9_3 < (l2.length : Int) := of_decide_eq_true (by first | (with_reducible assumption) | assumption)
                                    obtain ⟨ad163, e163, hx163_0⟩ := Kd.at_int HR2.out x9_3 p163 q163
                                    obtain rfl : ad153 = ad163 := (by injection e163)
                                    replace hx163_0 := (HB.out.cell (World.block_lt_of_cell? w _ hx163_0)).trans hx163_0
                                    replace p163 := eq_true p163
                                    replace q163 := eq_true q163
                                    go_wp2
                                    go_roundg k3
                                    case measure => have := HJ3.out; have := HJ9.out; have := HK3.out; omega
                                    case rel => exact ⟨(wrap64 (x9_3 + 1)), (by first | rfl | (simp; done) | (simp [*]; done)), H', ⟨by have := HJ3.out; have := HJ9.out; have := HK3.out; omega⟩, ⟨by (with_reducible repeat (first | apply Kd.R_alloc | apply Kd.R_drewN | apply Kd.R_drew)); exact HO_7.out⟩, ⟨by repeat (first | (with_reducible first | exact HB.out | apply below_alloc | apply pw_below_drewN | apply below_drew1) | exact HB.out)⟩⟩
                                · rw [if_neg c80] at H
                                  have c80b0 : decide ((rd l2 x9_3) ≤ a0) = false := decide_eq_false c80
                                  clear c80
                                  have H' := Aside0.mk H
                                  clear H
                                  have p153 : 0 ≤ (x9_3 : Int) := of_decide_eq_true (by first | (with_reducible assumption) | assumption)
                                  have q153 : x9_3 < (l2.length : Int) := of_decide_eq_true (by first | (with_reducible assumption) | assumption)
                                  obtain ⟨ad153, e153, hx153_0⟩ := Kd.at_int HR2.out x9_3 p153 q153
                                  cases e153
                                  replace hx153_0 := (HB.out.cell (World.block_lt_of_cell? w _ hx153_0)).trans hx153_0
                                  replace p153 := eq_true p153
                                  replace q153 := eq_true q153
                                  have p160 : 0 ≤ (x9_3 : Int) := of_decide_eq_true (by first | (with_reducible assumption) | assumption)
                                  have q160 : x9_3 < (l2.length : Int) := of_decide_eq_true (by first | (with_reducible assumption) | assumption)
                                  obtain ⟨ad160, e160, hx160_0⟩ := Kd.at_int HR2.out x9_3 p160 q160
                                  obtain rfl : ad153 = ad160 := (by injection e160)
                                  replace hx160_0 := (HB.out.cell (World.block_lt_of_cell? w _ hx160_0)).trans hx160_0
                                  replace p160 := eq_true p160
                                  replace q160 := eq_true q160
                                  obtain ⟨Ao86, co86, eo86⟩ := Kd.R_slice HO_7.out
                                  subst eo86
                                  have p161 : 0 ≤ (x9_3 : Int) := of_decide_eq_true (by first | (with_reducible assumption) | assumption)
                                  have q161 : x9_3 < (t132.length : Int) := of_decide_eq_true (by first | (with_reducible assumption) | assumption)
                                  obtain ⟨ad161, e161, hx161_0⟩ := Kd.at_bool (Kd.R_reads' HO_7.out).2.2 x9_3 p161 q161
                                  (try rw [← Nbq77.out] at hx161_0)
                                  cases e161
                                  replace p161 := eq_true p161
                                  replace q161 := eq_true q161
                                  have p162 : 0 ≤ (x9_3 : Int) := of_decide_eq_true (by first | (with_reducible assumption) | assumption)
                                  have q162 : x9_3 < (l2.length : Int) := of_decide_eq_true (by first | (with_reducible assumption) | assumption)
                                  obtain ⟨ad162, e162, hx162_0⟩ := Kd.at_int HR2.out x9_3 p162 q162
                                  obtain rfl : ad153 = ad162 := (by injection e162)
                                  replace hx162_0 := (HB.out.cell (World.block_lt_of_cell? w _ hx162_0)).trans hx162_0
                                  replace p162 := eq_true p162
                                  replace q162 := eq_true q162
                                  go_wp2
                                  go_roundg k3
                                  case measure => have := HJ3.out; have := HJ9.out; have := HK3.out; omega
                                  case rel => exact ⟨(wrap64 (x9_3 + 1)), (by first | rfl | (simp; done) | (simp [*]; done)), H', ⟨by have := HJ3.out; have := HJ9.out; have := HK3.out; omega⟩, ⟨by (with_reducible repeat (first | apply Kd.R_alloc | apply Kd.R_drewN | apply Kd.R_drew)); exact HO_7.out⟩, ⟨by repeat (first | (with_reducible first | exact HB.out | apply below_alloc | apply pw_below_drewN | apply below_drew1) | exact HB.out)⟩⟩
                            · rw [if_neg c76] at H
                              exact absurd H (by simp)
                          · rw [if_neg c75] at H
                            have c75b0 : decide ((rd l2 x9_3) < a1) = false := decide_eq_false c75
                            clear c75
                            by_cases c87 : (rd l2 x9_3) ≤ a0
                            · rw [if_pos c87] at H
                              have c87b0 : decide ((rd l2 x9_3) ≤ a0) = true := decide_eq_true c87
                              clear c87
                              by_cases c88 : (rd l2 x9_3) ≥ a1
                              · rw [if_pos c88] at H
                                have c88b0 : decide (a1 ≤ (rd l2 x9_3)) = true := decide_eq_true c88
                                clear c88
                                by_cases c89 : x9_3 < (t132.length : Int)
                                · rw [if_pos c89] at H
                                  have c89b0 : decide (x9_3 < (t132.length : Int)) = true := decide_eq_true c89
                                  clear c89
                                  by_cases c90 : ((rdOf false t132 x9_3) != false) = true
                                  · rw [if_pos c90] at H
                                    have c90b0 : ((rdOf false t132 x9_3) != false) = true := c90
                                    (try (have c90b1 : decide ((rdOf false t132 x9_3) = false) = false := by first | (simp; done) | (simp at c90; done) | simpa using c90))
                                    (try (have c90b2 : ((rdOf false t132 x9_3) == false) = false := by first | (simp; done) | (simp at c90; done) | simpa using c90))
                                    (try (have c90b3 : ¬ ((rdOf false t132 x9_3) = false) := by first | (simp; done) | (simp at c90; done) | simpa using c90))
                                    clear c90
                                    obtain rfl := Option.some.inj H
                                    have p153 : 0 ≤ (x9_3 : Int) := of_decide_eq_true (by first | (with_reducible assumption) | assumption)
                                    have q153 : x9_3 < (l2.length : Int) := of_decide_eq_true (by first | (with_reducible assumption) | assumption)
                                    obtain ⟨ad153, e153, hx153_0⟩ := Kd.at_int HR2.out x9_3 p153 q153
                                    cases e153
                                    replace hx153_0 := (HB.out.cell (World.block_lt_of_cell? w _ hx153_0)).trans hx153_0
                                    replace p153 := eq_true p153
                                    replace q153 := eq_true q153
                                    have p160 : 0 ≤ (x9_3 : Int) := of_decide_eq_true (by first | (with_reducible assumption) | assumption)
                                    have q160 : x9_3 < (l2.length : Int) := of_decide_eq_true (by first | (with_reducible assumption) | assumption)
                                    obtain ⟨ad160, e160, hx160_0⟩ := Kd.at_int HR2.out x9_3 p160 q160
                                    obtain rfl : ad153 = ad160 := (by injection e160)
                                    replace hx160_0 := (HB.out.cell (World.block_lt_of_cell? w _ hx160_0)).trans hx160_0
                                    replace p160 := eq_true p160
                                    replace q160 := eq_true q160
                                    have p165 : 0 ≤ (x9_3 : Int) := of_decide_eq_true (by first | (with_reducible assumption) | assumption)
                                    have q165 : x9_3 < (l2.length : Int) := of_decide_eq_true (by first | (with_reducible assumption) | assumption)
                                    obtain ⟨ad165, e165, hx165_0⟩ := Kd.at_int HR2.out x9_3 p165 q165
                                    obtain rfl : ad153 = ad165 := (by injection e165)
                                    replace hx165_0 := (HB.out.cell (World.block_lt_of_cell? w _ hx165_0)).trans hx165_0
                                    replace p165 := eq_true p165
                                    replace q165 := eq_true q165
                                    have p166 : 0 ≤ (x9_3 : Int) := of_decide_eq_true (by first | (with_reducible assumption) | assumption)
                                    have q166 : x9_3 < (l2.length : Int) := of_decide_eq_true (by first | (with_reducible assumption) | assumption)
                                    obtain ⟨ad166, e166, hx166_0⟩ := Kd.at_int HR2.out x9_3 p166 q166
                                    obtain rfl : ad153 = ad166 := (by injection e166)
                                    replace hx166_0 := (HB.out.cell (World.block_lt_of_cell? w _ hx166_0)).trans hx166_0
                                    replace p166 := eq_true p166
                                    replace q166 := eq_true q166
                                    obtain ⟨Ao91, co91, eo91⟩ := Kd.R_slice HO_7.out
                                    subst eo91
                                    have p167 : 0 ≤ (x9_3 : Int) := of_decide_eq_true (by first | (with_reducible assumption) | assumption)
                                    have q167 : x9_3 < (t132.length : Int) := of_decide_eq_true (by first | (with_reducible assumption) | assumption)
                                    obtain ⟨ad167, e167, hx167_0⟩ := Kd.at_bool (Kd.R_reads' HO_7.out).2.2 x9_3 p167 q167
                                    cases e167
                                    replace p167 := eq_true p167
                                    replace q167 := eq_true q167
                                    go_wp2
                                    all_goals go_ret
                                    all_goals exact ⟨by first | rfl | (simp [errW_none, errW_some] <;> rfl) | (simp [*, errW_none, errW_some] <;> rfl), by repeat (first | (with_reducible first | exact HB.out | apply below_alloc | apply pw_below_drewN | apply below_drew1) | exact HB.out)⟩
                                  · rw [if_neg c90] at H
                                    have c90b0 : ((rdOf false t132 x9_3) != false) = false := by first | (simp; done) | (simp at c90; done) | simpa using c90
                                    (try (have c90b1 : decide ((rdOf false t132 x9_3) = false) = true := by first | (simp; done) | (simp at c90; done) | simpa using c90))
                                    (try (have c90b2 : ((rdOf false t132 x9_3) == false) = true := by first | (simp; done) | (simp at c90; done) | simpa using c90))
                                    clear c90
                                    have H' := Aside0.mk H
                                    clear H
                                    have p153 : 0 ≤ (x9_3 : Int) := of_decide_eq_true (by first | (with_reducible assumption) | assumption)
                                    have q153 : x9_3 < (l2.length : Int) := of_decide_eq_true (by first | (with_reducible assumption) | assumption)
                                    obtain ⟨ad153, e153, hx153_0⟩ := Kd.at_int HR2.out x9_3 p153 q153
                                    cases e153
                                    replace hx153_0 := (HB.out.cell (World.block_lt_of_cell? w _ hx153_0)).trans hx153_0
                                    replace p153 := eq_true p153
                                    replace q153 := eq_true q153
                                    have p160 : 0 ≤ (x9_3 : Int) := of_decide_eq_true (by first | (with_reducible assumption) | assumption)
                                    have q160 : x9_3 < (l2.length : Int) := of_decide_eq_true (by first | (with_reducible assumption) | assumption)
                                    obtain ⟨ad160, e160, hx160_0⟩ := Kd.at_int HR2.out x9_3 p160 q160
                                    obtain rfl : ad153 = ad160 := (by injection e160)
                                    replace hx160_0 := (HB.out.cell (World.block_lt_of_cell? w _ hx160_0)).trans hx160_0
                                    replace p160 := eq_true p160
                                    replace q160 := eq_true q160
                                    have p165 : 0 ≤ (x9_3 : Int) := of_decide_eq_true (by first | (with_reducible assumption) | assumption)
                                    have q165 : x9_3 < (l2.length : Int) := of_decide_eq_true (by first | (with_reducible assumption) | assumption)
                                    obtain ⟨ad165, e165, hx165_0⟩ := Kd.at_int HR2.out x9_3 p165 q165
                                    obtain rfl : ad153 = ad165 := (by injection e165)
                                    replace hx165_0 := (HB.out.cell (World.block_lt_of_cell? w _ hx165_0)).trans hx165_0
                                    replace p165 := eq_true p165
                                    replace q165 := eq_true q165
                                    have p166 : 0 ≤ (x9_3 : Int) := of_decide_eq_true (by first | (with_reducible assumption) | assumption)
                                    have q166 : x9_3 < (l2.length : Int) := of_decide_eq_true (by first | (with_reducible assumption) | assumption)
                                    obtain ⟨ad166, e166, hx166_0⟩ := Kd.at_int HR2.out x9_3 p166 q166
                                    obtain rfl : ad153 = ad166 := (by injection e166)
                                    replace hx166_0 := (HB.out.cell (World.block_lt_of_cell? w _ hx166_0)).trans hx166_0
                                    replace p166 := eq_true p166
                                    replace q166 := eq_true q166
                                    obtain ⟨Ao92, co92, eo92⟩ := Kd.R_slice HO_7.out
                                    subst eo92
                                    have p167 : 0 ≤ (x9_3 : Int) := of_decide_eq_true (by first | (with_reducible assumption) | assumption)
                                    have q167 : x9_3 < (t132.length : Int) := of_decide_eq_true (by first | (with_reducible assumption) | assumption)
                                    obtain ⟨ad167, e167, hx167_0⟩ := Kd.at_bool (Kd.R_reads' HO_7.out).2.2 x9_3 p167 q167
                                    cases e167
                                    replace p167 := eq_true p167
                                    replace q167 := eq_true q167
                                    go_wp2
                                    go_roundg k3
                                    case measure => have := HJ3.out; have := HJ9.out; have := HK3.out; omega
                                    case rel => exact ⟨(wrap64 (x9_3 + 1)), (by first | rfl | (simp; done) | (simp [*]; done)), H', ⟨by have := HJ3.out; have := HJ9.out; have := HK3.out; omega⟩, ⟨by (with_reducible repeat (first | apply Kd.R_alloc | apply Kd.R_drewN | apply Kd.R_drew)); exact HO_7.out⟩, ⟨by repeat (first | (with_reducible first | exact HB.out | apply below_alloc | apply pw_below_drewN | apply below_drew1) | exact HB.out)⟩⟩
                                · rw [if_neg c89] at H
                                  exact absurd H (by simp)
                              · rw [if_neg c88] at H
                                have c88b0 : decide (a1 ≤ (rd l2 x9_3)) = false := decide_eq_false c88
                                clear c88
                                have H' := Aside0.mk H
                                clear H
                                have p153 : 0 ≤ (x9_3 : Int) := of_decide_eq_true (by first | (with_reducible assumption) | assumption)
                                have q153 : x9_3 < (l2.length : Int) := of_decide_eq_true (by first | (with_reducible assumption) | assumption)
                                obtain ⟨ad153, e153, hx153_0⟩ := Kd.at_int HR2.out x9_3 p153 q153
                                cases e153
                                replace hx153_0 := (HB.out.cell (World.block_lt_of_cell? w _ hx153_0)).trans hx153_0
                                replace p153 := eq_true p153
                                replace q153 := eq_true q153
                                have p160 : 0 ≤ (x9_3 : Int) := of_decide_eq_true (by first | (with_reducible assumption) | assumption)
                                have q160 : x9_3 < (l2.length : Int) := of_decide_eq_true (by first | (with_reducible assumption) | assumption)
                                obtain ⟨ad160, e160, hx160_0⟩ := Kd.at_int HR2.out x9_3 p160 q160
                                obtain rfl : ad153 = ad160 := (by injection e160)
                                replace hx160_0 := (HB.out.cell (World.block_lt_of_cell? w _ hx160_0)).trans hx160_0
                                replace p160 := eq_true p160
                                replace q160 := eq_true q160
                                have p165 : 0 ≤ (x9_3 : Int) := of_decide_eq_true (by first | (with_reducible assumption) | assumption)
                                have q165 : x9_3 < (l2.length : Int) := of_decide_eq_true (by first | (with_reducible assumption) | assumption)
                                obtain ⟨ad165, e165, hx165_0⟩ := Kd.at_int HR2.out x9_3 p165 q165
                                obtain rfl : ad153 = ad165 := (by injection e165)
                                replace hx165_0 := (HB.out.cell (World.block_lt_of_cell? w _ hx165_0)).trans hx165_0
                                replace p165 := eq_true p165
                                replace q165 := eq_true q165
                                have p166 : 0 ≤ (x9_3 : Int) := of_decide_eq_true (by first | (with_reducible assumption) | assumption)
                                have q166 : x9_3 < (l2.length : Int) := of_decide_eq_true (by first | (with_reducible assumption) | assumption)
                                obtain ⟨ad166, e166, hx166_0⟩ := Kd.at_int HR2.out x9_3 p166 q166
                                obtain rfl : ad153 = ad166 := (by injection e166)
                                replace hx166_0 := (HB.out.cell (World.block_lt_of_cell? w _ hx166_0)).trans hx166_0
                                replace p166 := eq_true p166
                                replace q166 := eq_true q166
                                go_wp2
                                go_roundg k3
                                case measure => have := HJ3.out; have := HJ9.out; have := HK3.out; omega
                                case rel => exact ⟨(wrap64 (x9_3 + 1)), (by first | rfl | (simp; done) | (simp [*]; done)), H', ⟨by have := HJ3.out; have := HJ9.out; have := HK3.out; omega⟩, ⟨by (with_reducible repeat (first | apply Kd.R_alloc | apply Kd.R_drewN | apply Kd.R_drew)); exact HO_7.out⟩, ⟨by repeat (first | (with_reducible first | exact HB.out | apply below_alloc | apply pw_below_drewN | apply below_drew1) | exact HB.out)⟩⟩
                            · rw [if_neg c87] at H
                              have c87b0 : decide ((rd l2 x9_3) ≤ a0) = false := decide_eq_false c87
                              clear c87
                              have H' := Aside0.mk H
                              clear H
                              have p153 : 0 ≤ (x9_3 : Int) := of_decide_eq_true (by first | (with_reducible assumption) | assumption)
                              have q153 : x9_3 < (l2.length : Int) := of_decide_eq_true (by first | (with_reducible assumption) | assumption)
                              obtain ⟨ad153, e153, hx153_0⟩ := Kd.at_int HR2.out x9_3 p153 q153
                              cases e153
                              replace hx153_0 := (HB.out.cell (World.block_lt_of_cell? w _ hx153_0)).trans hx153_0
                              replace p153 := eq_true p153
                              replace q153 := eq_true q153
                              have p160 : 0 ≤ (x9_3 : Int) := of_decide_eq_true (by first | (with_reducible assumption) | assumption)
                              have q160 : x9_3 < (l2.length : Int) := of_decide_eq_true (by first | (with_reducible assumption) | assumption)
                              obtain ⟨ad160, e160, hx160_0⟩ := Kd.at_int HR2.out x9_3 p160 q160
                              obtain rfl : ad153 = ad160 := (by injection e160)
                              replace hx160_0 := (HB.out.cell (World.block_lt_of_cell? w _ hx160_0)).trans hx160_0
                              replace p160 := eq_true p160
                              replace q160 := eq_true q160
                              have p165 : 0 ≤ (x9_3 : Int) := of_decide_eq_true (by first | (with_reducible assumption) | assumption)
                              have q165 : x9_3 < (l2.length : Int) := of_decide_eq_true (by first | (with_reducible assumption) | assumption)
                              obtain ⟨ad165, e165, hx165_0⟩ := Kd.at_int HR2.out x9_3 p165 q165
                              obtain rfl : ad153 = ad165 := (by injection e165)
                              replace hx165_0 := (HB.out.cell (World.block_lt_of_cell? w _ hx165_0)).trans hx165_0
                              replace p165 := eq_true p165
                              replace q165 := eq_true q165
                              go_wp2
                              go_roundg k3
                              case measure => have := HJ3.out; have := HJ9.out; have := HK3.out; omega
                              case rel => exact ⟨(wrap64 (x9_3 + 1)), (by first | rfl | (simp; done) | (simp [*]; done)), H', ⟨by have := HJ3.out; have := HJ9.out; have := HK3.out; omega⟩, ⟨by (with_reducible repeat (first | apply Kd.R_alloc | apply Kd.R_drewN | apply Kd.R_drew)); exact HO_7.out⟩, ⟨by repeat (first | (with_reducible first | exact HB.out | apply below_alloc | apply pw_below_drewN | apply below_drew1) | exact HB.out)⟩⟩
                      · rw [if_neg c60] at H
                        exact absurd H (by simp)
                  · rw [if_neg c20] at H
                    have c20b0 : decide (x9_3 < (l2.length : Int)) = false := decide_eq_false c20
                    clear c20
                    obtain rfl := Option.some.inj H
                    go_wp2
                    all_goals go_ret
                    all_goals exact ⟨by first | rfl | (simp [errW_none, errW_some] <;> rfl) | (simp [*, errW_none, errW_some] <;> rfl), by repeat (first | (with_reducible first | exact HB.out | apply below_alloc | apply pw_below_drewN | apply below_drew1) | exact HB.out)⟩

/-- THE ONE PURE STATEMENT of cellplanelaw22_ProbeBetween: yours. -/
def cellplanelaw22_ProbeBetween.Pure : Prop := ∀ (a0 : Int) (a1 : Int) (l2 : List Int), (Lit.int .i64 a0).wf = true → (Lit.int .i64 a1).wf = true → l2.length ≤ maxLen → l2.length * 8 ≤ 140737488351232 → (∀ x ∈ l2, (Lit.int .i64 x).wf = true) → ∃ k, cellplanelaw22_ProbeBetween.f k a0 a1 l2 = some true
theorem cellplanelaw22_ProbeBetween.walk (P : cellplanelaw22_ProbeBetween.Pure) (a0 : Int) (a1 : Int) (a2 : Option Addr) (len2 cap2 : Nat) (z2 : List Int) (w : World) (w0 : (Lit.int .i64 a0).wf = true) (w1 : (Lit.int .i64 a1).wf = true) (w2 : (a2 = none ∧ len2 = 0 ∧ cap2 = 0 ∧ z2 = []) ∨ ∃ x, a2 = some x ∧ len2 ≤ cap2 ∧ cap2 ≤ maxLen ∧ z2.length = cap2 ∧ (∀ i, i < z2.length → w.cell? (x.add i) = some (.int .i64 (z2.getD i 0))) ∧ ∀ n ∈ z2, (Lit.int .i64 n).wf = true) (y2 : len2 * 8 ≤ 140737488351232) :
    Calls Try.prog 7 #[.int .i64 a0, .int .i64 a1, .slice a2 len2 cap2] w fun e w' => e = .returned (.bool true) ∧ Below w.heap.size w w' := by
  obtain ⟨l2, rfl, hr2, hm2, hw2, hc2⟩ := ReadsInt.ofRowC w2
  obtain ⟨k, h⟩ := P a0 a1 l2 w0 w1 hm2 y2 hw2
  refine (cellplanelaw22_ProbeBetween.calls k a0 a1 _ _ l2 true w (Kd.C_of_reads (d := (0 : Int)) (h1 := fun _ => rfl) hr2) hc2 h).mono ?_
  rintro e w' ⟨rfl, hd⟩
  exact ⟨rfl, hd⟩

end Go.Proofs.Ytfoaaglcanogpaa.QProbeBetween
