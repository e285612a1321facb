-- Written by a program of this session's own (wip/myprint.sh). Lean checks it.
import Derived.Test.YtgbdabhjcimbbaaQWireShortx0
import Derived.Test.YtgbdabhjcimbbaaQWireShortx1
namespace Go.Proofs.Ytgbdabhjcimbbaa.QWireShort
open Go.RowKit Go.Proofs.YtgbdabhjcimbbaaW.PrintWords Go.Proofs.YtgbdabhjcimbbaaW.PrintLast Go.Proofs.YtgbdabhjcimbbaaW.PrintMore
attribute [local go_sem] max2_int min2_int max_two min_two max_three min_three max_four min_four   -- for this text's walks alone
set_option linter.unusedVariables false
set_option linter.unusedSimpArgs false

/-! ### cellplanelaw01_WireShort: function 6 -/
mutual
def cellplanelaw01_WireShort.j0 : Nat → List Int → Bool → Option (Bool)
  | 0, _, _ => none
  | k + 1, x3, x30 => if x30 = true then (some false) else (cellplanelaw01_WireShort.l0 k x3 0)
def cellplanelaw01_WireShort.l0 : Nat → List Int → Int → Option (Bool)
  | 0, _, _ => none
  | k + 1, x3, x4 => if x4 < (x3.length : Int) then (if 0 ≤ x4 then (if ((decide ((rd x3 x4) < 128)) != (x4 == (wrap64 ((x3.length : Int) - 1)))) = true then (some false) else (cellplanelaw01_WireShort.l0 k x3 (wrap64 (x4 + 1)))) else (none)) else (some true)
end
def cellplanelaw01_WireShort.f (k : Nat) (a0 : Int) : Option (Bool) := (wire_Int.f k ([] : List Int) a0).bind fun t143 => ((cellplanelaw01_awake.f k).bind fun t146 => (if t146 = true then (if (t143.length : Int) < 1 then (cellplanelaw01_WireShort.j0 k t143 true) else (if (t143.length : Int) > 10 then (cellplanelaw01_WireShort.j0 k t143 true) else (if a0 ≥ (-64) then (cellplanelaw01_WireShort.j0 k t143 (((t143.length : Int) == 1) != (decide (a0 ≤ 63)))) else (cellplanelaw01_WireShort.j0 k t143 (((t143.length : Int) == 1) != false))))) else (cellplanelaw01_WireShort.j0 k t143 true)))
theorem cellplanelaw01_WireShort.mono_l : ∀ k, (∀ y0 y1, LeO (cellplanelaw01_WireShort.j0 k y0 y1) (cellplanelaw01_WireShort.j0 (k + 1) y0 y1)) ∧ (∀ y0 y1, LeO (cellplanelaw01_WireShort.l0 k y0 y1) (cellplanelaw01_WireShort.l0 (k + 1) y0 y1))
  | 0 => ⟨fun _ _ r h => by simp [cellplanelaw01_WireShort.j0] at h, fun _ _ r h => by simp [cellplanelaw01_WireShort.l0] at h⟩
  | k + 1 => by
    obtain ⟨ih0, ih1⟩ := cellplanelaw01_WireShort.mono_l k
    refine ⟨?_, ?_⟩
    · intro y0 y1
      unfold cellplanelaw01_WireShort.j0
      repeat' first
      | (with_reducible exact ih0 _ _)
      | (with_reducible exact ih1 _ _)
      | (with_reducible exact cellplanelaw01_awake.mono _)
      | (with_reducible exact wire_Int.mono _ _ _)
      | (with_reducible exact LeO.refl _)
      | (with_reducible exact LeO.none _)
      | (with_reducible refine LeO.ite ?_ ?_)
      | (with_reducible refine LeO.bind ?_ (fun _ => ?_))
      | exact ih0 _ _
      | exact ih1 _ _
      | exact cellplanelaw01_awake.mono _
      | exact wire_Int.mono _ _ _
      | exact LeO.none _
      | refine LeO.ite ?_ ?_
      | refine LeO.bind ?_ (fun _ => ?_)
    · intro y0 y1
      unfold cellplanelaw01_WireShort.l0
      repeat' first
      | (with_reducible exact ih0 _ _)
      | (with_reducible exact ih1 _ _)
      | (with_reducible exact cellplanelaw01_awake.mono _)
      | (with_reducible exact wire_Int.mono _ _ _)
      | (with_reducible exact LeO.refl _)
      | (with_reducible exact LeO.none _)
      | (with_reducible refine LeO.ite ?_ ?_)
      | (with_reducible refine LeO.bind ?_ (fun _ => ?_))
      | exact ih0 _ _
      | exact ih1 _ _
      | exact cellplanelaw01_awake.mono _
      | exact wire_Int.mono _ _ _
      | exact LeO.none _
      | refine LeO.ite ?_ ?_
      | refine LeO.bind ?_ (fun _ => ?_)
theorem cellplanelaw01_WireShort.mono : ∀ a0 k, LeO (cellplanelaw01_WireShort.f k a0) (cellplanelaw01_WireShort.f (k + 1) a0) := by
  intro a0 k
  obtain ⟨ih0, ih1⟩ := cellplanelaw01_WireShort.mono_l k
  unfold cellplanelaw01_WireShort.f
  repeat' first
      | (with_reducible exact ih0 _ _)
      | (with_reducible exact ih1 _ _)
      | (with_reducible exact cellplanelaw01_awake.mono _)
      | (with_reducible exact wire_Int.mono _ _ _)
      | (with_reducible exact LeO.refl _)
      | (with_reducible exact LeO.none _)
      | (with_reducible refine LeO.ite ?_ ?_)
      | (with_reducible refine LeO.bind ?_ (fun _ => ?_))
      | exact ih0 _ _
      | exact ih1 _ _
      | exact cellplanelaw01_awake.mono _
      | exact wire_Int.mono _ _ _
      | exact LeO.none _
      | refine LeO.ite ?_ ?_
      | refine LeO.bind ?_ (fun _ => ?_)
set_option maxHeartbeats 8000000 in
set_option maxRecDepth 100000 in
theorem cellplanelaw01_WireShort.calls (k : Nat) (a0 : Int) (r : Bool) (w : World) (h : cellplanelaw01_WireShort.f k a0 = some r) :
    Calls Try.prog 6 #[.int .i64 a0] w fun e w' => e = .returned (.bool r) ∧ Below w.heap.size w w' := by
  have HB := Aside0.mk (Below.refl w.heap.size w)
  have H : ((wire_Int.f k ([] : List Int) a0).bind fun t143 => ((cellplanelaw01_awake.f k).bind fun t146 => (if t146 = true then (if (t143.length : Int) < 1 then (cellplanelaw01_WireShort.j0 k t143 true) else (if (t143.length : Int) > 10 then (cellplanelaw01_WireShort.j0 k t143 true) else (if a0 ≥ (-64) then (cellplanelaw01_WireShort.j0 k t143 (((t143.length : Int) == 1) != (decide (a0 ≤ 63)))) else (cellplanelaw01_WireShort.j0 k t143 (((t143.length : Int) == 1) != false))))) else (cellplanelaw01_WireShort.j0 k t143 true)))) = some r := h
  clear h
  replace H := Option.bind_eq_some_iff.mp H
  obtain ⟨t143, A20, H⟩ := H
  replace H : ((cellplanelaw01_awake.f k).bind fun t146 => (if t146 = true then (if (t143.length : Int) < 1 then (cellplanelaw01_WireShort.j0 k t143 true) else (if (t143.length : Int) > 10 then (cellplanelaw01_WireShort.j0 k t143 true) else (if a0 ≥ (-64) then (cellplanelaw01_WireShort.j0 k t143 (((t143.length : Int) == 1) != (decide (a0 ≤ 63)))) else (cellplanelaw01_WireShort.j0 k t143 (((t143.length : Int) == 1) != false))))) else (cellplanelaw01_WireShort.j0 k t143 true))) = some r := H
  have A2 := Aside0.mk A20
  clear A20
  have HC3 := Aside0.mk H
  clear H
  go_enter Try.func6, Try.ntmps6
  go_upto_region 2 with (first | ((with_reducible refine gate_callee (f := 15) rfl ?_); refine goesL_ (some 6) rfl rfl Try.func15 (by kernel_rfl) rfl #[.slice none 0 0, .int .i64 a0] rfl (by (try simp only [List.map_toArray, List.map_cons, List.map_nil]); first | done | rfl | (simp only [List.length_drop, List.length_take]; rfl)) ?_; (refine (wire_Int.calls k _ _ ([] : List Int) a0 t143 _ ?side1 ?side2 A2.out).mono ?_); (case side1 => exact Kd.C_nil _ _); (case side2 => exact Nat.le_refl _); rintro e w4 ⟨v144, rfl, ho0, hb⟩; refine ⟨_, rfl, ?_⟩; have n0_ := Aside0.mk (Kd.R_lower ho0 (below_size (by repeat (first | (with_reducible first | exact HB.out | apply below_alloc | apply pw_below_drewN | apply below_drew1) | exact HB.out)))); have n1_ := Aside0.mk (below_step (by repeat (first | (with_reducible first | exact HB.out | apply below_alloc | apply pw_below_drewN | apply below_drew1) | exact HB.out)) hb); clear HB; have HO145 := n0_; have HB := n1_; clear n0_ n1_; (try clear hb); (try clear hb2); (try clear hk); (try clear hi); (try clear ho0)))
  (try simp only [Act.put, List.setIfInBounds_toArray, List.set_cons_zero, List.set_cons_succ])
  go_cut [30] (fun v30 wc => ∃ (kq : Nat) (x30_2 : Bool), v30 = .bool x30_2 ∧ Aside0 (cellplanelaw01_WireShort.j0 kq t143 x30_2 = some r) ∧ Aside0 (kq ≤ k) ∧ Aside0 (Kd.R (Kd.int .u8) 5 wc w.heap.size (fun _ => True) v144 t143) ∧ Aside0 (Below w.heap.size w wc))
  case first =>
    have H := HC3.out
    clear HC3
    replace H := Option.bind_eq_some_iff.mp H
    obtain ⟨t146, A50, H⟩ := H
    replace H : (if t146 = true then (if (t143.length : Int) < 1 then (cellplanelaw01_WireShort.j0 k t143 true) else (if (t143.length : Int) > 10 then (cellplanelaw01_WireShort.j0 k t143 true) else (if a0 ≥ (-64) then (cellplanelaw01_WireShort.j0 k t143 (((t143.length : Int) == 1) != (decide (a0 ≤ 63)))) else (cellplanelaw01_WireShort.j0 k t143 (((t143.length : Int) == 1) != false))))) else (cellplanelaw01_WireShort.j0 k t143 true)) = some r := H
    have A5 := Aside0.mk A50
    clear A50
    by_cases c6 : t146 = true
    · subst c6
      have H1 : (if (t143.length : Int) < 1 then (cellplanelaw01_WireShort.j0 k t143 true) else (if (t143.length : Int) > 10 then (cellplanelaw01_WireShort.j0 k t143 true) else (if a0 ≥ (-64) then (cellplanelaw01_WireShort.j0 k t143 (((t143.length : Int) == 1) != (decide (a0 ≤ 63)))) else (cellplanelaw01_WireShort.j0 k t143 (((t143.length : Int) == 1) != false))))) = some r := by rw [if_pos rfl] at H; exact H
      clear H
      have H := H1
      clear H1
      by_cases c7 : (t143.length : Int) < 1
      · rw [if_pos c7] at H
        have c7b0 : decide ((t143.length : Int) < 1) = true := decide_eq_true c7
        have c7b1 : decide (t143.length < 1) = true := decide_eq_true (by omega)
        clear c7
        (first | rw [c7b0] | (simp only [i64_w, i32_w]; rw [c7b0]) | skip)
        have H' := Aside0.mk H
        clear H
        go_wp2_with (first | ((with_reducible refine gate_callee (f := 13) rfl ?_); refine goesL_ (some 7) rfl rfl Try.func13 (by kernel_rfl) rfl #[] rfl (by (try simp only [List.map_toArray, List.map_cons, List.map_nil]); first | done | rfl | (simp only [List.length_drop, List.length_take]; rfl)) ?_; (with_reducible refine (cellplanelaw01_awake.calls k  true _ A5.out).mono ?_); rintro e w8 ⟨rfl, hb⟩; refine ⟨_, rfl, ?_⟩; have n0_ := Aside0.mk (Kd.R_below (by (with_reducible repeat (first | apply Kd.R_alloc | apply Kd.R_drewN | apply Kd.R_drew)); exact HO145.out) hb); have n1_ := Aside0.mk (below_step (by repeat (first | (with_reducible first | exact HB.out | apply below_alloc | apply pw_below_drewN | apply below_drew1) | exact HB.out)) hb); clear HO145; clear HB; have HO145 := n0_; have HB := n1_; clear n0_ n1_; (try clear hb); (try clear hb2); (try clear hk); (try clear hi); obtain ⟨Ao9, co9, eo9⟩ := Kd.R_slice HO145.out; subst eo9))
        go_meet
        case rel => exact ⟨_, (true), (by first | rfl | (simp; done) | (simp [*]; done)), H', ⟨by first | omega | exact Nat.le_refl _⟩, ⟨by (with_reducible repeat (first | apply Kd.R_alloc | apply Kd.R_drewN | apply Kd.R_drew)); exact HO145.out⟩, ⟨by repeat (first | (with_reducible first | exact HB.out | apply below_alloc | apply pw_below_drewN | apply below_drew1) | exact HB.out)⟩⟩
      · rw [if_neg c7] at H
        have c7b0 : decide ((t143.length : Int) < 1) = false := decide_eq_false c7
        have c7b1 : decide (t143.length < 1) = false := decide_eq_false (by omega)
        clear c7
        (first | rw [c7b0] | (simp only [i64_w, i32_w]; rw [c7b0]) | skip)
        by_cases c10 : (t143.length : Int) > 10
        · rw [if_pos c10] at H
          have c10b0 : decide (10 < (t143.length : Int)) = true := decide_eq_true c10
          have c10b1 : decide (10 < t143.length) = true := decide_eq_true (by omega)
          clear c10
          have H' := Aside0.mk H
          clear H
          go_wp2_with (first | ((with_reducible refine gate_callee (f := 13) rfl ?_); refine goesL_ (some 7) rfl rfl Try.func13 (by kernel_rfl) rfl #[] rfl (by (try simp only [List.map_toArray, List.map_cons, List.map_nil]); first | done | rfl | (simp only [List.length_drop, List.length_take]; rfl)) ?_; (with_reducible refine (cellplanelaw01_awake.calls k  true _ A5.out).mono ?_); rintro e w11 ⟨rfl, hb⟩; refine ⟨_, rfl, ?_⟩; have n0_ := Aside0.mk (Kd.R_below (by (with_reducible repeat (first | apply Kd.R_alloc | apply Kd.R_drewN | apply Kd.R_drew)); exact HO145.out) hb); have n1_ := Aside0.mk (below_step (by repeat (first | (with_reducible first | exact HB.out | apply below_alloc | apply pw_below_drewN | apply below_drew1) | exact HB.out)) hb); clear HO145; clear HB; have HO145 := n0_; have HB := n1_; clear n0_ n1_; (try clear hb); (try clear hb2); (try clear hk); (try clear hi); obtain ⟨Ao12, co12, eo12⟩ := Kd.R_slice HO145.out; subst eo12))
          go_meet
          case rel => exact ⟨_, (true), (by first | rfl | (simp; done) | (simp [*]; done)), H', ⟨by first | omega | exact Nat.le_refl _⟩, ⟨by (with_reducible repeat (first | apply Kd.R_alloc | apply Kd.R_drewN | apply Kd.R_drew)); exact HO145.out⟩, ⟨by repeat (first | (with_reducible first | exact HB.out | apply below_alloc | apply pw_below_drewN | apply below_drew1) | exact HB.out)⟩⟩
        · rw [if_neg c10] at H
          have c10b0 : decide (10 < (t143.length : Int)) = false := decide_eq_false c10
          have c10b1 : decide (10 < t143.length) = false := decide_eq_false (by omega)
          clear c10
          by_cases c13 : a0 ≥ (-64)
          · rw [if_pos c13] at H
            have c13b0 : decide ((-64) ≤ a0) = true := decide_eq_true c13
            clear c13
            have H' := Aside0.mk H
            clear H
            go_wp2_with (first | ((with_reducible refine gate_callee (f := 13) rfl ?_); refine goesL_ (some 7) rfl rfl Try.func13 (by kernel_rfl) rfl #[] rfl (by (try simp only [List.map_toArray, List.map_cons, List.map_nil]); first | done | rfl | (simp only [List.length_drop, List.length_take]; rfl)) ?_; (with_reducible refine (cellplanelaw01_awake.calls k  true _ A5.out).mono ?_); rintro e w14 ⟨rfl, hb⟩; refine ⟨_, rfl, ?_⟩; have n0_ := Aside0.mk (Kd.R_below (by (with_reducible repeat (first | apply Kd.R_alloc | apply Kd.R_drewN | apply Kd.R_drew)); exact HO145.out) hb); have n1_ := Aside0.mk (below_step (by repeat (first | (with_reducible first | exact HB.out | apply below_alloc | apply pw_below_drewN | apply below_drew1) | exact HB.out)) hb); clear HO145; clear HB; have HO145 := n0_; have HB := n1_; clear n0_ n1_; (try clear hb); (try clear hb2); (try clear hk); (try clear hi); obtain ⟨Ao15, co15, eo15⟩ := Kd.R_slice HO145.out; subst eo15))
            go_meet
            case rel => exact ⟨_, ((((t143.length : Int) == 1) != (decide (a0 ≤ 63)))), (by first | rfl | (simp; done) | (simp [*]; done)), H', ⟨by first | omega | exact Nat.le_refl _⟩, ⟨by (with_reducible repeat (first | apply Kd.R_alloc | apply Kd.R_drewN | apply Kd.R_drew)); exact HO145.out⟩, ⟨by repeat (first | (with_reducible first | exact HB.out | apply below_alloc | apply pw_below_drewN | apply below_drew1) | exact HB.out)⟩⟩
          · rw [if_neg c13] at H
            have c13b0 : decide ((-64) ≤ a0) = false := decide_eq_false c13
            clear c13
            have H' := Aside0.mk H
            clear H
            go_wp2_with (first | ((with_reducible refine gate_callee (f := 13) rfl ?_); refine goesL_ (some 7) rfl rfl Try.func13 (by kernel_rfl) rfl #[] rfl (by (try simp only [List.map_toArray, List.map_cons, List.map_nil]); first | done | rfl | (simp only [List.length_drop, List.length_take]; rfl)) ?_; (with_reducible refine (cellplanelaw01_awake.calls k  true _ A5.out).mono ?_); rintro e w16 ⟨rfl, hb⟩; refine ⟨_, rfl, ?_⟩; have n0_ := Aside0.mk (Kd.R_below (by (with_reducible repeat (first | apply Kd.R_alloc | apply Kd.R_drewN | apply Kd.R_drew)); exact HO145.out) hb); have n1_ := Aside0.mk (below_step (by repeat (first | (with_reducible first | exact HB.out | apply below_alloc | apply pw_below_drewN | apply below_drew1) | exact HB.out)) hb); clear HO145; clear HB; have HO145 := n0_; have HB := n1_; clear n0_ n1_; (try clear hb); (try clear hb2); (try clear hk); (try clear hi); obtain ⟨Ao17, co17, eo17⟩ := Kd.R_slice HO145.out; subst eo17))
            go_meet
            case rel => exact ⟨_, ((((t143.length : Int) == 1) != false)), (by first | rfl | (simp; done) | (simp [*]; done)), H', ⟨by first | omega | exact Nat.le_refl _⟩, ⟨by (with_reducible repeat (first | apply Kd.R_alloc | apply Kd.R_drewN | apply Kd.R_drew)); exact HO145.out⟩, ⟨by repeat (first | (with_reducible first | exact HB.out | apply below_alloc | apply pw_below_drewN | apply below_drew1) | exact HB.out)⟩⟩
    · replace c6 := Bool.eq_false_iff.mpr c6
      subst c6
      have H1 : (cellplanelaw01_WireShort.j0 k t143 true) = some r := by rw [if_neg (show ¬ (false = true) by decide)] at H; exact H
      clear H
      have H := H1
      clear H1
      have H' := Aside0.mk H
      clear H
      go_wp2_with (first | ((with_reducible refine gate_callee (f := 13) rfl ?_); refine goesL_ (some 7) rfl rfl Try.func13 (by kernel_rfl) rfl #[] rfl (by (try simp only [List.map_toArray, List.map_cons, List.map_nil]); first | done | rfl | (simp only [List.length_drop, List.length_take]; rfl)) ?_; (with_reducible refine (cellplanelaw01_awake.calls k  false _ A5.out).mono ?_); rintro e w18 ⟨rfl, hb⟩; refine ⟨_, rfl, ?_⟩; have n0_ := Aside0.mk (Kd.R_below (by (with_reducible repeat (first | apply Kd.R_alloc | apply Kd.R_drewN | apply Kd.R_drew)); exact HO145.out) hb); have n1_ := Aside0.mk (below_step (by repeat (first | (with_reducible first | exact HB.out | apply below_alloc | apply pw_below_drewN | apply below_drew1) | exact HB.out)) hb); clear HO145; clear HB; have HO145 := n0_; have HB := n1_; clear n0_ n1_; (try clear hb); (try clear hb2); (try clear hk); (try clear hi)))
      go_meet
      case rel => exact ⟨_, (true), (by first | rfl | (simp; done) | (simp [*]; done)), H', ⟨by first | omega | exact Nat.le_refl _⟩, ⟨by (with_reducible repeat (first | apply Kd.R_alloc | apply Kd.R_drewN | apply Kd.R_drew)); exact HO145.out⟩, ⟨by repeat (first | (with_reducible first | exact HB.out | apply below_alloc | apply pw_below_drewN | apply below_drew1) | exact HB.out)⟩⟩
  case rest =>
    clear HC3
    try clear c1
    try clear p2
    try clear c6
    try clear c7
    try clear c7b0
    try clear c7b1
    try clear c10
    try clear c10b0
    try clear c10b1
    try clear c13
    try clear c13b0
    try clear c15
    obtain ⟨kq, x30_2, rfl, HA, HJ2, HO_3, HB⟩ := hcut
    cases kq with
    | zero => exact absurd HA.out (by simp [cellplanelaw01_WireShort.j0])
    | succ kj2 =>
      have H := HA.out
      clear HA
      simp only [cellplanelaw01_WireShort.j0] at H
      by_cases c19 : x30_2 = true
      · subst c19
        have H1 : (some false) = some r := by rw [if_pos rfl] at H; exact H
        clear H
        have H := H1
        clear H1
        obtain rfl := Option.some.inj H
        go_wp2
        go_ret
        exact ⟨by first | rfl | (simp [errW_none, errW_some] <;> rfl) | (simp [*, errW_none, errW_some] <;> rfl), by repeat (first | (with_reducible first | exact HB.out | apply below_alloc | apply pw_below_drewN | apply below_drew1) | exact HB.out)⟩
      · replace c19 := Bool.eq_false_iff.mpr c19
        subst c19
        have H1 : (cellplanelaw01_WireShort.l0 kj2 t143 0) = some r := by rw [if_neg (show ¬ (false = true) by decide)] at H; exact H
        clear H
        have H := H1
        clear H1
        have H' := Aside0.mk H
        clear H
        go_wp2
        go_loopg [4] kj2 (fun kq v4 w' => ∃ (x4_2 : Int), v4 = .int .i64 x4_2 ∧ Aside0 (cellplanelaw01_WireShort.l0 kq t143 x4_2 = some r) ∧ Aside0 (kq ≤ kj2) ∧ Aside0 (Kd.R (Kd.int .u8) 5 w' w.heap.size (fun _ => True) v144 t143) ∧ Aside0 (Below w.heap.size w w'))
        case atStart => exact ⟨(0), (by first | rfl | (simp; done) | (simp [*]; done)), H', ⟨Nat.le_refl _⟩, ⟨by (with_reducible repeat (first | apply Kd.R_alloc | apply Kd.R_drewN | apply Kd.R_drew)); exact HO_3.out⟩, ⟨by repeat (first | (with_reducible first | exact HB.out | apply below_alloc | apply pw_below_drewN | apply below_drew1) | exact HB.out)⟩⟩
        case round =>
          clear H'
          try clear c1
          try clear p2
          try clear c6
          try clear c7
          try clear c7b0
          try clear c7b1
          try clear c10
          try clear c10b0
          try clear c10b1
          try clear c13
          try clear c13b0
          try clear c15
          try clear c19
          try clear p2
          obtain ⟨x4_2, rfl, HA, HK2, HO_3, HB⟩ := hrel
          cases gk with
          | zero => exact absurd HA.out (by simp [cellplanelaw01_WireShort.l0])
          | succ k2 =>
            have H := HA.out
            clear HA
            simp only [cellplanelaw01_WireShort.l0] at H
            by_cases c20 : x4_2 < (t143.length : Int)
            · rw [if_pos c20] at H
              have c20b0 : decide (x4_2 < (t143.length : Int)) = true := decide_eq_true c20
              clear c20
              by_cases c21 : 0 ≤ x4_2
              · rw [if_pos c21] at H
                have c21b0 : decide (0 ≤ x4_2) = true := decide_eq_true c21
                clear c21
                by_cases c22 : ((decide ((rd t143 x4_2) < 128)) != (x4_2 == (wrap64 ((t143.length : Int) - 1)))) = true
                · rw [if_pos c22] at H
                  have c22b0 : ((decide ((rd t143 x4_2) < 128)) != (x4_2 == (wrap64 ((t143.length : Int) - 1)))) = true := c22
                  (try (have c22b1 : decide ((decide ((rd t143 x4_2) < 128)) = (x4_2 == (wrap64 ((t143.length : Int) - 1)))) = false := by simpa using c22))
                  (try (have c22b2 : ((decide ((rd t143 x4_2) < 128)) == (x4_2 == (wrap64 ((t143.length : Int) - 1)))) = false := by simpa using c22))
                  (try (have c22b3 : ¬ ((decide ((rd t143 x4_2) < 128)) = (x4_2 == (wrap64 ((t143.length : Int) - 1)))) := by simpa using c22))
                  clear c22
                  obtain rfl := Option.some.inj H
                  obtain ⟨Ao23, co23, eo23⟩ := Kd.R_slice HO_3.out
                  subst eo23
                  have p147 : 0 ≤ (x4_2 : Int) := of_decide_eq_true (by first | (with_reducible assumption) | assumption)
                  have q147 : x4_2 < (t143.length : Int) := of_decide_eq_true (by first | (with_reducible assumption) | assumption)
                  obtain ⟨ad147, e147, hx147_0⟩ := Kd.at_int (Kd.R_reads' HO_3.out).2.2 x4_2 p147 q147
                  cases e147
                  replace p147 := eq_true p147
                  replace q147 := eq_true q147
                  go_wp2
                  go_ret
                  exact ⟨by first | rfl | (simp [errW_none, errW_some] <;> rfl) | (simp [*, errW_none, errW_some] <;> rfl), by repeat (first | (with_reducible first | exact HB.out | apply below_alloc | apply pw_below_drewN | apply below_drew1) | exact HB.out)⟩
                · rw [if_neg c22] at H
                  have c22b0 : ((decide ((rd t143 x4_2) < 128)) != (x4_2 == (wrap64 ((t143.length : Int) - 1)))) = false := by simpa using c22
                  (try (have c22b1 : decide ((decide ((rd t143 x4_2) < 128)) = (x4_2 == (wrap64 ((t143.length : Int) - 1)))) = true := by simpa using c22))
                  (try (have c22b2 : ((decide ((rd t143 x4_2) < 128)) == (x4_2 == (wrap64 ((t143.length : Int) - 1)))) = true := by simpa using c22))
                  clear c22
                  have H' := Aside0.mk H
                  clear H
                  obtain ⟨Ao24, co24, eo24⟩ := Kd.R_slice HO_3.out
                  subst eo24
                  have p147 : 0 ≤ (x4_2 : Int) := of_decide_eq_true (by first | (with_reducible assumption) | assumption)
                  have q147 : x4_2 < (t143.length : Int) := of_decide_eq_true (by first | (with_reducible assumption) | assumption)
                  obtain ⟨ad147, e147, hx147_0⟩ := Kd.at_int (Kd.R_reads' HO_3.out).2.2 x4_2 p147 q147
                  cases e147
                  replace p147 := eq_true p147
                  replace q147 := eq_true q147
                  go_wp2
                  go_roundg k2
                  case measure => have := HJ2.out; have := HK2.out; omega
                  case rel => exact ⟨(wrap64 (x4_2 + 1)), (by first | rfl | (simp; done) | (simp [*]; done)), H', ⟨by have := HJ2.out; have := HK2.out; omega⟩, ⟨by (with_reducible repeat (first | apply Kd.R_alloc | apply Kd.R_drewN | apply Kd.R_drew)); exact HO_3.out⟩, ⟨by repeat (first | (with_reducible first | exact HB.out | apply below_alloc | apply pw_below_drewN | apply below_drew1) | exact HB.out)⟩⟩
              · rw [if_neg c21] at H
                exact absurd H (by simp)
            · rw [if_neg c20] at H
              have c20b0 : decide (x4_2 < (t143.length : Int)) = false := decide_eq_false c20
              clear c20
              obtain rfl := Option.some.inj H
              obtain ⟨Ao25, co25, eo25⟩ := Kd.R_slice HO_3.out
              subst eo25
              go_wp2
              go_ret
              exact ⟨by first | rfl | (simp [errW_none, errW_some] <;> rfl) | (simp [*, errW_none, errW_some] <;> rfl), by repeat (first | (with_reducible first | exact HB.out | apply below_alloc | apply pw_below_drewN | apply below_drew1) | exact HB.out)⟩

/-- THE ONE PURE STATEMENT of cellplanelaw01_WireShort: yours. -/
def cellplanelaw01_WireShort.Pure : Prop := ∀ (a0 : Int), (Lit.int .i64 a0).wf = true → ∃ k, cellplanelaw01_WireShort.f k a0 = some true
theorem cellplanelaw01_WireShort.walk (P : cellplanelaw01_WireShort.Pure) (a0 : Int) (w : World) (w0 : (Lit.int .i64 a0).wf = true) :
    Calls Try.prog 6 #[.int .i64 a0] w fun e w' => e = .returned (.bool true) ∧ Below w.heap.size w w' := by
  obtain ⟨k, h⟩ := P a0 w0
  refine (cellplanelaw01_WireShort.calls k a0 true w h).mono ?_
  rintro e w' ⟨rfl, hd⟩
  exact ⟨rfl, hd⟩

end Go.Proofs.Ytgbdabhjcimbbaa.QWireShort
