-- Written by a program of this session's own (wip/myprint.sh). Lean checks it.
import Derived.Test.YtjmbcdbnglconaaQFramePutx0
import Derived.Test.YtjmbcdbnglconaaWide
import Derived.Test.YtjmbcdbnglconaaQFramePutx1
namespace Go.Proofs.Ytjmbcdbnglconaa.QFramePut
open Go.RowKit Go.Proofs.YtjmbcdbnglconaaW.PrintWords Go.Proofs.YtjmbcdbnglconaaW.PrintLast Go.Proofs.YtjmbcdbnglconaaW.PrintMore
attribute [local go_sem] max2_int min2_int max_two min_two max_three min_three max_four min_four   -- for this text's walks alone
set_option linter.unusedVariables false
set_option linter.unusedSimpArgs false

/-! ### frame_number: function 28 -/
def frame_number.l0 : Nat → Int → List Int → Int → Int → Option (Int)
  | 0, _, _, _, _ => none
  | k + 1, x3, x7, x8, x9 => if x9 < x8 then (if 0 ≤ x9 then (if x9 < (x7.length : Int) then (if 0 ≤ (wrap64 (8 * x9)) then (frame_number.l0 k (Go.bits .or .u64 x3 (shl .u64 (IntKind.u64.wrap (rd x7 x9)) (wrap64 (8 * x9)))) x7 x8 (wrap64 (x9 + 1))) else (none)) else (none)) else (none)) else (some x3)
def frame_number.f (k : Nat) (l0 : List Int) : Option (Int) := if 8 ≤ (l0.length : Int) then (frame_number.l0 k 0 (l0.take 8) ((l0.take 8).length : Int) 0) else (none)
theorem frame_number.mono_l : ∀ k, (∀ y0 y1 y2 y3, LeO (frame_number.l0 k y0 y1 y2 y3) (frame_number.l0 (k + 1) y0 y1 y2 y3))
  | 0 => fun _ _ _ _ r h => by simp [frame_number.l0] at h
  | k + 1 => by
    have ih0 := frame_number.mono_l k
    · intro y0 y1 y2 y3
      unfold frame_number.l0
      repeat' first
      | (with_reducible exact ih0 _ _ _ _)
      | (with_reducible exact LeO.refl _)
      | (with_reducible exact LeO.none _)
      | (with_reducible refine LeO.ite ?_ ?_)
      | (with_reducible refine LeO.bind ?_ (fun _ => ?_))
      | exact ih0 _ _ _ _
      | exact LeO.none _
      | refine LeO.ite ?_ ?_
      | refine LeO.bind ?_ (fun _ => ?_)
theorem frame_number.mono : ∀ a0 k, LeO (frame_number.f k a0) (frame_number.f (k + 1) a0) := by
  intro a0 k
  have ih0 := frame_number.mono_l k
  unfold frame_number.f
  repeat' first
      | (with_reducible exact ih0 _ _ _ _)
      | (with_reducible exact LeO.refl _)
      | (with_reducible exact LeO.none _)
      | (with_reducible refine LeO.ite ?_ ?_)
      | (with_reducible refine LeO.bind ?_ (fun _ => ?_))
      | exact ih0 _ _ _ _
      | exact LeO.none _
      | refine LeO.ite ?_ ?_
      | refine LeO.bind ?_ (fun _ => ?_)
set_option maxHeartbeats 8000000 in
set_option maxRecDepth 100000 in
theorem frame_number.calls (k : Nat) (A0 : Option Addr) (c0 : Nat) (l0 : List Int) (r : Int) (w : World) (hr0 : Kd.C (Kd.int .u8) w A0 l0.length l0) (hc0 : l0.length ≤ c0) (h : frame_number.f k l0 = some r) :
    Calls Try.prog 28 #[.slice A0 l0.length c0] w fun e w' => e = .returned (.int .u64 r) ∧ Drawn0 w w' := by
  have HR0 := Aside0.mk hr0
  have HC0 := Aside0.mk hc0
  clear hr0 hc0
  have H : (if 8 ≤ (l0.length : Int) then (frame_number.l0 k 0 (l0.take 8) ((l0.take 8).length : Int) 0) else (none)) = some r := h
  clear h
  by_cases c2 : 8 ≤ (l0.length : Int)
  · rw [if_pos c2] at H
    have c2b0 := eq_true c2
    have c2b1 : decide (8 ≤ (l0.length : Int)) = true := decide_eq_true c2
    clear c2
    have H' := Aside0.mk H
    clear H
    obtain ⟨i03, hi03, _, hsz3, _⟩ := info_parts info5
    obtain ⟨hcut3, hA3, hC3⟩ := print_take_of (P := Try.prog) (Value.int .u8) 0 22 5 .i64 Try.underlying22 hi03 hsz3 A0 c0 l0 8 (by omega) (of_decide_eq_true (by first | (with_reducible assumption) | assumption)) HC0.out
    simp only [show Int.toNat 8 = 8 from rfl] at hcut3 hA3 hC3
    have HR135 := Aside0.mk (Kd.C_of_reads (h1 := fun _ => rfl) (hA3 _ (Kd.reads_of_C HR0.out)))
    have HC135 := Aside0.mk hC3
    clear hA3 hC3 hi03 hsz3
    generalize hq0 : List.take 8 l0 = q0 at hcut3 HR135 HC135 H'
    clear hq0
    go_enter Try.func28, Try.ntmps28
    go_wp2
    go_loopg [3, 9] k (fun kq v3 v9 w' => ∃ (x3_1 : Int) (x9_1 : Int), v3 = .int .u64 x3_1 ∧ v9 = .int .i64 x9_1 ∧ Aside0 (frame_number.l0 kq x3_1 q0 (q0.length : Int) x9_1 = some r) ∧ Aside0 (kq ≤ k) ∧ Drawn0 w w')
    case atStart => exact ⟨(0), (0), (by first | rfl | (simp; done) | (simp [*]; done)), (by first | rfl | (simp; done) | (simp [*]; done)), H', ⟨Nat.le_refl _⟩, by repeat (first | exact Drawn0.refl _ | apply Drawn0.step)⟩
    case round =>
      clear H'
      try clear c2
      try clear c2b0
      try clear c2b1
      try clear p2
      obtain ⟨x3_1, x9_1, rfl, rfl, HA, HK1, ⟨m1, rfl⟩⟩ := hrel
      cases gk with
      | zero => exact absurd HA.out (by simp [frame_number.l0])
      | succ k1 =>
        have H := HA.out
        clear HA
        simp only [frame_number.l0] at H
        by_cases c4 : x9_1 < (q0.length : Int)
        · rw [if_pos c4] at H
          have c4b0 : decide (x9_1 < (q0.length : Int)) = true := decide_eq_true c4
          clear c4
          by_cases c5 : 0 ≤ x9_1
          · rw [if_pos c5] at H
            have c5b0 : decide (0 ≤ x9_1) = true := decide_eq_true c5
            clear c5
            by_cases c6 : x9_1 < (q0.length : Int)
            · rw [if_pos c6] at H
              have c6b0 : decide (x9_1 < (q0.length : Int)) = true := decide_eq_true c6
              clear c6
              obtain ⟨ji7, hji7⟩ : ∃ j_ : Int, (wrap64 (8 * x9_1)) = j_ := ⟨_, rfl⟩
              replace H : (if 0 ≤ (ji7) then (frame_number.l0 k1 (Go.bits .or .u64 x3_1 (shl .u64 (IntKind.u64.wrap (rd q0 x9_1)) (ji7))) q0 (q0.length : Int) (wrap64 (x9_1 + 1))) else (none)) = some r := by first | (rw [hji7] at H; exact H) | (simp only [hji7] at H ⊢; exact H)
              have hji7w : (IntKind.i64.wrap (8 * x9_1)) = ji7 := (i64_w _).trans hji7
              by_cases c8 : 0 ≤ (ji7)
              · rw [if_pos c8] at H
                have c8b0 := eq_true c8
                have c8b1 : decide (0 ≤ (ji7)) = true := decide_eq_true c8
                clear c8
                obtain ⟨ji9, hji9⟩ : ∃ j_ : Int, (shl .u64 (IntKind.u64.wrap (rd q0 x9_1)) (ji7)) = j_ := ⟨_, rfl⟩
                replace H : (frame_number.l0 k1 (Go.bits .or .u64 x3_1 (ji9)) q0 (q0.length : Int) (wrap64 (x9_1 + 1))) = some r := by first | (rw [hji9] at H; exact H) | (simp only [hji9] at H ⊢; exact H)
                have hji9_ : (IntKind.u64.wrap ((IntKind.u64.wrap (rd q0 x9_1)) * 2 ^ min (ji7).toNat 64)) = ji9 := hji9
                have hji9z : (ji7) ≤ 64 → (IntKind.u64.wrap ((IntKind.u64.wrap (rd q0 x9_1)) * 2 ^ (ji7).toNat)) = ji9 := shl_small hji9
                have H' := Aside0.mk H
                clear H
                have p136 : 0 ≤ (x9_1 : Int) := of_decide_eq_true (by first | (with_reducible assumption) | assumption)
                have q136 : x9_1 < (q0.length : Int) := of_decide_eq_true (by first | (with_reducible assumption) | assumption)
                obtain ⟨ad136, e136, hx136_0⟩ := Kd.at_int HR135.out x9_1 p136 q136
                cases e136
                replace p136 := eq_true p136
                replace q136 := eq_true q136
                go_wp2
                go_roundg k1
                case measure => have := HK1.out; omega
                case rel => exact ⟨(Go.bits .or .u64 x3_1 (ji9)), (wrap64 (x9_1 + 1)), (by first | rfl | (simp; done) | (simp only [← hji9] <;> (first | rfl | simp)) | (simp [*]; done)), (by first | rfl | (simp; done) | (simp [*]; done)), H', ⟨by have := HK1.out; omega⟩, by repeat (first | exact Drawn0.refl _ | apply Drawn0.step)⟩
              · rw [if_neg c8] at H
                exact absurd H (by simp)
            · rw [if_neg c6] at H
              exact absurd H (by simp)
          · rw [if_neg c5] at H
            exact absurd H (by simp)
        · rw [if_neg c4] at H
          have c4b0 : decide (x9_1 < (q0.length : Int)) = false := decide_eq_false c4
          clear c4
          obtain rfl := Option.some.inj H
          go_wp2
          go_ret
          exact ⟨by first | rfl | (simp; done) | (simp [*]; done), by repeat (first | exact Drawn0.refl _ | apply Drawn0.step)⟩
  · rw [if_neg c2] at H
    exact absurd H (by simp)

/-! ### frame_Take: function 15 -/
def frame_Take.f (k : Nat) (l0 : List Int) (a1 : Int) : Option (List Int × Int × Int) := (wire_TakeInt.f k l0).bind fun bt137 => (if bt137.2.2 = 0 then (if bt137.1 < 0 then (some (([] : List Int), 0, 18)) else (if bt137.1 > 65536 then (some (([] : List Int), 0, 2)) else (if (wrap64 ((l0.length : Int) - bt137.2.1)) < (wrap64 (8 + bt137.1)) then (some (([] : List Int), 0, 17)) else (if 0 ≤ (wrap64 (bt137.2.1 + 8)) then (if (wrap64 (bt137.2.1 + 8)) ≤ (wrap64 ((wrap64 (bt137.2.1 + 8)) + bt137.1)) then (if (wrap64 ((wrap64 (bt137.2.1 + 8)) + bt137.1)) ≤ (l0.length : Int) then (if 0 ≤ bt137.2.1 then (if bt137.2.1 ≤ (l0.length : Int) then ((frame_number.f k (l0.drop (bt137.2.1 : Int).toNat)).bind fun t142 => ((digest_Sum.f k a1 ((l0.take ((wrap64 ((wrap64 (bt137.2.1 + 8)) + bt137.1)) : Int).toNat).drop ((wrap64 (bt137.2.1 + 8)) : Int).toNat)).bind fun t143 => (if t142 = t143 then (if ([] : List Int).length + ((l0.take ((wrap64 ((wrap64 (bt137.2.1 + 8)) + bt137.1)) : Int).toNat).drop ((wrap64 (bt137.2.1 + 8)) : Int).toNat).length < 225179981368000 then (some ((([] : List Int) ++ ((l0.take ((wrap64 ((wrap64 (bt137.2.1 + 8)) + bt137.1)) : Int).toNat).drop ((wrap64 (bt137.2.1 + 8)) : Int).toNat)), wrap64 ((wrap64 (bt137.2.1 + 8)) + bt137.1), 0)) else (none)) else (some (([] : List Int), 0, 18))))) else (none)) else (none)) else (none)) else (none)) else (none))))) else (some (([] : List Int), 0, bt137.2.2)))
theorem frame_Take.mono : ∀ a0 a1 k, LeO (frame_Take.f k a0 a1) (frame_Take.f (k + 1) a0 a1) := by
  intro a0 a1 k
  unfold frame_Take.f
  repeat' first
      | (with_reducible exact digest_Sum.mono _ _ _)
      | (with_reducible exact frame_number.mono _ _)
      | (with_reducible exact wire_TakeInt.mono _ _)
      | (with_reducible exact LeO.refl _)
      | (with_reducible exact LeO.none _)
      | (with_reducible refine LeO.ite ?_ ?_)
      | (with_reducible refine LeO.bind ?_ (fun _ => ?_))
      | exact digest_Sum.mono _ _ _
      | exact frame_number.mono _ _
      | exact wire_TakeInt.mono _ _
      | exact LeO.none _
      | refine LeO.ite ?_ ?_
      | refine LeO.bind ?_ (fun _ => ?_)
set_option maxHeartbeats 8000000 in
set_option maxRecDepth 100000 in
theorem frame_Take.calls (k : Nat) (A0 : Option Addr) (c0 : Nat) (l0 : List Int) (a1 : Int) (r1 : List Int) (r2 : Int) (r3 : Int) (w : World) (hr0 : Kd.C (Kd.int .u8) w A0 l0.length l0) (hc0 : l0.length ≤ c0) (h : frame_Take.f k l0 a1 = some (r1, r2, r3)) :
    Calls Try.prog 15 #[.slice A0 l0.length c0, .int .i64 a1] w fun e w' => ∃ v0_ : Value, e = .returned (.tuple #[v0_, .int .i64 r2, .int .i64 r3]) ∧ Kd.R (Kd.int .u8) 5 w' w.heap.size (fun _ => True) v0_ r1 ∧ Below w.heap.size w w' := by
  have HR0 := Aside0.mk hr0
  have HC0 := Aside0.mk hc0
  clear hr0 hc0
  have HB := Aside0.mk (Below.refl w.heap.size w)
  have H : ((wire_TakeInt.f k l0).bind fun bt137 => (if bt137.2.2 = 0 then (if bt137.1 < 0 then (some (([] : List Int), 0, 18)) else (if bt137.1 > 65536 then (some (([] : List Int), 0, 2)) else (if (wrap64 ((l0.length : Int) - bt137.2.1)) < (wrap64 (8 + bt137.1)) then (some (([] : List Int), 0, 17)) else (if 0 ≤ (wrap64 (bt137.2.1 + 8)) then (if (wrap64 (bt137.2.1 + 8)) ≤ (wrap64 ((wrap64 (bt137.2.1 + 8)) + bt137.1)) then (if (wrap64 ((wrap64 (bt137.2.1 + 8)) + bt137.1)) ≤ (l0.length : Int) then (if 0 ≤ bt137.2.1 then (if bt137.2.1 ≤ (l0.length : Int) then ((frame_number.f k (l0.drop (bt137.2.1 : Int).toNat)).bind fun t142 => ((digest_Sum.f k a1 ((l0.take ((wrap64 ((wrap64 (bt137.2.1 + 8)) + bt137.1)) : Int).toNat).drop ((wrap64 (bt137.2.1 + 8)) : Int).toNat)).bind fun t143 => (if t142 = t143 then (if ([] : List Int).length + ((l0.take ((wrap64 ((wrap64 (bt137.2.1 + 8)) + bt137.1)) : Int).toNat).drop ((wrap64 (bt137.2.1 + 8)) : Int).toNat).length < 225179981368000 then (some ((([] : List Int) ++ ((l0.take ((wrap64 ((wrap64 (bt137.2.1 + 8)) + bt137.1)) : Int).toNat).drop ((wrap64 (bt137.2.1 + 8)) : Int).toNat)), wrap64 ((wrap64 (bt137.2.1 + 8)) + bt137.1), 0)) else (none)) else (some (([] : List Int), 0, 18))))) else (none)) else (none)) else (none)) else (none)) else (none))))) else (some (([] : List Int), 0, bt137.2.2)))) = some (r1, r2, r3) := h
  clear h
  replace H := Option.bind_eq_some_iff.mp H
  obtain ⟨⟨t137, t138, t139⟩, A30, H⟩ := H
  replace H : (if t139 = 0 then (if t137 < 0 then (some (([] : List Int), 0, 18)) else (if t137 > 65536 then (some (([] : List Int), 0, 2)) else (if (wrap64 ((l0.length : Int) - t138)) < (wrap64 (8 + t137)) then (some (([] : List Int), 0, 17)) else (if 0 ≤ (wrap64 (t138 + 8)) then (if (wrap64 (t138 + 8)) ≤ (wrap64 ((wrap64 (t138 + 8)) + t137)) then (if (wrap64 ((wrap64 (t138 + 8)) + t137)) ≤ (l0.length : Int) then (if 0 ≤ t138 then (if t138 ≤ (l0.length : Int) then ((frame_number.f k (l0.drop (t138 : Int).toNat)).bind fun t142 => ((digest_Sum.f k a1 ((l0.take ((wrap64 ((wrap64 (t138 + 8)) + t137)) : Int).toNat).drop ((wrap64 (t138 + 8)) : Int).toNat)).bind fun t143 => (if t142 = t143 then (if ([] : List Int).length + ((l0.take ((wrap64 ((wrap64 (t138 + 8)) + t137)) : Int).toNat).drop ((wrap64 (t138 + 8)) : Int).toNat).length < 225179981368000 then (some ((([] : List Int) ++ ((l0.take ((wrap64 ((wrap64 (t138 + 8)) + t137)) : Int).toNat).drop ((wrap64 (t138 + 8)) : Int).toNat)), wrap64 ((wrap64 (t138 + 8)) + t137), 0)) else (none)) else (some (([] : List Int), 0, 18))))) else (none)) else (none)) else (none)) else (none)) else (none))))) else (some (([] : List Int), 0, t139))) = some (r1, r2, r3) := H
  have A3 := Aside0.mk A30
  clear A30
  by_cases c4 : t139 = 0
  · rw [if_pos c4] at H
    have c4b0 : (t139 == 0) = true := beq_iff_eq.mpr c4
    have c4b1 : (t139 != 0) = false := bne_eq_false_iff_eq.mpr c4
    clear c4
    by_cases c5 : t137 < 0
    · rw [if_pos c5] at H
      have c5b0 : decide (t137 < 0) = true := decide_eq_true c5
      clear c5
      simp only [Option.some.injEq, Prod.mk.injEq] at H
      obtain ⟨rfl, rfl, rfl⟩ := H
      go_enter Try.func15, Try.ntmps15
      go_wp2_with (first | ((with_reducible refine gate_callee (f := 27) rfl ?_); refine goesL_ (some 14) rfl rfl Try.func27 (by kernel_rfl) rfl #[.slice A0 l0.length c0] rfl (by (try simp only [List.map_toArray, List.map_cons, List.map_nil]); first | done | rfl | (simp only [List.length_drop, List.length_take]; rfl)) ?_; (with_reducible refine (wire_TakeInt.calls k _ _ l0 t137 t138 t139 _ ?side1 ?side2 A3.out).mono ?_); (case side1 => repeat (first | exact HR0.out | (with_reducible refine Kd.C_alloc ?_ _) | (with_reducible refine Kd.C_drewN ?_ _) | (with_reducible refine Kd.C_drew ?_))); (case side2 => exact HC0.out); rintro e w' ⟨rfl, ⟨nd, rfl⟩⟩; refine ⟨_, rfl, ?_⟩))
      go_ret3
      exact ⟨_, by first | rfl | (simp [errW_none, errW_some] <;> rfl) | (simp [*, errW_none, errW_some] <;> rfl), by first | exact Kd.R_nil _ _ _ _ _ | exact Kd.N_nil _ _ _ _ _ | exact Kd.V_nil _ _ _ _ _ | exact Kd.Q_nil _ _ _ _ _ | exact Kd.S_nil _ _ _ _ _, by repeat (first | (with_reducible first | exact HB.out | apply below_alloc | apply pw_below_drewN | apply below_drew1) | exact HB.out)⟩
    · rw [if_neg c5] at H
      have c5b0 : decide (t137 < 0) = false := decide_eq_false c5
      clear c5
      by_cases c6 : t137 > 65536
      · rw [if_pos c6] at H
        have c6b0 : decide (65536 < t137) = true := decide_eq_true c6
        clear c6
        simp only [Option.some.injEq, Prod.mk.injEq] at H
        obtain ⟨rfl, rfl, rfl⟩ := H
        go_enter Try.func15, Try.ntmps15
        go_wp2_with (first | ((with_reducible refine gate_callee (f := 27) rfl ?_); refine goesL_ (some 14) rfl rfl Try.func27 (by kernel_rfl) rfl #[.slice A0 l0.length c0] rfl (by (try simp only [List.map_toArray, List.map_cons, List.map_nil]); first | done | rfl | (simp only [List.length_drop, List.length_take]; rfl)) ?_; (with_reducible refine (wire_TakeInt.calls k _ _ l0 t137 t138 t139 _ ?side1 ?side2 A3.out).mono ?_); (case side1 => repeat (first | exact HR0.out | (with_reducible refine Kd.C_alloc ?_ _) | (with_reducible refine Kd.C_drewN ?_ _) | (with_reducible refine Kd.C_drew ?_))); (case side2 => exact HC0.out); rintro e w' ⟨rfl, ⟨nd, rfl⟩⟩; refine ⟨_, rfl, ?_⟩))
        go_ret3
        exact ⟨_, by first | rfl | (simp [errW_none, errW_some] <;> rfl) | (simp [*, errW_none, errW_some] <;> rfl), by first | exact Kd.R_nil _ _ _ _ _ | exact Kd.N_nil _ _ _ _ _ | exact Kd.V_nil _ _ _ _ _ | exact Kd.Q_nil _ _ _ _ _ | exact Kd.S_nil _ _ _ _ _, by repeat (first | (with_reducible first | exact HB.out | apply below_alloc | apply pw_below_drewN | apply below_drew1) | exact HB.out)⟩
      · rw [if_neg c6] at H
        have c6b0 : decide (65536 < t137) = false := decide_eq_false c6
        clear c6
        by_cases c7 : (wrap64 ((l0.length : Int) - t138)) < (wrap64 (8 + t137))
        · rw [if_pos c7] at H
          have c7b0 : decide ((wrap64 ((l0.length : Int) - t138)) < (wrap64 (8 + t137))) = true := decide_eq_true c7
          clear c7
          simp only [Option.some.injEq, Prod.mk.injEq] at H
          obtain ⟨rfl, rfl, rfl⟩ := H
          go_enter Try.func15, Try.ntmps15
          go_wp2_with (first | ((with_reducible refine gate_callee (f := 27) rfl ?_); refine goesL_ (some 14) rfl rfl Try.func27 (by kernel_rfl) rfl #[.slice A0 l0.length c0] rfl (by (try simp only [List.map_toArray, List.map_cons, List.map_nil]); first | done | rfl | (simp only [List.length_drop, List.length_take]; rfl)) ?_; (with_reducible refine (wire_TakeInt.calls k _ _ l0 t137 t138 t139 _ ?side1 ?side2 A3.out).mono ?_); (case side1 => repeat (first | exact HR0.out | (with_reducible refine Kd.C_alloc ?_ _) | (with_reducible refine Kd.C_drewN ?_ _) | (with_reducible refine Kd.C_drew ?_))); (case side2 => exact HC0.out); rintro e w' ⟨rfl, ⟨nd, rfl⟩⟩; refine ⟨_, rfl, ?_⟩))
          go_ret3
          exact ⟨_, by first | rfl | (simp [errW_none, errW_some] <;> rfl) | (simp [*, errW_none, errW_some] <;> rfl), by first | exact Kd.R_nil _ _ _ _ _ | exact Kd.N_nil _ _ _ _ _ | exact Kd.V_nil _ _ _ _ _ | exact Kd.Q_nil _ _ _ _ _ | exact Kd.S_nil _ _ _ _ _, by repeat (first | (with_reducible first | exact HB.out | apply below_alloc | apply pw_below_drewN | apply below_drew1) | exact HB.out)⟩
        · rw [if_neg c7] at H
          have c7b0 : decide ((wrap64 ((l0.length : Int) - t138)) < (wrap64 (8 + t137))) = false := decide_eq_false c7
          clear c7
          obtain ⟨ji8, hji8⟩ : ∃ j_ : Int, (wrap64 (t138 + 8)) = j_ := ⟨_, rfl⟩
          replace H : (if 0 ≤ (ji8) then (if (ji8) ≤ (wrap64 ((ji8) + t137)) then (if (wrap64 ((ji8) + t137)) ≤ (l0.length : Int) then (if 0 ≤ t138 then (if t138 ≤ (l0.length : Int) then ((frame_number.f k (l0.drop (t138 : Int).toNat)).bind fun t142 => ((digest_Sum.f k a1 ((l0.take ((wrap64 ((ji8) + t137)) : Int).toNat).drop ((ji8) : Int).toNat)).bind fun t143 => (if t142 = t143 then (if ([] : List Int).length + ((l0.take ((wrap64 ((ji8) + t137)) : Int).toNat).drop ((ji8) : Int).toNat).length < 225179981368000 then (some ((([] : List Int) ++ ((l0.take ((wrap64 ((ji8) + t137)) : Int).toNat).drop ((ji8) : Int).toNat)), wrap64 ((ji8) + t137), 0)) else (none)) else (some (([] : List Int), 0, 18))))) else (none)) else (none)) else (none)) else (none)) else (none)) = some (r1, r2, r3) := by first | (rw [hji8] at H; exact H) | (simp only [hji8] at H ⊢; exact H)
          (try rw [hji8] at A3)
          have hji8w : (IntKind.i64.wrap (t138 + 8)) = ji8 := (i64_w _).trans hji8
          by_cases c9 : 0 ≤ (ji8)
          · rw [if_pos c9] at H
            have c9b0 := eq_true c9
            have c9b1 : decide (0 ≤ (ji8)) = true := decide_eq_true c9
            clear c9
            by_cases c10 : (ji8) ≤ (wrap64 ((ji8) + t137))
            · rw [if_pos c10] at H
              have c10b0 := eq_true c10
              have c10b1 : decide ((ji8) ≤ (wrap64 ((ji8) + t137))) = true := decide_eq_true c10
              by_cases c11 : (wrap64 ((ji8) + t137)) ≤ (l0.length : Int)
              · rw [if_pos c11] at H
                have c11b0 := eq_true c11
                have c11b1 : decide ((wrap64 ((ji8) + t137)) ≤ (l0.length : Int)) = true := decide_eq_true c11
                by_cases c12 : 0 ≤ t138
                · rw [if_pos c12] at H
                  have c12b0 := eq_true c12
                  have c12b1 : decide (0 ≤ t138) = true := decide_eq_true c12
                  clear c12
                  by_cases c13 : t138 ≤ (l0.length : Int)
                  · rw [if_pos c13] at H
                    have c13b0 := eq_true c13
                    have c13b1 : decide (t138 ≤ (l0.length : Int)) = true := decide_eq_true c13
                    clear c13
                    replace H := Option.bind_eq_some_iff.mp H
                    obtain ⟨t142, A140, H⟩ := H
                    replace H : ((digest_Sum.f k a1 ((l0.take ((wrap64 ((ji8) + t137)) : Int).toNat).drop ((ji8) : Int).toNat)).bind fun t143 => (if t142 = t143 then (if ([] : List Int).length + ((l0.take ((wrap64 ((ji8) + t137)) : Int).toNat).drop ((ji8) : Int).toNat).length < 225179981368000 then (some ((([] : List Int) ++ ((l0.take ((wrap64 ((ji8) + t137)) : Int).toNat).drop ((ji8) : Int).toNat)), wrap64 ((ji8) + t137), 0)) else (none)) else (some (([] : List Int), 0, 18)))) = some (r1, r2, r3) := H
                    have A14 := Aside0.mk A140
                    clear A140
                    replace H := Option.bind_eq_some_iff.mp H
                    obtain ⟨t143, A150, H⟩ := H
                    replace H : (if t142 = t143 then (if ([] : List Int).length + ((l0.take ((wrap64 ((ji8) + t137)) : Int).toNat).drop ((ji8) : Int).toNat).length < 225179981368000 then (some ((([] : List Int) ++ ((l0.take ((wrap64 ((ji8) + t137)) : Int).toNat).drop ((ji8) : Int).toNat)), wrap64 ((ji8) + t137), 0)) else (none)) else (some (([] : List Int), 0, 18))) = some (r1, r2, r3) := H
                    have A15 := Aside0.mk A150
                    clear A150
                    by_cases c16 : t142 = t143
                    · rw [if_pos c16] at H
                      have c16b0 : (t142 == t143) = true := beq_iff_eq.mpr c16
                      have c16b1 : (t142 != t143) = false := bne_eq_false_iff_eq.mpr c16
                      clear c16
                      by_cases c17 : ([] : List Int).length + ((l0.take ((wrap64 ((ji8) + t137)) : Int).toNat).drop ((ji8) : Int).toNat).length < 225179981368000
                      · rw [if_pos c17] at H
                        have LMc17 := Aside0.mk c17
                        clear c17
                        obtain ⟨y144, hy144⟩ : ∃ y_ : List Int, y_ = (([] : List Int) ++ ((l0.take ((wrap64 ((ji8) + t137)) : Int).toNat).drop ((ji8) : Int).toNat)) := ⟨_, rfl⟩
                        replace H : (some (y144, wrap64 ((ji8) + t137), 0)) = some (r1, r2, r3) := by first | (rw [hy144]; with_reducible exact H) | (have H2_ := (Option.bind_some _ _).symm.trans H; rw [hy144]; with_reducible exact H2_) | (have H2_ := (Option.bind_some _ _).symm.trans H; with_reducible exact H2_) | with_reducible exact H | (rw [hy144]; exact H) | exact H
                        have Ny144 := Aside0.mk hy144
                        clear hy144
                        simp only [Option.some.injEq, Prod.mk.injEq] at H
                        obtain ⟨rfl, rfl, rfl⟩ := H
                        go_enter Try.func15, Try.ntmps15
                        go_wp2_with (first | ((with_reducible refine gate_callee (f := 27) rfl ?_); refine goesL_ (some 14) rfl rfl Try.func27 (by kernel_rfl) rfl #[.slice A0 l0.length c0] rfl (by (try simp only [List.map_toArray, List.map_cons, List.map_nil]); first | done | rfl | (simp only [List.length_drop, List.length_take]; rfl)) ?_; (with_reducible refine (wire_TakeInt.calls k _ _ l0 t137 t138 t139 _ ?side1 ?side2 A3.out).mono ?_); (case side1 => repeat (first | exact HR0.out | (with_reducible refine Kd.C_alloc ?_ _) | (with_reducible refine Kd.C_drewN ?_ _) | (with_reducible refine Kd.C_drew ?_))); (case side2 => exact HC0.out); rintro e w' ⟨rfl, ⟨nd, rfl⟩⟩; refine ⟨_, rfl, ?_⟩; obtain ⟨i018, hi018, _, hsz18, _⟩ := info_parts info5; obtain ⟨A18, hcut18, hA18, hC18⟩ := print_mid_of (P := Try.prog) (Value.int .u8) 0 22 5 .i64 .i64 Try.underlying22 hi018 hsz18 A0 c0 l0 (ji8) (wrap64 ((ji8) + t137)) (of_decide_eq_true (by first | (with_reducible assumption) | assumption)) (by first | omega | exact of_decide_eq_true (by first | (with_reducible assumption) | assumption)) (of_decide_eq_true (by first | (with_reducible assumption) | assumption)) HC0.out; have HR140 := Aside0.mk (Kd.C_of_reads (h1 := fun _ => rfl) (hA18 _ (Kd.reads_of_C HR0.out))); have HC140 := Aside0.mk hC18; clear hA18 hC18 hi018 hsz18; obtain ⟨i019, hi019, _, hsz19, _⟩ := info_parts info5; obtain ⟨A19, hcut19, hA19, hC19⟩ := print_drop_of (P := Try.prog) (Value.int .u8) 0 22 5 .i64 Try.underlying22 hi019 hsz19 A0 c0 l0 t138 (of_decide_eq_true (by first | (with_reducible assumption) | assumption)) (of_decide_eq_true (by first | (with_reducible assumption) | assumption)) HC0.out; have HR141 := Aside0.mk (Kd.C_of_reads (h1 := fun _ => rfl) (hA19 _ (Kd.reads_of_C HR0.out))); have HC141 := Aside0.mk hC19; clear hA19 hC19 hi019 hsz19) | ((with_reducible refine gate_callee (f := 28) rfl ?_); refine goesL_ (some 48) rfl rfl Try.func28 (by kernel_rfl) rfl #[.slice A19 (l0.drop (t138 : Int).toNat).length (c0 - t138.toNat)] rfl (by (try simp only [List.map_toArray, List.map_cons, List.map_nil]); first | done | (rw [show (l0.drop (t138 : Int).toNat).length = (l0.length - t138.toNat) from List.length_drop] <;> rfl) | rfl | (simp only [List.length_drop, List.length_take]; rfl)) ?_; (with_reducible refine (frame_number.calls k _ _ (l0.drop (t138 : Int).toNat) t142 _ ?side1 ?side2 A14.out).mono ?_); (case side1 => repeat (first | exact HR141.out | (with_reducible refine Kd.C_alloc ?_ _) | (with_reducible refine Kd.C_drewN ?_ _) | (with_reducible refine Kd.C_drew ?_))); (case side2 => exact HC141.out); rintro e w' ⟨rfl, ⟨nd, rfl⟩⟩; refine ⟨_, rfl, ?_⟩) | ((with_reducible refine gate_callee (f := 23) rfl ?_); refine goesL_ (some 51) rfl rfl Try.func23 (by kernel_rfl) rfl #[.int .i64 a1, .slice A18 ((l0.take ((wrap64 ((ji8) + t137)) : Int).toNat).drop ((ji8) : Int).toNat).length (c0 - (ji8).toNat)] rfl (by (try simp only [List.map_toArray, List.map_cons, List.map_nil]); first | done | (rw [show ((l0.take ((wrap64 ((ji8) + t137)) : Int).toNat).drop ((ji8) : Int).toNat).length = ((wrap64 ((ji8) + t137)).toNat - (ji8).toNat) from (by rw [List.length_drop, List.length_take]; have h_ : ((wrap64 ((ji8) + t137)) : Int) ≤ (l0.length : Int) := of_decide_eq_true (by first | (with_reducible assumption) | assumption); omega)] <;> rfl) | (simp only [hji8]; rfl) | rfl | (simp only [List.length_drop, List.length_take]; rfl)) ?_; (with_reducible refine (digest_Sum.calls k a1 _ _ ((l0.take ((wrap64 ((ji8) + t137)) : Int).toNat).drop ((ji8) : Int).toNat) t143 _ ?side1 ?side2 A15.out).mono ?_); (case side1 => repeat (first | exact HR140.out | (with_reducible refine Kd.C_alloc ?_ _) | (with_reducible refine Kd.C_drewN ?_ _) | (with_reducible refine Kd.C_drew ?_))); (case side2 => exact HC140.out); rintro e w' ⟨rfl, ⟨nd, rfl⟩⟩; refine ⟨_, rfl, ?_⟩) | ((with_reducible refine gate_builtin (b := .append) (xs := #[.const (.slice none 0 0), .tmp 53]) rfl ?_); at_builtin; refine Kd.R_append_rows_w (Kd.int .u8) (w0 := w) w.heap.size rfl (.const (.slice none 0 0)) (.tmp 53) 22 5 (.int .u8 0) 1 rfl Try.underlying22 info5 rfl (by decide) (by omega) (.slice none 0 0) ([] : List Int) ((l0.take ((wrap64 ((ji8) + t137)) : Int).toNat).drop ((ji8) : Int).toNat) _ _ _ (fun _ => True) (fun _ => False) rfl rfl ?aO ?aR (fun _ _ h => h) (fun _ h => h.elim) ?aF ?aB ?aS ?aL ?_; (case aR => first | (rw [← show ((l0.take ((wrap64 ((ji8) + t137)) : Int).toNat).drop ((ji8) : Int).toNat).length = ((wrap64 ((ji8) + t137)).toNat - (ji8).toNat) from (by rw [List.length_drop, List.length_take]; have h_ : ((wrap64 ((ji8) + t137)) : Int) ≤ (l0.length : Int) := of_decide_eq_true (by first | (with_reducible assumption) | assumption); omega)]; repeat (first | exact HR140.out | (with_reducible refine Kd.C_alloc ?_ _) | (with_reducible refine Kd.C_drewN ?_ _) | (with_reducible refine Kd.C_drew ?_))) | (repeat (first | exact HR140.out | (with_reducible refine Kd.C_alloc ?_ _) | (with_reducible refine Kd.C_drewN ?_ _) | (with_reducible refine Kd.C_drew ?_)))); (case aB => exact (by repeat (first | (with_reducible first | exact HB.out | apply below_alloc | apply pw_below_drewN | apply below_drew1) | exact HB.out))); (case aF => exact (fun _ _ => trivial)); (case aO => exact ((Kd.R_nil _ _ _ _ (fun _ => True)))); (case aS => exact (below_size (by repeat (first | (with_reducible first | exact HB.out | apply below_alloc | apply pw_below_drewN | apply below_drew1) | exact HB.out)))); (case aL => have := LMc17.out; have hlx_ := (show ((l0.take ((wrap64 ((ji8) + t137)) : Int).toNat).drop ((ji8) : Int).toNat).length = ((wrap64 ((ji8) + t137)).toNat - (ji8).toNat) from (by rw [List.length_drop, List.length_take]; have h_ : ((wrap64 ((ji8) + t137)) : Int) ≤ (l0.length : Int) := of_decide_eq_true (by first | (with_reducible assumption) | assumption); omega)); omega); intro v145 w20 ho hb hg hat; rw [← Ny144.out] at ho; have n0_ := Aside0.mk (hb); have n1_ := Aside0.mk (ho); clear HB; have HB := n0_; have HO146 := n1_; clear n0_ n1_; clear ho hb hg hat))
                        go_ret3
                        exact ⟨_, by first | rfl | (simp [errW_none, errW_some] <;> rfl) | (simp only [← hji8]; first | rfl | (simp [errW_none, errW_some] <;> rfl)) | (simp [*, errW_none, errW_some] <;> rfl), by (with_reducible repeat (first | apply Kd.R_alloc | apply Kd.R_drewN | apply Kd.R_drew)); exact HO146.out, by repeat (first | (with_reducible first | exact HB.out | apply below_alloc | apply pw_below_drewN | apply below_drew1) | exact HB.out)⟩
                      · rw [if_neg c17] at H
                        exact absurd H (by simp)
                    · rw [if_neg c16] at H
                      have c16b0 : (t142 == t143) = false := beq_eq_false_iff_ne.mpr c16
                      have c16b1 : (t142 != t143) = true := bne_iff_ne.mpr c16
                      simp only [Option.some.injEq, Prod.mk.injEq] at H
                      obtain ⟨rfl, rfl, rfl⟩ := H
                      go_enter Try.func15, Try.ntmps15
                      go_wp2_with (first | ((with_reducible refine gate_callee (f := 27) rfl ?_); refine goesL_ (some 14) rfl rfl Try.func27 (by kernel_rfl) rfl #[.slice A0 l0.length c0] rfl (by (try simp only [List.map_toArray, List.map_cons, List.map_nil]); first | done | rfl | (simp only [List.length_drop, List.length_take]; rfl)) ?_; (with_reducible refine (wire_TakeInt.calls k _ _ l0 t137 t138 t139 _ ?side1 ?side2 A3.out).mono ?_); (case side1 => repeat (first | exact HR0.out | (with_reducible refine Kd.C_alloc ?_ _) | (with_reducible refine Kd.C_drewN ?_ _) | (with_reducible refine Kd.C_drew ?_))); (case side2 => exact HC0.out); rintro e w' ⟨rfl, ⟨nd, rfl⟩⟩; refine ⟨_, rfl, ?_⟩; obtain ⟨i021, hi021, _, hsz21, _⟩ := info_parts info5; obtain ⟨A21, hcut21, hA21, hC21⟩ := print_mid_of (P := Try.prog) (Value.int .u8) 0 22 5 .i64 .i64 Try.underlying22 hi021 hsz21 A0 c0 l0 (ji8) (wrap64 ((ji8) + t137)) (of_decide_eq_true (by first | (with_reducible assumption) | assumption)) (by first | omega | exact of_decide_eq_true (by first | (with_reducible assumption) | assumption)) (of_decide_eq_true (by first | (with_reducible assumption) | assumption)) HC0.out; have HR140 := Aside0.mk (Kd.C_of_reads (h1 := fun _ => rfl) (hA21 _ (Kd.reads_of_C HR0.out))); have HC140 := Aside0.mk hC21; clear hA21 hC21 hi021 hsz21; obtain ⟨i022, hi022, _, hsz22, _⟩ := info_parts info5; obtain ⟨A22, hcut22, hA22, hC22⟩ := print_drop_of (P := Try.prog) (Value.int .u8) 0 22 5 .i64 Try.underlying22 hi022 hsz22 A0 c0 l0 t138 (of_decide_eq_true (by first | (with_reducible assumption) | assumption)) (of_decide_eq_true (by first | (with_reducible assumption) | assumption)) HC0.out; have HR141 := Aside0.mk (Kd.C_of_reads (h1 := fun _ => rfl) (hA22 _ (Kd.reads_of_C HR0.out))); have HC141 := Aside0.mk hC22; clear hA22 hC22 hi022 hsz22) | ((with_reducible refine gate_callee (f := 28) rfl ?_); refine goesL_ (some 48) rfl rfl Try.func28 (by kernel_rfl) rfl #[.slice A22 (l0.drop (t138 : Int).toNat).length (c0 - t138.toNat)] rfl (by (try simp only [List.map_toArray, List.map_cons, List.map_nil]); first | done | (rw [show (l0.drop (t138 : Int).toNat).length = (l0.length - t138.toNat) from List.length_drop] <;> rfl) | rfl | (simp only [List.length_drop, List.length_take]; rfl)) ?_; (with_reducible refine (frame_number.calls k _ _ (l0.drop (t138 : Int).toNat) t142 _ ?side1 ?side2 A14.out).mono ?_); (case side1 => repeat (first | exact HR141.out | (with_reducible refine Kd.C_alloc ?_ _) | (with_reducible refine Kd.C_drewN ?_ _) | (with_reducible refine Kd.C_drew ?_))); (case side2 => exact HC141.out); rintro e w' ⟨rfl, ⟨nd, rfl⟩⟩; refine ⟨_, rfl, ?_⟩) | ((with_reducible refine gate_callee (f := 23) rfl ?_); refine goesL_ (some 51) rfl rfl Try.func23 (by kernel_rfl) rfl #[.int .i64 a1, .slice A21 ((l0.take ((wrap64 ((ji8) + t137)) : Int).toNat).drop ((ji8) : Int).toNat).length (c0 - (ji8).toNat)] rfl (by (try simp only [List.map_toArray, List.map_cons, List.map_nil]); first | done | (rw [show ((l0.take ((wrap64 ((ji8) + t137)) : Int).toNat).drop ((ji8) : Int).toNat).length = ((wrap64 ((ji8) + t137)).toNat - (ji8).toNat) from (by rw [List.length_drop, List.length_take]; have h_ : ((wrap64 ((ji8) + t137)) : Int) ≤ (l0.length : Int) := of_decide_eq_true (by first | (with_reducible assumption) | assumption); omega)] <;> rfl) | (simp only [hji8]; rfl) | rfl | (simp only [List.length_drop, List.length_take]; rfl)) ?_; (with_reducible refine (digest_Sum.calls k a1 _ _ ((l0.take ((wrap64 ((ji8) + t137)) : Int).toNat).drop ((ji8) : Int).toNat) t143 _ ?side1 ?side2 A15.out).mono ?_); (case side1 => repeat (first | exact HR140.out | (with_reducible refine Kd.C_alloc ?_ _) | (with_reducible refine Kd.C_drewN ?_ _) | (with_reducible refine Kd.C_drew ?_))); (case side2 => exact HC140.out); rintro e w' ⟨rfl, ⟨nd, rfl⟩⟩; refine ⟨_, rfl, ?_⟩))
                      go_ret3
                      exact ⟨_, by first | rfl | (simp [errW_none, errW_some] <;> rfl) | (simp only [← hji8]; first | rfl | (simp [errW_none, errW_some] <;> rfl)) | (simp [*, errW_none, errW_some] <;> rfl), by first | exact Kd.R_nil _ _ _ _ _ | exact Kd.N_nil _ _ _ _ _ | exact Kd.V_nil _ _ _ _ _ | exact Kd.Q_nil _ _ _ _ _ | exact Kd.S_nil _ _ _ _ _, by repeat (first | (with_reducible first | exact HB.out | apply below_alloc | apply pw_below_drewN | apply below_drew1) | exact HB.out)⟩
                  · rw [if_neg c13] at H
                    exact absurd H (by simp)
                · rw [if_neg c12] at H
                  exact absurd H (by simp)
              · rw [if_neg c11] at H
                exact absurd H (by simp)
            · rw [if_neg c10] at H
              exact absurd H (by simp)
          · rw [if_neg c9] at H
            exact absurd H (by simp)
  · rw [if_neg c4] at H
    have c4b0 : (t139 == 0) = false := beq_eq_false_iff_ne.mpr c4
    have c4b1 : (t139 != 0) = true := bne_iff_ne.mpr c4
    simp only [Option.some.injEq, Prod.mk.injEq] at H
    obtain ⟨rfl, rfl, rfl⟩ := H
    go_enter Try.func15, Try.ntmps15
    go_wp2_with (first | ((with_reducible refine gate_callee (f := 27) rfl ?_); refine goesL_ (some 14) rfl rfl Try.func27 (by kernel_rfl) rfl #[.slice A0 l0.length c0] rfl (by (try simp only [List.map_toArray, List.map_cons, List.map_nil]); first | done | rfl | (simp only [List.length_drop, List.length_take]; rfl)) ?_; (with_reducible refine (wire_TakeInt.calls k _ _ l0 t137 t138 t139 _ ?side1 ?side2 A3.out).mono ?_); (case side1 => repeat (first | exact HR0.out | (with_reducible refine Kd.C_alloc ?_ _) | (with_reducible refine Kd.C_drewN ?_ _) | (with_reducible refine Kd.C_drew ?_))); (case side2 => exact HC0.out); rintro e w' ⟨rfl, ⟨nd, rfl⟩⟩; refine ⟨_, rfl, ?_⟩))
    go_ret3
    exact ⟨_, by first | rfl | (simp [errW_none, errW_some] <;> rfl) | (simp [*, errW_none, errW_some] <;> rfl), by first | exact Kd.R_nil _ _ _ _ _ | exact Kd.N_nil _ _ _ _ _ | exact Kd.V_nil _ _ _ _ _ | exact Kd.Q_nil _ _ _ _ _ | exact Kd.S_nil _ _ _ _ _, by repeat (first | (with_reducible first | exact HB.out | apply below_alloc | apply pw_below_drewN | apply below_drew1) | exact HB.out)⟩

/-! ### cellplanelaw03_awake: function 11 -/
def cellplanelaw03_awake.f (k : Nat)  : Option (Bool) := (frame_Put.f k ([] : List Int) 5 (([7] : List Int))).bind fun t150 => ((frame_Take.f k t150 5).bind fun bt153 => (if 0 ≤ (mx (wrap64 ((t150.length : Int) - 1)) 0) then (if (mx (wrap64 ((t150.length : Int) - 1)) 0) ≤ (t150.length : Int) then ((frame_Take.f k (t150.take ((mx (wrap64 ((t150.length : Int) - 1)) 0) : Int).toNat) 5).bind fun bt162 => (if (t150.length : Int) = 10 then (if bt153.2.1 = 10 then (if bt153.2.2 = 0 then (if (bt153.1.length : Int) = 1 then (if 0 < (bt153.1.length : Int) then (if (rd bt153.1 0) = 7 then (some (bt162.2.2 == 17)) else (some false)) else (none)) else (some false)) else (some false)) else (some false)) else (some false))) else (none)) else (none)))
theorem cellplanelaw03_awake.mono : ∀ k, LeO (cellplanelaw03_awake.f k ) (cellplanelaw03_awake.f (k + 1) ) := by
  intro  k
  unfold cellplanelaw03_awake.f
  repeat' first
      | (with_reducible exact frame_Put.mono _ _ _ _)
      | (with_reducible exact frame_Take.mono _ _ _)
      | (with_reducible exact LeO.refl _)
      | (with_reducible exact LeO.none _)
      | (with_reducible refine LeO.ite ?_ ?_)
      | (with_reducible refine LeO.bind ?_ (fun _ => ?_))
      | exact frame_Put.mono _ _ _ _
      | exact frame_Take.mono _ _ _
      | exact LeO.none _
      | refine LeO.ite ?_ ?_
      | refine LeO.bind ?_ (fun _ => ?_)
set_option maxHeartbeats 8000000 in
set_option maxRecDepth 100000 in
theorem cellplanelaw03_awake.calls (k : Nat)  (r : Bool) (w : World) (h : cellplanelaw03_awake.f k  = some r) :
    Calls Try.prog 11 #[] w fun e w' => e = .returned (.bool r) ∧ Below w.heap.size w w' := by
  have HB := Aside0.mk (Below.refl w.heap.size w)
  have H : ((frame_Put.f k ([] : List Int) 5 (([7] : List Int))).bind fun t150 => ((frame_Take.f k t150 5).bind fun bt153 => (if 0 ≤ (mx (wrap64 ((t150.length : Int) - 1)) 0) then (if (mx (wrap64 ((t150.length : Int) - 1)) 0) ≤ (t150.length : Int) then ((frame_Take.f k (t150.take ((mx (wrap64 ((t150.length : Int) - 1)) 0) : Int).toNat) 5).bind fun bt162 => (if (t150.length : Int) = 10 then (if bt153.2.1 = 10 then (if bt153.2.2 = 0 then (if (bt153.1.length : Int) = 1 then (if 0 < (bt153.1.length : Int) then (if (rd bt153.1 0) = 7 then (some (bt162.2.2 == 17)) else (some false)) else (none)) else (some false)) else (some false)) else (some false)) else (some false))) else (none)) else (none)))) = some r := h
  clear h
  obtain ⟨y147, hy147⟩ : ∃ y_ : List Int, y_ = (([7] : List Int)) := ⟨_, rfl⟩
  replace H : ((frame_Put.f k ([] : List Int) 5 y147).bind fun t150 => ((frame_Take.f k t150 5).bind fun bt153 => (if 0 ≤ (mx (wrap64 ((t150.length : Int) - 1)) 0) then (if (mx (wrap64 ((t150.length : Int) - 1)) 0) ≤ (t150.length : Int) then ((frame_Take.f k (t150.take ((mx (wrap64 ((t150.length : Int) - 1)) 0) : Int).toNat) 5).bind fun bt162 => (if (t150.length : Int) = 10 then (if bt153.2.1 = 10 then (if bt153.2.2 = 0 then (if (bt153.1.length : Int) = 1 then (if 0 < (bt153.1.length : Int) then (if (rd bt153.1 0) = 7 then (some (bt162.2.2 == 17)) else (some false)) else (none)) else (some false)) else (some false)) else (some false)) else (some false))) else (none)) else (none)))) = some r := by first | (rw [hy147]; with_reducible exact H) | (have H2_ := (Option.bind_some _ _).symm.trans H; rw [hy147]; with_reducible exact H2_) | (have H2_ := (Option.bind_some _ _).symm.trans H; with_reducible exact H2_) | with_reducible exact H | (rw [hy147]; exact H) | exact H
  have Ny147 := Aside0.mk hy147
  clear hy147
  replace H := Option.bind_eq_some_iff.mp H
  obtain ⟨t150, A10, H⟩ := H
  replace H : ((frame_Take.f k t150 5).bind fun bt153 => (if 0 ≤ (mx (wrap64 ((t150.length : Int) - 1)) 0) then (if (mx (wrap64 ((t150.length : Int) - 1)) 0) ≤ (t150.length : Int) then ((frame_Take.f k (t150.take ((mx (wrap64 ((t150.length : Int) - 1)) 0) : Int).toNat) 5).bind fun bt162 => (if (t150.length : Int) = 10 then (if bt153.2.1 = 10 then (if bt153.2.2 = 0 then (if (bt153.1.length : Int) = 1 then (if 0 < (bt153.1.length : Int) then (if (rd bt153.1 0) = 7 then (some (bt162.2.2 == 17)) else (some false)) else (none)) else (some false)) else (some false)) else (some false)) else (some false))) else (none)) else (none))) = some r := H
  have A1 := Aside0.mk A10
  clear A10
  replace H := Option.bind_eq_some_iff.mp H
  obtain ⟨⟨t153, t154, t155⟩, A20, H⟩ := H
  replace H : (if 0 ≤ (mx (wrap64 ((t150.length : Int) - 1)) 0) then (if (mx (wrap64 ((t150.length : Int) - 1)) 0) ≤ (t150.length : Int) then ((frame_Take.f k (t150.take ((mx (wrap64 ((t150.length : Int) - 1)) 0) : Int).toNat) 5).bind fun bt162 => (if (t150.length : Int) = 10 then (if t154 = 10 then (if t155 = 0 then (if (t153.length : Int) = 1 then (if 0 < (t153.length : Int) then (if (rd t153 0) = 7 then (some (bt162.2.2 == 17)) else (some false)) else (none)) else (some false)) else (some false)) else (some false)) else (some false))) else (none)) else (none)) = some r := H
  have A2 := Aside0.mk A20
  clear A20
  obtain ⟨ji3, hji3⟩ : ∃ j_ : Int, (mx (wrap64 ((t150.length : Int) - 1)) 0) = j_ := ⟨_, rfl⟩
  replace H : (if 0 ≤ (ji3) then (if (ji3) ≤ (t150.length : Int) then ((frame_Take.f k (t150.take ((ji3) : Int).toNat) 5).bind fun bt162 => (if (t150.length : Int) = 10 then (if t154 = 10 then (if t155 = 0 then (if (t153.length : Int) = 1 then (if 0 < (t153.length : Int) then (if (rd t153 0) = 7 then (some (bt162.2.2 == 17)) else (some false)) else (none)) else (some false)) else (some false)) else (some false)) else (some false))) else (none)) else (none)) = some r := by first | (rw [hji3] at H; exact H) | (simp only [hji3] at H ⊢; exact H)
  (try rw [hji3] at A1)
  (try rw [hji3] at A2)
  (try (have hji3l : 0 ≤ ji3 := by (rw [← hji3]; unfold mx; (repeat' split) <;> omega)))
  (try (have hji3m : 0 ≤ ji3 := by omega))
  have hji3_ : (if (wrap64 ((t150.length : Int) - 1)) < 0 then 0 else (wrap64 ((t150.length : Int) - 1))) = ji3 := hji3
  by_cases c4 : 0 ≤ (ji3)
  · rw [if_pos c4] at H
    have c4b0 := eq_true c4
    have c4b1 : decide (0 ≤ (ji3)) = true := decide_eq_true c4
    clear c4
    by_cases c5 : (ji3) ≤ (t150.length : Int)
    · rw [if_pos c5] at H
      have c5b0 := eq_true c5
      have c5b1 : decide ((ji3) ≤ (t150.length : Int)) = true := decide_eq_true c5
      clear c5
      obtain ⟨y158, hy158⟩ : ∃ y_ : List Int, y_ = (t150.take ((ji3) : Int).toNat) := ⟨_, rfl⟩
      replace H : ((frame_Take.f k y158 5).bind fun bt162 => (if (t150.length : Int) = 10 then (if t154 = 10 then (if t155 = 0 then (if (t153.length : Int) = 1 then (if 0 < (t153.length : Int) then (if (rd t153 0) = 7 then (some (bt162.2.2 == 17)) else (some false)) else (none)) else (some false)) else (some false)) else (some false)) else (some false))) = some r := by first | (rw [hy158]; with_reducible exact H) | (have H2_ := (Option.bind_some _ _).symm.trans H; rw [hy158]; with_reducible exact H2_) | (have H2_ := (Option.bind_some _ _).symm.trans H; with_reducible exact H2_) | with_reducible exact H | (rw [hy158]; exact H) | exact H
      have Ny158 := Aside0.mk hy158
      clear hy158
      replace H := Option.bind_eq_some_iff.mp H
      obtain ⟨⟨t162, t163, t164⟩, A60, H⟩ := H
      replace H : (if (t150.length : Int) = 10 then (if t154 = 10 then (if t155 = 0 then (if (t153.length : Int) = 1 then (if 0 < (t153.length : Int) then (if (rd t153 0) = 7 then (some (t164 == 17)) else (some false)) else (none)) else (some false)) else (some false)) else (some false)) else (some false)) = some r := H
      have A6 := Aside0.mk A60
      clear A60
      by_cases c7 : (t150.length : Int) = 10
      · rw [if_pos c7] at H
        have c7b0 : ((t150.length : Int) == 10) = true := beq_iff_eq.mpr c7
        have c7b1 : ((t150.length : Int) != 10) = false := bne_eq_false_iff_eq.mpr c7
        clear c7
        by_cases c8 : t154 = 10
        · rw [if_pos c8] at H
          have c8b0 : (t154 == 10) = true := beq_iff_eq.mpr c8
          have c8b1 : (t154 != 10) = false := bne_eq_false_iff_eq.mpr c8
          clear c8
          by_cases c9 : t155 = 0
          · rw [if_pos c9] at H
            have c9b0 : (t155 == 0) = true := beq_iff_eq.mpr c9
            have c9b1 : (t155 != 0) = false := bne_eq_false_iff_eq.mpr c9
            clear c9
            by_cases c10 : (t153.length : Int) = 1
            · rw [if_pos c10] at H
              have c10b0 : ((t153.length : Int) == 1) = true := beq_iff_eq.mpr c10
              have c10b1 : ((t153.length : Int) != 1) = false := bne_eq_false_iff_eq.mpr c10
              clear c10
              by_cases c11 : 0 < (t153.length : Int)
              · rw [if_pos c11] at H
                have c11b0 : decide (0 < (t153.length : Int)) = true := decide_eq_true c11
                have c11b1 : decide (0 < t153.length) = true := decide_eq_true (by omega)
                clear c11
                by_cases c12 : (rd t153 0) = 7
                · rw [if_pos c12] at H
                  have c12b0 : ((rd t153 0) == 7) = true := beq_iff_eq.mpr c12
                  have c12b1 : ((rd t153 0) != 7) = false := bne_eq_false_iff_eq.mpr c12
                  clear c12
                  obtain rfl := Option.some.inj H
                  go_enter Try.func11, Try.ntmps11
                  go_wp2_with (first | ((with_reducible refine gate_dst (N := 8) rfl ?_); (try (refine gate_guard (by rfl) ?_; dsimp only)); refine Kd.R_lit (Kd.int .u8) _ 5 ?hg (N := 8) ?hd (xs := ([7] : List Int)) (inner := [.int .u8 7]) (ok := fun _ => True) (okp := fun _ => True) ?hr ?hp (fun _ hk => hk) trivial (Below.refl _ _) (Nat.le_refl _) (by simp) ?_; (case hd => rfl); (case hg => rfl); (case hr => first | (go_simp; done) | (go_simp; rfl)); (case hp => exact (Reps.one (show Kd.M (Kd.int .u8) _ _ _ 7 [.int .u8 7] from rfl) (Reps.none _ _))); intro v148 w13 ho14 hb hg_ hnew_; clear hg_ hnew_; (first | rw [← Ny147.out] at ho14 | (simp only [Int.reduceToNat] at ho14; rw [← Ny147.out] at ho14)); have n0_ := Aside0.mk (Kd.R_lower ho14 (below_size (by repeat (first | (with_reducible first | exact HB.out | apply below_alloc | apply pw_below_drewN | apply below_drew1) | exact HB.out)))); have n1_ := Aside0.mk (below_step (by repeat (first | (with_reducible first | exact HB.out | apply below_alloc | apply pw_below_drewN | apply below_drew1) | exact HB.out)) hb); clear HB; have HO149 := n0_; have HB := n1_; clear n0_ n1_; clear hb ho14; obtain ⟨Ao15, co15, eo15⟩ := Kd.R_slice HO149.out; subst eo15) | ((with_reducible refine gate_callee (f := 13) rfl ?_); refine goesL_ (some 9) rfl rfl Try.func13 (by kernel_rfl) rfl #[.slice none 0 0, .int .i64 5, .slice Ao15 y147.length co15] rfl (by (try simp only [List.map_toArray, List.map_cons, List.map_nil]); first | done | rfl | (simp only [List.length_drop, List.length_take]; rfl)) ?_; (refine (frame_Put.calls k _ _ ([] : List Int) 5 _ _ y147 t150 _ ?side1 ?side2 ?side3 ?side4 A1.out).mono ?_); (case side1 => exact Kd.C_nil _ _); (case side2 => exact Nat.le_refl _); (case side3 => repeat (first | exact (Kd.R_reads' HO149.out).2.2 | (with_reducible refine Kd.C_alloc ?_ _) | (with_reducible refine Kd.C_drewN ?_ _) | (with_reducible refine Kd.C_drew ?_))); (case side4 => exact (Kd.R_reads' HO149.out).2.1); rintro e w16 ⟨v151, rfl, ho0, hb⟩; refine ⟨_, rfl, ?_⟩; have n0_ := Aside0.mk (Kd.R_elder' (by (with_reducible repeat (first | apply Kd.R_alloc | apply Kd.R_drewN | apply Kd.R_drew)); exact HO149.out) (Kd.R_base ho0) hb); have n1_ := Aside0.mk (Kd.R_lower (Kd.R_new' ho0 (Kd.R_lt (by (with_reducible repeat (first | apply Kd.R_alloc | apply Kd.R_drewN | apply Kd.R_drew)); exact HO149.out))) (below_size (by repeat (first | (with_reducible first | exact HB.out | apply below_alloc | apply pw_below_drewN | apply below_drew1) | exact HB.out)))); have n2_ := Aside0.mk (below_step (by repeat (first | (with_reducible first | exact HB.out | apply below_alloc | apply pw_below_drewN | apply below_drew1) | exact HB.out)) hb); clear HO149; clear HB; have HO149 := n0_; have HO152 := n1_; have HB := n2_; clear n0_ n1_ n2_; (try clear hb); (try clear hb2); (try clear hk); (try clear hi); (try clear ho0); obtain ⟨Ao17, co17, eo17⟩ := Kd.R_slice HO152.out; subst eo17) | ((with_reducible refine gate_callee (f := 15) rfl ?_); refine goesL_ (some 12) rfl rfl Try.func15 (by kernel_rfl) rfl #[.slice Ao17 t150.length co17, .int .i64 5] rfl (by (try simp only [List.map_toArray, List.map_cons, List.map_nil]); first | done | rfl | (simp only [List.length_drop, List.length_take]; rfl)) ?_; (with_reducible refine (frame_Take.calls k _ _ t150 5 t153 t154 t155 _ ?side1 ?side2 A2.out).mono ?_); (case side1 => repeat (first | exact (Kd.R_reads' HO152.out).2.2 | (with_reducible refine Kd.C_alloc ?_ _) | (with_reducible refine Kd.C_drewN ?_ _) | (with_reducible refine Kd.C_drew ?_))); (case side2 => exact (Kd.R_reads' HO152.out).2.1); rintro e w18 ⟨v156, rfl, ho0, hb⟩; refine ⟨_, rfl, ?_⟩; have n0_ := Aside0.mk (Kd.R_elder' (by (with_reducible repeat (first | apply Kd.R_alloc | apply Kd.R_drewN | apply Kd.R_drew)); exact HO149.out) (Kd.R_base ho0) hb); have n1_ := Aside0.mk (Kd.R_elder' (by (with_reducible repeat (first | apply Kd.R_alloc | apply Kd.R_drewN | apply Kd.R_drew)); exact HO152.out) (Kd.R_base ho0) hb); have n2_ := Aside0.mk (Kd.R_lower (Kd.R_new' (Kd.R_new' ho0 (Kd.R_lt (by (with_reducible repeat (first | apply Kd.R_alloc | apply Kd.R_drewN | apply Kd.R_drew)); exact HO149.out))) (Kd.R_lt (by (with_reducible repeat (first | apply Kd.R_alloc | apply Kd.R_drewN | apply Kd.R_drew)); exact HO152.out))) (below_size (by repeat (first | (with_reducible first | exact HB.out | apply below_alloc | apply pw_below_drewN | apply below_drew1) | exact HB.out)))); have n3_ := Aside0.mk (below_step (by repeat (first | (with_reducible first | exact HB.out | apply below_alloc | apply pw_below_drewN | apply below_drew1) | exact HB.out)) hb); clear HO149; clear HO152; clear HB; have HO149 := n0_; have HO152 := n1_; have HO157 := n2_; have HB := n3_; clear n0_ n1_ n2_ n3_; (try clear hb); (try clear hb2); (try clear hk); (try clear hi); (try clear ho0); have q19 : ((ji3) : Int) ≤ ((t150.length : Int) : Int) := of_decide_eq_true (by first | (with_reducible assumption) | assumption); obtain ⟨i019, hi019, _, hsz19, _⟩ := info_parts info5; have hroom19 : t150.length ≤ co17 := (Kd.R_reads' HO152.out).2.1; have hC19 : Kd.C (Kd.int .u8) _ Ao17 t150.length t150 := (Kd.R_reads' HO152.out).2.2; have hcut19 := cut_to (P := Try.prog) 22 5 .i64 Try.underlying22 hi019 Ao17 t150.length co17 (ji3) (of_decide_eq_true (by first | (with_reducible assumption) | assumption)) q19 hroom19; have hr19 := Kd.C_take (m := ((ji3) : Int).toNat) hC19 (by omega); have hy19 : y158.length = ((ji3) : Int).toNat := (by rw [Ny158.out, List.length_take]; omega); rw [← Ny158.out] at hr19; rw [← hy19] at hcut19; have HR161 := Aside0.mk hr19; have HC161 := Aside0.mk (show y158.length ≤ co17 from by omega); clear hr19 hC19 hroom19 hi019 hsz19; have KY19 := Aside0.mk hy19; clear hy19; have KL19 := Aside0.mk (show ((ji3) : Int).toNat ≤ t150.length from by omega); replace q19 := eq_true q19) | ((with_reducible refine gate_callee (f := 15) rfl ?_); refine goesL_ (some 23) rfl rfl Try.func15 (by kernel_rfl) rfl #[.slice Ao17 y158.length co17, .int .i64 5] rfl (by (try simp only [List.map_toArray, List.map_cons, List.map_nil]); first | done | rfl | (simp only [List.length_drop, List.length_take]; rfl)) ?_; (with_reducible refine (frame_Take.calls k _ _ y158 5 t162 t163 t164 _ ?side1 ?side2 A6.out).mono ?_); (case side1 => repeat (first | exact (by repeat (first | (with_reducible exact HR161.out) | (with_reducible refine Kd.C_alloc ?_ _) | (with_reducible refine Kd.C_drewN ?_ _) | (with_reducible refine Kd.C_drew ?_) | exact HR161.out)) | (with_reducible refine Kd.C_alloc ?_ _) | (with_reducible refine Kd.C_drewN ?_ _) | (with_reducible refine Kd.C_drew ?_))); (case side2 => exact HC161.out); rintro e w20 ⟨v165, rfl, ho0, hb⟩; refine ⟨_, rfl, ?_⟩; have n0_ := Aside0.mk (Kd.R_elder' (by (with_reducible repeat (first | apply Kd.R_alloc | apply Kd.R_drewN | apply Kd.R_drew)); exact HO149.out) (Kd.R_base ho0) hb); have n1_ := Aside0.mk (Kd.R_elder' (by (with_reducible repeat (first | apply Kd.R_alloc | apply Kd.R_drewN | apply Kd.R_drew)); exact HO152.out) (Kd.R_base ho0) hb); have n2_ := Aside0.mk (Kd.R_elder' (by (with_reducible repeat (first | apply Kd.R_alloc | apply Kd.R_drewN | apply Kd.R_drew)); exact HO157.out) (Kd.R_base ho0) hb); have n3_ := Aside0.mk (Kd.R_lower (Kd.R_new' (Kd.R_new' (Kd.R_new' ho0 (Kd.R_lt (by (with_reducible repeat (first | apply Kd.R_alloc | apply Kd.R_drewN | apply Kd.R_drew)); exact HO149.out))) (Kd.R_lt (by (with_reducible repeat (first | apply Kd.R_alloc | apply Kd.R_drewN | apply Kd.R_drew)); exact HO152.out))) (Kd.R_lt (by (with_reducible repeat (first | apply Kd.R_alloc | apply Kd.R_drewN | apply Kd.R_drew)); exact HO157.out))) (below_size (by repeat (first | (with_reducible first | exact HB.out | apply below_alloc | apply pw_below_drewN | apply below_drew1) | exact HB.out)))); have n4_ := Aside0.mk (Kd.C_below (by repeat (first | (with_reducible exact HR161.out) | (with_reducible refine Kd.C_alloc ?_ _) | (with_reducible refine Kd.C_drewN ?_ _) | (with_reducible refine Kd.C_drew ?_) | exact HR161.out)) hb); have n5_ := Aside0.mk (below_step (by repeat (first | (with_reducible first | exact HB.out | apply below_alloc | apply pw_below_drewN | apply below_drew1) | exact HB.out)) hb); clear HO149; clear HO152; clear HO157; clear HR161; clear HB; have HO149 := n0_; have HO152 := n1_; have HO157 := n2_; have HO166 := n3_; have HR161 := n4_; have HB := n5_; clear n0_ n1_ n2_ n3_ n4_ n5_; (try clear hb); (try clear hb2); (try clear hk); (try clear hi); (try clear ho0); obtain ⟨Ao21, co21, eo21⟩ := Kd.R_slice HO157.out; subst eo21; have p167 : 0 ≤ (0 : Int) := (by omega); have q167 : 0 < (t153.length : Int) := of_decide_eq_true (by first | (with_reducible assumption) | assumption); obtain ⟨ad167, e167, hx167_0⟩ := Kd.at_int (Kd.R_reads' HO157.out).2.2 0 p167 q167; cases e167; have qi167 : (0 < t153.length) = True := eq_true (by omega); (try rw [show ((0 : Int)).toNat = 0 from rfl] at hx167_0); (try rw [Addr.add_zero'] at hx167_0); replace p167 := eq_true p167; replace q167 := eq_true q167))
                  go_ret
                  exact ⟨by first | rfl | (simp [errW_none, errW_some] <;> rfl) | (simp only [← hji3]; first | rfl | (simp [errW_none, errW_some] <;> rfl)) | (simp [*, errW_none, errW_some] <;> rfl), by repeat (first | (with_reducible first | exact HB.out | apply below_alloc | apply pw_below_drewN | apply below_drew1) | exact HB.out)⟩
                · rw [if_neg c12] at H
                  have c12b0 : ((rd t153 0) == 7) = false := beq_eq_false_iff_ne.mpr c12
                  have c12b1 : ((rd t153 0) != 7) = true := bne_iff_ne.mpr c12
                  obtain rfl := Option.some.inj H
                  go_enter Try.func11, Try.ntmps11
                  go_wp2_with (first | ((with_reducible refine gate_dst (N := 8) rfl ?_); (try (refine gate_guard (by rfl) ?_; dsimp only)); refine Kd.R_lit (Kd.int .u8) _ 5 ?hg (N := 8) ?hd (xs := ([7] : List Int)) (inner := [.int .u8 7]) (ok := fun _ => True) (okp := fun _ => True) ?hr ?hp (fun _ hk => hk) trivial (Below.refl _ _) (Nat.le_refl _) (by simp) ?_; (case hd => rfl); (case hg => rfl); (case hr => first | (go_simp; done) | (go_simp; rfl)); (case hp => exact (Reps.one (show Kd.M (Kd.int .u8) _ _ _ 7 [.int .u8 7] from rfl) (Reps.none _ _))); intro v148 w22 ho23 hb hg_ hnew_; clear hg_ hnew_; (first | rw [← Ny147.out] at ho23 | (simp only [Int.reduceToNat] at ho23; rw [← Ny147.out] at ho23)); have n0_ := Aside0.mk (Kd.R_lower ho23 (below_size (by repeat (first | (with_reducible first | exact HB.out | apply below_alloc | apply pw_below_drewN | apply below_drew1) | exact HB.out)))); have n1_ := Aside0.mk (below_step (by repeat (first | (with_reducible first | exact HB.out | apply below_alloc | apply pw_below_drewN | apply below_drew1) | exact HB.out)) hb); clear HB; have HO149 := n0_; have HB := n1_; clear n0_ n1_; clear hb ho23; obtain ⟨Ao24, co24, eo24⟩ := Kd.R_slice HO149.out; subst eo24) | ((with_reducible refine gate_callee (f := 13) rfl ?_); refine goesL_ (some 9) rfl rfl Try.func13 (by kernel_rfl) rfl #[.slice none 0 0, .int .i64 5, .slice Ao24 y147.length co24] rfl (by (try simp only [List.map_toArray, List.map_cons, List.map_nil]); first | done | rfl | (simp only [List.length_drop, List.length_take]; rfl)) ?_; (refine (frame_Put.calls k _ _ ([] : List Int) 5 _ _ y147 t150 _ ?side1 ?side2 ?side3 ?side4 A1.out).mono ?_); (case side1 => exact Kd.C_nil _ _); (case side2 => exact Nat.le_refl _); (case side3 => repeat (first | exact (Kd.R_reads' HO149.out).2.2 | (with_reducible refine Kd.C_alloc ?_ _) | (with_reducible refine Kd.C_drewN ?_ _) | (with_reducible refine Kd.C_drew ?_))); (case side4 => exact (Kd.R_reads' HO149.out).2.1); rintro e w25 ⟨v151, rfl, ho0, hb⟩; refine ⟨_, rfl, ?_⟩; have n0_ := Aside0.mk (Kd.R_elder' (by (with_reducible repeat (first | apply Kd.R_alloc | apply Kd.R_drewN | apply Kd.R_drew)); exact HO149.out) (Kd.R_base ho0) hb); have n1_ := Aside0.mk (Kd.R_lower (Kd.R_new' ho0 (Kd.R_lt (by (with_reducible repeat (first | apply Kd.R_alloc | apply Kd.R_drewN | apply Kd.R_drew)); exact HO149.out))) (below_size (by repeat (first | (with_reducible first | exact HB.out | apply below_alloc | apply pw_below_drewN | apply below_drew1) | exact HB.out)))); have n2_ := Aside0.mk (below_step (by repeat (first | (with_reducible first | exact HB.out | apply below_alloc | apply pw_below_drewN | apply below_drew1) | exact HB.out)) hb); clear HO149; clear HB; have HO149 := n0_; have HO152 := n1_; have HB := n2_; clear n0_ n1_ n2_; (try clear hb); (try clear hb2); (try clear hk); (try clear hi); (try clear ho0); obtain ⟨Ao26, co26, eo26⟩ := Kd.R_slice HO152.out; subst eo26) | ((with_reducible refine gate_callee (f := 15) rfl ?_); refine goesL_ (some 12) rfl rfl Try.func15 (by kernel_rfl) rfl #[.slice Ao26 t150.length co26, .int .i64 5] rfl (by (try simp only [List.map_toArray, List.map_cons, List.map_nil]); first | done | rfl | (simp only [List.length_drop, List.length_take]; rfl)) ?_; (with_reducible refine (frame_Take.calls k _ _ t150 5 t153 t154 t155 _ ?side1 ?side2 A2.out).mono ?_); (case side1 => repeat (first | exact (Kd.R_reads' HO152.out).2.2 | (with_reducible refine Kd.C_alloc ?_ _) | (with_reducible refine Kd.C_drewN ?_ _) | (with_reducible refine Kd.C_drew ?_))); (case side2 => exact (Kd.R_reads' HO152.out).2.1); rintro e w27 ⟨v156, rfl, ho0, hb⟩; refine ⟨_, rfl, ?_⟩; have n0_ := Aside0.mk (Kd.R_elder' (by (with_reducible repeat (first | apply Kd.R_alloc | apply Kd.R_drewN | apply Kd.R_drew)); exact HO149.out) (Kd.R_base ho0) hb); have n1_ := Aside0.mk (Kd.R_elder' (by (with_reducible repeat (first | apply Kd.R_alloc | apply Kd.R_drewN | apply Kd.R_drew)); exact HO152.out) (Kd.R_base ho0) hb); have n2_ := Aside0.mk (Kd.R_lower (Kd.R_new' (Kd.R_new' ho0 (Kd.R_lt (by (with_reducible repeat (first | apply Kd.R_alloc | apply Kd.R_drewN | apply Kd.R_drew)); exact HO149.out))) (Kd.R_lt (by (with_reducible repeat (first | apply Kd.R_alloc | apply Kd.R_drewN | apply Kd.R_drew)); exact HO152.out))) (below_size (by repeat (first | (with_reducible first | exact HB.out | apply below_alloc | apply pw_below_drewN | apply below_drew1) | exact HB.out)))); have n3_ := Aside0.mk (below_step (by repeat (first | (with_reducible first | exact HB.out | apply below_alloc | apply pw_below_drewN | apply below_drew1) | exact HB.out)) hb); clear HO149; clear HO152; clear HB; have HO149 := n0_; have HO152 := n1_; have HO157 := n2_; have HB := n3_; clear n0_ n1_ n2_ n3_; (try clear hb); (try clear hb2); (try clear hk); (try clear hi); (try clear ho0); have q28 : ((ji3) : Int) ≤ ((t150.length : Int) : Int) := of_decide_eq_true (by first | (with_reducible assumption) | assumption); obtain ⟨i028, hi028, _, hsz28, _⟩ := info_parts info5; have hroom28 : t150.length ≤ co26 := (Kd.R_reads' HO152.out).2.1; have hC28 : Kd.C (Kd.int .u8) _ Ao26 t150.length t150 := (Kd.R_reads' HO152.out).2.2; have hcut28 := cut_to (P := Try.prog) 22 5 .i64 Try.underlying22 hi028 Ao26 t150.length co26 (ji3) (of_decide_eq_true (by first | (with_reducible assumption) | assumption)) q28 hroom28; have hr28 := Kd.C_take (m := ((ji3) : Int).toNat) hC28 (by omega); have hy28 : y158.length = ((ji3) : Int).toNat := (by rw [Ny158.out, List.length_take]; omega); rw [← Ny158.out] at hr28; rw [← hy28] at hcut28; have HR161 := Aside0.mk hr28; have HC161 := Aside0.mk (show y158.length ≤ co26 from by omega); clear hr28 hC28 hroom28 hi028 hsz28; have KY28 := Aside0.mk hy28; clear hy28; have KL28 := Aside0.mk (show ((ji3) : Int).toNat ≤ t150.length from by omega); replace q28 := eq_true q28) | ((with_reducible refine gate_callee (f := 15) rfl ?_); refine goesL_ (some 23) rfl rfl Try.func15 (by kernel_rfl) rfl #[.slice Ao26 y158.length co26, .int .i64 5] rfl (by (try simp only [List.map_toArray, List.map_cons, List.map_nil]); first | done | rfl | (simp only [List.length_drop, List.length_take]; rfl)) ?_; (with_reducible refine (frame_Take.calls k _ _ y158 5 t162 t163 t164 _ ?side1 ?side2 A6.out).mono ?_); (case side1 => repeat (first | exact (by repeat (first | (with_reducible exact HR161.out) | (with_reducible refine Kd.C_alloc ?_ _) | (with_reducible refine Kd.C_drewN ?_ _) | (with_reducible refine Kd.C_drew ?_) | exact HR161.out)) | (with_reducible refine Kd.C_alloc ?_ _) | (with_reducible refine Kd.C_drewN ?_ _) | (with_reducible refine Kd.C_drew ?_))); (case side2 => exact HC161.out); rintro e w29 ⟨v165, rfl, ho0, hb⟩; refine ⟨_, rfl, ?_⟩; have n0_ := Aside0.mk (Kd.R_elder' (by (with_reducible repeat (first | apply Kd.R_alloc | apply Kd.R_drewN | apply Kd.R_drew)); exact HO149.out) (Kd.R_base ho0) hb); have n1_ := Aside0.mk (Kd.R_elder' (by (with_reducible repeat (first | apply Kd.R_alloc | apply Kd.R_drewN | apply Kd.R_drew)); exact HO152.out) (Kd.R_base ho0) hb); have n2_ := Aside0.mk (Kd.R_elder' (by (with_reducible repeat (first | apply Kd.R_alloc | apply Kd.R_drewN | apply Kd.R_drew)); exact HO157.out) (Kd.R_base ho0) hb); have n3_ := Aside0.mk (Kd.R_lower (Kd.R_new' (Kd.R_new' (Kd.R_new' ho0 (Kd.R_lt (by (with_reducible repeat (first | apply Kd.R_alloc | apply Kd.R_drewN | apply Kd.R_drew)); exact HO149.out))) (Kd.R_lt (by (with_reducible repeat (first | apply Kd.R_alloc | apply Kd.R_drewN | apply Kd.R_drew)); exact HO152.out))) (Kd.R_lt (by (with_reducible repeat (first | apply Kd.R_alloc | apply Kd.R_drewN | apply Kd.R_drew)); exact HO157.out))) (below_size (by repeat (first | (with_reducible first | exact HB.out | apply below_alloc | apply pw_below_drewN | apply below_drew1) | exact HB.out)))); have n4_ := Aside0.mk (Kd.C_below (by repeat (first | (with_reducible exact HR161.out) | (with_reducible refine Kd.C_alloc ?_ _) | (with_reducible refine Kd.C_drewN ?_ _) | (with_reducible refine Kd.C_drew ?_) | exact HR161.out)) hb); have n5_ := Aside0.mk (below_step (by repeat (first | (with_reducible first | exact HB.out | apply below_alloc | apply pw_below_drewN | apply below_drew1) | exact HB.out)) hb); clear HO149; clear HO152; clear HO157; clear HR161; clear HB; have HO149 := n0_; have HO152 := n1_; have HO157 := n2_; have HO166 := n3_; have HR161 := n4_; have HB := n5_; clear n0_ n1_ n2_ n3_ n4_ n5_; (try clear hb); (try clear hb2); (try clear hk); (try clear hi); (try clear ho0); obtain ⟨Ao30, co30, eo30⟩ := Kd.R_slice HO157.out; subst eo30; have p167 : 0 ≤ (0 : Int) := (by omega); have q167 : 0 < (t153.length : Int) := of_decide_eq_true (by first | (with_reducible assumption) | assumption); obtain ⟨ad167, e167, hx167_0⟩ := Kd.at_int (Kd.R_reads' HO157.out).2.2 0 p167 q167; cases e167; have qi167 : (0 < t153.length) = True := eq_true (by omega); (try rw [show ((0 : Int)).toNat = 0 from rfl] at hx167_0); (try rw [Addr.add_zero'] at hx167_0); replace p167 := eq_true p167; replace q167 := eq_true q167))
                  go_ret
                  exact ⟨by first | rfl | (simp [errW_none, errW_some] <;> rfl) | (simp only [← hji3]; first | rfl | (simp [errW_none, errW_some] <;> rfl)) | (simp [*, errW_none, errW_some] <;> rfl), by repeat (first | (with_reducible first | exact HB.out | apply below_alloc | apply pw_below_drewN | apply below_drew1) | exact HB.out)⟩
              · rw [if_neg c11] at H
                exact absurd H (by simp)
            · rw [if_neg c10] at H
              have c10b0 : ((t153.length : Int) == 1) = false := beq_eq_false_iff_ne.mpr c10
              have c10b1 : ((t153.length : Int) != 1) = true := bne_iff_ne.mpr c10
              obtain rfl := Option.some.inj H
              go_enter Try.func11, Try.ntmps11
              go_wp2_with (first | ((with_reducible refine gate_dst (N := 8) rfl ?_); (try (refine gate_guard (by rfl) ?_; dsimp only)); refine Kd.R_lit (Kd.int .u8) _ 5 ?hg (N := 8) ?hd (xs := ([7] : List Int)) (inner := [.int .u8 7]) (ok := fun _ => True) (okp := fun _ => True) ?hr ?hp (fun _ hk => hk) trivial (Below.refl _ _) (Nat.le_refl _) (by simp) ?_; (case hd => rfl); (case hg => rfl); (case hr => first | (go_simp; done) | (go_simp; rfl)); (case hp => exact (Reps.one (show Kd.M (Kd.int .u8) _ _ _ 7 [.int .u8 7] from rfl) (Reps.none _ _))); intro v148 w31 ho32 hb hg_ hnew_; clear hg_ hnew_; (first | rw [← Ny147.out] at ho32 | (simp only [Int.reduceToNat] at ho32; rw [← Ny147.out] at ho32)); have n0_ := Aside0.mk (Kd.R_lower ho32 (below_size (by repeat (first | (with_reducible first | exact HB.out | apply below_alloc | apply pw_below_drewN | apply below_drew1) | exact HB.out)))); have n1_ := Aside0.mk (below_step (by repeat (first | (with_reducible first | exact HB.out | apply below_alloc | apply pw_below_drewN | apply below_drew1) | exact HB.out)) hb); clear HB; have HO149 := n0_; have HB := n1_; clear n0_ n1_; clear hb ho32; obtain ⟨Ao33, co33, eo33⟩ := Kd.R_slice HO149.out; subst eo33) | ((with_reducible refine gate_callee (f := 13) rfl ?_); refine goesL_ (some 9) rfl rfl Try.func13 (by kernel_rfl) rfl #[.slice none 0 0, .int .i64 5, .slice Ao33 y147.length co33] rfl (by (try simp only [List.map_toArray, List.map_cons, List.map_nil]); first | done | rfl | (simp only [List.length_drop, List.length_take]; rfl)) ?_; (refine (frame_Put.calls k _ _ ([] : List Int) 5 _ _ y147 t150 _ ?side1 ?side2 ?side3 ?side4 A1.out).mono ?_); (case side1 => exact Kd.C_nil _ _); (case side2 => exact Nat.le_refl _); (case side3 => repeat (first | exact (Kd.R_reads' HO149.out).2.2 | (with_reducible refine Kd.C_alloc ?_ _) | (with_reducible refine Kd.C_drewN ?_ _) | (with_reducible refine Kd.C_drew ?_))); (case side4 => exact (Kd.R_reads' HO149.out).2.1); rintro e w34 ⟨v151, rfl, ho0, hb⟩; refine ⟨_, rfl, ?_⟩; have n0_ := Aside0.mk (Kd.R_elder' (by (with_reducible repeat (first | apply Kd.R_alloc | apply Kd.R_drewN | apply Kd.R_drew)); exact HO149.out) (Kd.R_base ho0) hb); have n1_ := Aside0.mk (Kd.R_lower (Kd.R_new' ho0 (Kd.R_lt (by (with_reducible repeat (first | apply Kd.R_alloc | apply Kd.R_drewN | apply Kd.R_drew)); exact HO149.out))) (below_size (by repeat (first | (with_reducible first | exact HB.out | apply below_alloc | apply pw_below_drewN | apply below_drew1) | exact HB.out)))); have n2_ := Aside0.mk (below_step (by repeat (first | (with_reducible first | exact HB.out | apply below_alloc | apply pw_below_drewN | apply below_drew1) | exact HB.out)) hb); clear HO149; clear HB; have HO149 := n0_; have HO152 := n1_; have HB := n2_; clear n0_ n1_ n2_; (try clear hb); (try clear hb2); (try clear hk); (try clear hi); (try clear ho0); obtain ⟨Ao35, co35, eo35⟩ := Kd.R_slice HO152.out; subst eo35) | ((with_reducible refine gate_callee (f := 15) rfl ?_); refine goesL_ (some 12) rfl rfl Try.func15 (by kernel_rfl) rfl #[.slice Ao35 t150.length co35, .int .i64 5] rfl (by (try simp only [List.map_toArray, List.map_cons, List.map_nil]); first | done | rfl | (simp only [List.length_drop, List.length_take]; rfl)) ?_; (with_reducible refine (frame_Take.calls k _ _ t150 5 t153 t154 t155 _ ?side1 ?side2 A2.out).mono ?_); (case side1 => repeat (first | exact (Kd.R_reads' HO152.out).2.2 | (with_reducible refine Kd.C_alloc ?_ _) | (with_reducible refine Kd.C_drewN ?_ _) | (with_reducible refine Kd.C_drew ?_))); (case side2 => exact (Kd.R_reads' HO152.out).2.1); rintro e w36 ⟨v156, rfl, ho0, hb⟩; refine ⟨_, rfl, ?_⟩; have n0_ := Aside0.mk (Kd.R_elder' (by (with_reducible repeat (first | apply Kd.R_alloc | apply Kd.R_drewN | apply Kd.R_drew)); exact HO149.out) (Kd.R_base ho0) hb); have n1_ := Aside0.mk (Kd.R_elder' (by (with_reducible repeat (first | apply Kd.R_alloc | apply Kd.R_drewN | apply Kd.R_drew)); exact HO152.out) (Kd.R_base ho0) hb); have n2_ := Aside0.mk (Kd.R_lower (Kd.R_new' (Kd.R_new' ho0 (Kd.R_lt (by (with_reducible repeat (first | apply Kd.R_alloc | apply Kd.R_drewN | apply Kd.R_drew)); exact HO149.out))) (Kd.R_lt (by (with_reducible repeat (first | apply Kd.R_alloc | apply Kd.R_drewN | apply Kd.R_drew)); exact HO152.out))) (below_size (by repeat (first | (with_reducible first | exact HB.out | apply below_alloc | apply pw_below_drewN | apply below_drew1) | exact HB.out)))); have n3_ := Aside0.mk (below_step (by repeat (first | (with_reducible first | exact HB.out | apply below_alloc | apply pw_below_drewN | apply below_drew1) | exact HB.out)) hb); clear HO149; clear HO152; clear HB; have HO149 := n0_; have HO152 := n1_; have HO157 := n2_; have HB := n3_; clear n0_ n1_ n2_ n3_; (try clear hb); (try clear hb2); (try clear hk); (try clear hi); (try clear ho0); have q37 : ((ji3) : Int) ≤ ((t150.length : Int) : Int) := of_decide_eq_true (by first | (with_reducible assumption) | assumption); obtain ⟨i037, hi037, _, hsz37, _⟩ := info_parts info5; have hroom37 : t150.length ≤ co35 := (Kd.R_reads' HO152.out).2.1; have hC37 : Kd.C (Kd.int .u8) _ Ao35 t150.length t150 := (Kd.R_reads' HO152.out).2.2; have hcut37 := cut_to (P := Try.prog) 22 5 .i64 Try.underlying22 hi037 Ao35 t150.length co35 (ji3) (of_decide_eq_true (by first | (with_reducible assumption) | assumption)) q37 hroom37; have hr37 := Kd.C_take (m := ((ji3) : Int).toNat) hC37 (by omega); have hy37 : y158.length = ((ji3) : Int).toNat := (by rw [Ny158.out, List.length_take]; omega); rw [← Ny158.out] at hr37; rw [← hy37] at hcut37; have HR161 := Aside0.mk hr37; have HC161 := Aside0.mk (show y158.length ≤ co35 from by omega); clear hr37 hC37 hroom37 hi037 hsz37; have KY37 := Aside0.mk hy37; clear hy37; have KL37 := Aside0.mk (show ((ji3) : Int).toNat ≤ t150.length from by omega); replace q37 := eq_true q37) | ((with_reducible refine gate_callee (f := 15) rfl ?_); refine goesL_ (some 23) rfl rfl Try.func15 (by kernel_rfl) rfl #[.slice Ao35 y158.length co35, .int .i64 5] rfl (by (try simp only [List.map_toArray, List.map_cons, List.map_nil]); first | done | rfl | (simp only [List.length_drop, List.length_take]; rfl)) ?_; (with_reducible refine (frame_Take.calls k _ _ y158 5 t162 t163 t164 _ ?side1 ?side2 A6.out).mono ?_); (case side1 => repeat (first | exact (by repeat (first | (with_reducible exact HR161.out) | (with_reducible refine Kd.C_alloc ?_ _) | (with_reducible refine Kd.C_drewN ?_ _) | (with_reducible refine Kd.C_drew ?_) | exact HR161.out)) | (with_reducible refine Kd.C_alloc ?_ _) | (with_reducible refine Kd.C_drewN ?_ _) | (with_reducible refine Kd.C_drew ?_))); (case side2 => exact HC161.out); rintro e w38 ⟨v165, rfl, ho0, hb⟩; refine ⟨_, rfl, ?_⟩; have n0_ := Aside0.mk (Kd.R_elder' (by (with_reducible repeat (first | apply Kd.R_alloc | apply Kd.R_drewN | apply Kd.R_drew)); exact HO149.out) (Kd.R_base ho0) hb); have n1_ := Aside0.mk (Kd.R_elder' (by (with_reducible repeat (first | apply Kd.R_alloc | apply Kd.R_drewN | apply Kd.R_drew)); exact HO152.out) (Kd.R_base ho0) hb); have n2_ := Aside0.mk (Kd.R_elder' (by (with_reducible repeat (first | apply Kd.R_alloc | apply Kd.R_drewN | apply Kd.R_drew)); exact HO157.out) (Kd.R_base ho0) hb); have n3_ := Aside0.mk (Kd.R_lower (Kd.R_new' (Kd.R_new' (Kd.R_new' ho0 (Kd.R_lt (by (with_reducible repeat (first | apply Kd.R_alloc | apply Kd.R_drewN | apply Kd.R_drew)); exact HO149.out))) (Kd.R_lt (by (with_reducible repeat (first | apply Kd.R_alloc | apply Kd.R_drewN | apply Kd.R_drew)); exact HO152.out))) (Kd.R_lt (by (with_reducible repeat (first | apply Kd.R_alloc | apply Kd.R_drewN | apply Kd.R_drew)); exact HO157.out))) (below_size (by repeat (first | (with_reducible first | exact HB.out | apply below_alloc | apply pw_below_drewN | apply below_drew1) | exact HB.out)))); have n4_ := Aside0.mk (Kd.C_below (by repeat (first | (with_reducible exact HR161.out) | (with_reducible refine Kd.C_alloc ?_ _) | (with_reducible refine Kd.C_drewN ?_ _) | (with_reducible refine Kd.C_drew ?_) | exact HR161.out)) hb); have n5_ := Aside0.mk (below_step (by repeat (first | (with_reducible first | exact HB.out | apply below_alloc | apply pw_below_drewN | apply below_drew1) | exact HB.out)) hb); clear HO149; clear HO152; clear HO157; clear HR161; clear HB; have HO149 := n0_; have HO152 := n1_; have HO157 := n2_; have HO166 := n3_; have HR161 := n4_; have HB := n5_; clear n0_ n1_ n2_ n3_ n4_ n5_; (try clear hb); (try clear hb2); (try clear hk); (try clear hi); (try clear ho0); obtain ⟨Ao39, co39, eo39⟩ := Kd.R_slice HO157.out; subst eo39))
              go_ret
              exact ⟨by first | rfl | (simp [errW_none, errW_some] <;> rfl) | (simp only [← hji3]; first | rfl | (simp [errW_none, errW_some] <;> rfl)) | (simp [*, errW_none, errW_some] <;> rfl), by repeat (first | (with_reducible first | exact HB.out | apply below_alloc | apply pw_below_drewN | apply below_drew1) | exact HB.out)⟩
          · rw [if_neg c9] at H
            have c9b0 : (t155 == 0) = false := beq_eq_false_iff_ne.mpr c9
            have c9b1 : (t155 != 0) = true := bne_iff_ne.mpr c9
            obtain rfl := Option.some.inj H
            go_enter Try.func11, Try.ntmps11
            go_wp2_with (first | ((with_reducible refine gate_dst (N := 8) rfl ?_); (try (refine gate_guard (by rfl) ?_; dsimp only)); refine Kd.R_lit (Kd.int .u8) _ 5 ?hg (N := 8) ?hd (xs := ([7] : List Int)) (inner := [.int .u8 7]) (ok := fun _ => True) (okp := fun _ => True) ?hr ?hp (fun _ hk => hk) trivial (Below.refl _ _) (Nat.le_refl _) (by simp) ?_; (case hd => rfl); (case hg => rfl); (case hr => first | (go_simp; done) | (go_simp; rfl)); (case hp => exact (Reps.one (show Kd.M (Kd.int .u8) _ _ _ 7 [.int .u8 7] from rfl) (Reps.none _ _))); intro v148 w40 ho41 hb hg_ hnew_; clear hg_ hnew_; (first | rw [← Ny147.out] at ho41 | (simp only [Int.reduceToNat] at ho41; rw [← Ny147.out] at ho41)); have n0_ := Aside0.mk (Kd.R_lower ho41 (below_size (by repeat (first | (with_reducible first | exact HB.out | apply below_alloc | apply pw_below_drewN | apply below_drew1) | exact HB.out)))); have n1_ := Aside0.mk (below_step (by repeat (first | (with_reducible first | exact HB.out | apply below_alloc | apply pw_below_drewN | apply below_drew1) | exact HB.out)) hb); clear HB; have HO149 := n0_; have HB := n1_; clear n0_ n1_; clear hb ho41; obtain ⟨Ao42, co42, eo42⟩ := Kd.R_slice HO149.out; subst eo42) | ((with_reducible refine gate_callee (f := 13) rfl ?_); refine goesL_ (some 9) rfl rfl Try.func13 (by kernel_rfl) rfl #[.slice none 0 0, .int .i64 5, .slice Ao42 y147.length co42] rfl (by (try simp only [List.map_toArray, List.map_cons, List.map_nil]); first | done | rfl | (simp only [List.length_drop, List.length_take]; rfl)) ?_; (refine (frame_Put.calls k _ _ ([] : List Int) 5 _ _ y147 t150 _ ?side1 ?side2 ?side3 ?side4 A1.out).mono ?_); (case side1 => exact Kd.C_nil _ _); (case side2 => exact Nat.le_refl _); (case side3 => repeat (first | exact (Kd.R_reads' HO149.out).2.2 | (with_reducible refine Kd.C_alloc ?_ _) | (with_reducible refine Kd.C_drewN ?_ _) | (with_reducible refine Kd.C_drew ?_))); (case side4 => exact (Kd.R_reads' HO149.out).2.1); rintro e w43 ⟨v151, rfl, ho0, hb⟩; refine ⟨_, rfl, ?_⟩; have n0_ := Aside0.mk (Kd.R_elder' (by (with_reducible repeat (first | apply Kd.R_alloc | apply Kd.R_drewN | apply Kd.R_drew)); exact HO149.out) (Kd.R_base ho0) hb); have n1_ := Aside0.mk (Kd.R_lower (Kd.R_new' ho0 (Kd.R_lt (by (with_reducible repeat (first | apply Kd.R_alloc | apply Kd.R_drewN | apply Kd.R_drew)); exact HO149.out))) (below_size (by repeat (first | (with_reducible first | exact HB.out | apply below_alloc | apply pw_below_drewN | apply below_drew1) | exact HB.out)))); have n2_ := Aside0.mk (below_step (by repeat (first | (with_reducible first | exact HB.out | apply below_alloc | apply pw_below_drewN | apply below_drew1) | exact HB.out)) hb); clear HO149; clear HB; have HO149 := n0_; have HO152 := n1_; have HB := n2_; clear n0_ n1_ n2_; (try clear hb); (try clear hb2); (try clear hk); (try clear hi); (try clear ho0); obtain ⟨Ao44, co44, eo44⟩ := Kd.R_slice HO152.out; subst eo44) | ((with_reducible refine gate_callee (f := 15) rfl ?_); refine goesL_ (some 12) rfl rfl Try.func15 (by kernel_rfl) rfl #[.slice Ao44 t150.length co44, .int .i64 5] rfl (by (try simp only [List.map_toArray, List.map_cons, List.map_nil]); first | done | rfl | (simp only [List.length_drop, List.length_take]; rfl)) ?_; (with_reducible refine (frame_Take.calls k _ _ t150 5 t153 t154 t155 _ ?side1 ?side2 A2.out).mono ?_); (case side1 => repeat (first | exact (Kd.R_reads' HO152.out).2.2 | (with_reducible refine Kd.C_alloc ?_ _) | (with_reducible refine Kd.C_drewN ?_ _) | (with_reducible refine Kd.C_drew ?_))); (case side2 => exact (Kd.R_reads' HO152.out).2.1); rintro e w45 ⟨v156, rfl, ho0, hb⟩; refine ⟨_, rfl, ?_⟩; have n0_ := Aside0.mk (Kd.R_elder' (by (with_reducible repeat (first | apply Kd.R_alloc | apply Kd.R_drewN | apply Kd.R_drew)); exact HO149.out) (Kd.R_base ho0) hb); have n1_ := Aside0.mk (Kd.R_elder' (by (with_reducible repeat (first | apply Kd.R_alloc | apply Kd.R_drewN | apply Kd.R_drew)); exact HO152.out) (Kd.R_base ho0) hb); have n2_ := Aside0.mk (Kd.R_lower (Kd.R_new' (Kd.R_new' ho0 (Kd.R_lt (by (with_reducible repeat (first | apply Kd.R_alloc | apply Kd.R_drewN | apply Kd.R_drew)); exact HO149.out))) (Kd.R_lt (by (with_reducible repeat (first | apply Kd.R_alloc | apply Kd.R_drewN | apply Kd.R_drew)); exact HO152.out))) (below_size (by repeat (first | (with_reducible first | exact HB.out | apply below_alloc | apply pw_below_drewN | apply below_drew1) | exact HB.out)))); have n3_ := Aside0.mk (below_step (by repeat (first | (with_reducible first | exact HB.out | apply below_alloc | apply pw_below_drewN | apply below_drew1) | exact HB.out)) hb); clear HO149; clear HO152; clear HB; have HO149 := n0_; have HO152 := n1_; have HO157 := n2_; have HB := n3_; clear n0_ n1_ n2_ n3_; (try clear hb); (try clear hb2); (try clear hk); (try clear hi); (try clear ho0); have q46 : ((ji3) : Int) ≤ ((t150.length : Int) : Int) := of_decide_eq_true (by first | (with_reducible assumption) | assumption); obtain ⟨i046, hi046, _, hsz46, _⟩ := info_parts info5; have hroom46 : t150.length ≤ co44 := (Kd.R_reads' HO152.out).2.1; have hC46 : Kd.C (Kd.int .u8) _ Ao44 t150.length t150 := (Kd.R_reads' HO152.out).2.2; have hcut46 := cut_to (P := Try.prog) 22 5 .i64 Try.underlying22 hi046 Ao44 t150.length co44 (ji3) (of_decide_eq_true (by first | (with_reducible assumption) | assumption)) q46 hroom46; have hr46 := Kd.C_take (m := ((ji3) : Int).toNat) hC46 (by omega); have hy46 : y158.length = ((ji3) : Int).toNat := (by rw [Ny158.out, List.length_take]; omega); rw [← Ny158.out] at hr46; rw [← hy46] at hcut46; have HR161 := Aside0.mk hr46; have HC161 := Aside0.mk (show y158.length ≤ co44 from by omega); clear hr46 hC46 hroom46 hi046 hsz46; have KY46 := Aside0.mk hy46; clear hy46; have KL46 := Aside0.mk (show ((ji3) : Int).toNat ≤ t150.length from by omega); replace q46 := eq_true q46) | ((with_reducible refine gate_callee (f := 15) rfl ?_); refine goesL_ (some 23) rfl rfl Try.func15 (by kernel_rfl) rfl #[.slice Ao44 y158.length co44, .int .i64 5] rfl (by (try simp only [List.map_toArray, List.map_cons, List.map_nil]); first | done | rfl | (simp only [List.length_drop, List.length_take]; rfl)) ?_; (with_reducible refine (frame_Take.calls k _ _ y158 5 t162 t163 t164 _ ?side1 ?side2 A6.out).mono ?_); (case side1 => repeat (first | exact (by repeat (first | (with_reducible exact HR161.out) | (with_reducible refine Kd.C_alloc ?_ _) | (with_reducible refine Kd.C_drewN ?_ _) | (with_reducible refine Kd.C_drew ?_) | exact HR161.out)) | (with_reducible refine Kd.C_alloc ?_ _) | (with_reducible refine Kd.C_drewN ?_ _) | (with_reducible refine Kd.C_drew ?_))); (case side2 => exact HC161.out); rintro e w47 ⟨v165, rfl, ho0, hb⟩; refine ⟨_, rfl, ?_⟩; have n0_ := Aside0.mk (Kd.R_elder' (by (with_reducible repeat (first | apply Kd.R_alloc | apply Kd.R_drewN | apply Kd.R_drew)); exact HO149.out) (Kd.R_base ho0) hb); have n1_ := Aside0.mk (Kd.R_elder' (by (with_reducible repeat (first | apply Kd.R_alloc | apply Kd.R_drewN | apply Kd.R_drew)); exact HO152.out) (Kd.R_base ho0) hb); have n2_ := Aside0.mk (Kd.R_elder' (by (with_reducible repeat (first | apply Kd.R_alloc | apply Kd.R_drewN | apply Kd.R_drew)); exact HO157.out) (Kd.R_base ho0) hb); have n3_ := Aside0.mk (Kd.R_lower (Kd.R_new' (Kd.R_new' (Kd.R_new' ho0 (Kd.R_lt (by (with_reducible repeat (first | apply Kd.R_alloc | apply Kd.R_drewN | apply Kd.R_drew)); exact HO149.out))) (Kd.R_lt (by (with_reducible repeat (first | apply Kd.R_alloc | apply Kd.R_drewN | apply Kd.R_drew)); exact HO152.out))) (Kd.R_lt (by (with_reducible repeat (first | apply Kd.R_alloc | apply Kd.R_drewN | apply Kd.R_drew)); exact HO157.out))) (below_size (by repeat (first | (with_reducible first | exact HB.out | apply below_alloc | apply pw_below_drewN | apply below_drew1) | exact HB.out)))); have n4_ := Aside0.mk (Kd.C_below (by repeat (first | (with_reducible exact HR161.out) | (with_reducible refine Kd.C_alloc ?_ _) | (with_reducible refine Kd.C_drewN ?_ _) | (with_reducible refine Kd.C_drew ?_) | exact HR161.out)) hb); have n5_ := Aside0.mk (below_step (by repeat (first | (with_reducible first | exact HB.out | apply below_alloc | apply pw_below_drewN | apply below_drew1) | exact HB.out)) hb); clear HO149; clear HO152; clear HO157; clear HR161; clear HB; have HO149 := n0_; have HO152 := n1_; have HO157 := n2_; have HO166 := n3_; have HR161 := n4_; have HB := n5_; clear n0_ n1_ n2_ n3_ n4_ n5_; (try clear hb); (try clear hb2); (try clear hk); (try clear hi); (try clear ho0)))
            go_ret
            exact ⟨by first | rfl | (simp [errW_none, errW_some] <;> rfl) | (simp only [← hji3]; first | rfl | (simp [errW_none, errW_some] <;> rfl)) | (simp [*, errW_none, errW_some] <;> rfl), by repeat (first | (with_reducible first | exact HB.out | apply below_alloc | apply pw_below_drewN | apply below_drew1) | exact HB.out)⟩
        · rw [if_neg c8] at H
          have c8b0 : (t154 == 10) = false := beq_eq_false_iff_ne.mpr c8
          have c8b1 : (t154 != 10) = true := bne_iff_ne.mpr c8
          obtain rfl := Option.some.inj H
          go_enter Try.func11, Try.ntmps11
          go_wp2_with (first | ((with_reducible refine gate_dst (N := 8) rfl ?_); (try (refine gate_guard (by rfl) ?_; dsimp only)); refine Kd.R_lit (Kd.int .u8) _ 5 ?hg (N := 8) ?hd (xs := ([7] : List Int)) (inner := [.int .u8 7]) (ok := fun _ => True) (okp := fun _ => True) ?hr ?hp (fun _ hk => hk) trivial (Below.refl _ _) (Nat.le_refl _) (by simp) ?_; (case hd => rfl); (case hg => rfl); (case hr => first | (go_simp; done) | (go_simp; rfl)); (case hp => exact (Reps.one (show Kd.M (Kd.int .u8) _ _ _ 7 [.int .u8 7] from rfl) (Reps.none _ _))); intro v148 w48 ho49 hb hg_ hnew_; clear hg_ hnew_; (first | rw [← Ny147.out] at ho49 | (simp only [Int.reduceToNat] at ho49; rw [← Ny147.out] at ho49)); have n0_ := Aside0.mk (Kd.R_lower ho49 (below_size (by repeat (first | (with_reducible first | exact HB.out | apply below_alloc | apply pw_below_drewN | apply below_drew1) | exact HB.out)))); have n1_ := Aside0.mk (below_step (by repeat (first | (with_reducible first | exact HB.out | apply below_alloc | apply pw_below_drewN | apply below_drew1) | exact HB.out)) hb); clear HB; have HO149 := n0_; have HB := n1_; clear n0_ n1_; clear hb ho49; obtain ⟨Ao50, co50, eo50⟩ := Kd.R_slice HO149.out; subst eo50) | ((with_reducible refine gate_callee (f := 13) rfl ?_); refine goesL_ (some 9) rfl rfl Try.func13 (by kernel_rfl) rfl #[.slice none 0 0, .int .i64 5, .slice Ao50 y147.length co50] rfl (by (try simp only [List.map_toArray, List.map_cons, List.map_nil]); first | done | rfl | (simp only [List.length_drop, List.length_take]; rfl)) ?_; (refine (frame_Put.calls k _ _ ([] : List Int) 5 _ _ y147 t150 _ ?side1 ?side2 ?side3 ?side4 A1.out).mono ?_); (case side1 => exact Kd.C_nil _ _); (case side2 => exact Nat.le_refl _); (case side3 => repeat (first | exact (Kd.R_reads' HO149.out).2.2 | (with_reducible refine Kd.C_alloc ?_ _) | (with_reducible refine Kd.C_drewN ?_ _) | (with_reducible refine Kd.C_drew ?_))); (case side4 => exact (Kd.R_reads' HO149.out).2.1); rintro e w51 ⟨v151, rfl, ho0, hb⟩; refine ⟨_, rfl, ?_⟩; have n0_ := Aside0.mk (Kd.R_elder' (by (with_reducible repeat (first | apply Kd.R_alloc | apply Kd.R_drewN | apply Kd.R_drew)); exact HO149.out) (Kd.R_base ho0) hb); have n1_ := Aside0.mk (Kd.R_lower (Kd.R_new' ho0 (Kd.R_lt (by (with_reducible repeat (first | apply Kd.R_alloc | apply Kd.R_drewN | apply Kd.R_drew)); exact HO149.out))) (below_size (by repeat (first | (with_reducible first | exact HB.out | apply below_alloc | apply pw_below_drewN | apply below_drew1) | exact HB.out)))); have n2_ := Aside0.mk (below_step (by repeat (first | (with_reducible first | exact HB.out | apply below_alloc | apply pw_below_drewN | apply below_drew1) | exact HB.out)) hb); clear HO149; clear HB; have HO149 := n0_; have HO152 := n1_; have HB := n2_; clear n0_ n1_ n2_; (try clear hb); (try clear hb2); (try clear hk); (try clear hi); (try clear ho0); obtain ⟨Ao52, co52, eo52⟩ := Kd.R_slice HO152.out; subst eo52) | ((with_reducible refine gate_callee (f := 15) rfl ?_); refine goesL_ (some 12) rfl rfl Try.func15 (by kernel_rfl) rfl #[.slice Ao52 t150.length co52, .int .i64 5] rfl (by (try simp only [List.map_toArray, List.map_cons, List.map_nil]); first | done | rfl | (simp only [List.length_drop, List.length_take]; rfl)) ?_; (with_reducible refine (frame_Take.calls k _ _ t150 5 t153 t154 t155 _ ?side1 ?side2 A2.out).mono ?_); (case side1 => repeat (first | exact (Kd.R_reads' HO152.out).2.2 | (with_reducible refine Kd.C_alloc ?_ _) | (with_reducible refine Kd.C_drewN ?_ _) | (with_reducible refine Kd.C_drew ?_))); (case side2 => exact (Kd.R_reads' HO152.out).2.1); rintro e w53 ⟨v156, rfl, ho0, hb⟩; refine ⟨_, rfl, ?_⟩; have n0_ := Aside0.mk (Kd.R_elder' (by (with_reducible repeat (first | apply Kd.R_alloc | apply Kd.R_drewN | apply Kd.R_drew)); exact HO149.out) (Kd.R_base ho0) hb); have n1_ := Aside0.mk (Kd.R_elder' (by (with_reducible repeat (first | apply Kd.R_alloc | apply Kd.R_drewN | apply Kd.R_drew)); exact HO152.out) (Kd.R_base ho0) hb); have n2_ := Aside0.mk (Kd.R_lower (Kd.R_new' (Kd.R_new' ho0 (Kd.R_lt (by (with_reducible repeat (first | apply Kd.R_alloc | apply Kd.R_drewN | apply Kd.R_drew)); exact HO149.out))) (Kd.R_lt (by (with_reducible repeat (first | apply Kd.R_alloc | apply Kd.R_drewN | apply Kd.R_drew)); exact HO152.out))) (below_size (by repeat (first | (with_reducible first | exact HB.out | apply below_alloc | apply pw_below_drewN | apply below_drew1) | exact HB.out)))); have n3_ := Aside0.mk (below_step (by repeat (first | (with_reducible first | exact HB.out | apply below_alloc | apply pw_below_drewN | apply below_drew1) | exact HB.out)) hb); clear HO149; clear HO152; clear HB; have HO149 := n0_; have HO152 := n1_; have HO157 := n2_; have HB := n3_; clear n0_ n1_ n2_ n3_; (try clear hb); (try clear hb2); (try clear hk); (try clear hi); (try clear ho0); have q54 : ((ji3) : Int) ≤ ((t150.length : Int) : Int) := of_decide_eq_true (by first | (with_reducible assumption) | assumption); obtain ⟨i054, hi054, _, hsz54, _⟩ := info_parts info5; have hroom54 : t150.length ≤ co52 := (Kd.R_reads' HO152.out).2.1; have hC54 : Kd.C (Kd.int .u8) _ Ao52 t150.length t150 := (Kd.R_reads' HO152.out).2.2; have hcut54 := cut_to (P := Try.prog) 22 5 .i64 Try.underlying22 hi054 Ao52 t150.length co52 (ji3) (of_decide_eq_true (by first | (with_reducible assumption) | assumption)) q54 hroom54; have hr54 := Kd.C_take (m := ((ji3) : Int).toNat) hC54 (by omega); have hy54 : y158.length = ((ji3) : Int).toNat := (by rw [Ny158.out, List.length_take]; omega); rw [← Ny158.out] at hr54; rw [← hy54] at hcut54; have HR161 := Aside0.mk hr54; have HC161 := Aside0.mk (show y158.length ≤ co52 from by omega); clear hr54 hC54 hroom54 hi054 hsz54; have KY54 := Aside0.mk hy54; clear hy54; have KL54 := Aside0.mk (show ((ji3) : Int).toNat ≤ t150.length from by omega); replace q54 := eq_true q54) | ((with_reducible refine gate_callee (f := 15) rfl ?_); refine goesL_ (some 23) rfl rfl Try.func15 (by kernel_rfl) rfl #[.slice Ao52 y158.length co52, .int .i64 5] rfl (by (try simp only [List.map_toArray, List.map_cons, List.map_nil]); first | done | rfl | (simp only [List.length_drop, List.length_take]; rfl)) ?_; (with_reducible refine (frame_Take.calls k _ _ y158 5 t162 t163 t164 _ ?side1 ?side2 A6.out).mono ?_); (case side1 => repeat (first | exact (by repeat (first | (with_reducible exact HR161.out) | (with_reducible refine Kd.C_alloc ?_ _) | (with_reducible refine Kd.C_drewN ?_ _) | (with_reducible refine Kd.C_drew ?_) | exact HR161.out)) | (with_reducible refine Kd.C_alloc ?_ _) | (with_reducible refine Kd.C_drewN ?_ _) | (with_reducible refine Kd.C_drew ?_))); (case side2 => exact HC161.out); rintro e w55 ⟨v165, rfl, ho0, hb⟩; refine ⟨_, rfl, ?_⟩; have n0_ := Aside0.mk (Kd.R_elder' (by (with_reducible repeat (first | apply Kd.R_alloc | apply Kd.R_drewN | apply Kd.R_drew)); exact HO149.out) (Kd.R_base ho0) hb); have n1_ := Aside0.mk (Kd.R_elder' (by (with_reducible repeat (first | apply Kd.R_alloc | apply Kd.R_drewN | apply Kd.R_drew)); exact HO152.out) (Kd.R_base ho0) hb); have n2_ := Aside0.mk (Kd.R_elder' (by (with_reducible repeat (first | apply Kd.R_alloc | apply Kd.R_drewN | apply Kd.R_drew)); exact HO157.out) (Kd.R_base ho0) hb); have n3_ := Aside0.mk (Kd.R_lower (Kd.R_new' (Kd.R_new' (Kd.R_new' ho0 (Kd.R_lt (by (with_reducible repeat (first | apply Kd.R_alloc | apply Kd.R_drewN | apply Kd.R_drew)); exact HO149.out))) (Kd.R_lt (by (with_reducible repeat (first | apply Kd.R_alloc | apply Kd.R_drewN | apply Kd.R_drew)); exact HO152.out))) (Kd.R_lt (by (with_reducible repeat (first | apply Kd.R_alloc | apply Kd.R_drewN | apply Kd.R_drew)); exact HO157.out))) (below_size (by repeat (first | (with_reducible first | exact HB.out | apply below_alloc | apply pw_below_drewN | apply below_drew1) | exact HB.out)))); have n4_ := Aside0.mk (Kd.C_below (by repeat (first | (with_reducible exact HR161.out) | (with_reducible refine Kd.C_alloc ?_ _) | (with_reducible refine Kd.C_drewN ?_ _) | (with_reducible refine Kd.C_drew ?_) | exact HR161.out)) hb); have n5_ := Aside0.mk (below_step (by repeat (first | (with_reducible first | exact HB.out | apply below_alloc | apply pw_below_drewN | apply below_drew1) | exact HB.out)) hb); clear HO149; clear HO152; clear HO157; clear HR161; clear HB; have HO149 := n0_; have HO152 := n1_; have HO157 := n2_; have HO166 := n3_; have HR161 := n4_; have HB := n5_; clear n0_ n1_ n2_ n3_ n4_ n5_; (try clear hb); (try clear hb2); (try clear hk); (try clear hi); (try clear ho0)))
          go_ret
          exact ⟨by first | rfl | (simp [errW_none, errW_some] <;> rfl) | (simp only [← hji3]; first | rfl | (simp [errW_none, errW_some] <;> rfl)) | (simp [*, errW_none, errW_some] <;> rfl), by repeat (first | (with_reducible first | exact HB.out | apply below_alloc | apply pw_below_drewN | apply below_drew1) | exact HB.out)⟩
      · rw [if_neg c7] at H
        have c7b0 : ((t150.length : Int) == 10) = false := beq_eq_false_iff_ne.mpr c7
        have c7b1 : ((t150.length : Int) != 10) = true := bne_iff_ne.mpr c7
        obtain rfl := Option.some.inj H
        go_enter Try.func11, Try.ntmps11
        go_wp2_with (first | ((with_reducible refine gate_dst (N := 8) rfl ?_); (try (refine gate_guard (by rfl) ?_; dsimp only)); refine Kd.R_lit (Kd.int .u8) _ 5 ?hg (N := 8) ?hd (xs := ([7] : List Int)) (inner := [.int .u8 7]) (ok := fun _ => True) (okp := fun _ => True) ?hr ?hp (fun _ hk => hk) trivial (Below.refl _ _) (Nat.le_refl _) (by simp) ?_; (case hd => rfl); (case hg => rfl); (case hr => first | (go_simp; done) | (go_simp; rfl)); (case hp => exact (Reps.one (show Kd.M (Kd.int .u8) _ _ _ 7 [.int .u8 7] from rfl) (Reps.none _ _))); intro v148 w56 ho57 hb hg_ hnew_; clear hg_ hnew_; (first | rw [← Ny147.out] at ho57 | (simp only [Int.reduceToNat] at ho57; rw [← Ny147.out] at ho57)); have n0_ := Aside0.mk (Kd.R_lower ho57 (below_size (by repeat (first | (with_reducible first | exact HB.out | apply below_alloc | apply pw_below_drewN | apply below_drew1) | exact HB.out)))); have n1_ := Aside0.mk (below_step (by repeat (first | (with_reducible first | exact HB.out | apply below_alloc | apply pw_below_drewN | apply below_drew1) | exact HB.out)) hb); clear HB; have HO149 := n0_; have HB := n1_; clear n0_ n1_; clear hb ho57; obtain ⟨Ao58, co58, eo58⟩ := Kd.R_slice HO149.out; subst eo58) | ((with_reducible refine gate_callee (f := 13) rfl ?_); refine goesL_ (some 9) rfl rfl Try.func13 (by kernel_rfl) rfl #[.slice none 0 0, .int .i64 5, .slice Ao58 y147.length co58] rfl (by (try simp only [List.map_toArray, List.map_cons, List.map_nil]); first | done | rfl | (simp only [List.length_drop, List.length_take]; rfl)) ?_; (refine (frame_Put.calls k _ _ ([] : List Int) 5 _ _ y147 t150 _ ?side1 ?side2 ?side3 ?side4 A1.out).mono ?_); (case side1 => exact Kd.C_nil _ _); (case side2 => exact Nat.le_refl _); (case side3 => repeat (first | exact (Kd.R_reads' HO149.out).2.2 | (with_reducible refine Kd.C_alloc ?_ _) | (with_reducible refine Kd.C_drewN ?_ _) | (with_reducible refine Kd.C_drew ?_))); (case side4 => exact (Kd.R_reads' HO149.out).2.1); rintro e w59 ⟨v151, rfl, ho0, hb⟩; refine ⟨_, rfl, ?_⟩; have n0_ := Aside0.mk (Kd.R_elder' (by (with_reducible repeat (first | apply Kd.R_alloc | apply Kd.R_drewN | apply Kd.R_drew)); exact HO149.out) (Kd.R_base ho0) hb); have n1_ := Aside0.mk (Kd.R_lower (Kd.R_new' ho0 (Kd.R_lt (by (with_reducible repeat (first | apply Kd.R_alloc | apply Kd.R_drewN | apply Kd.R_drew)); exact HO149.out))) (below_size (by repeat (first | (with_reducible first | exact HB.out | apply below_alloc | apply pw_below_drewN | apply below_drew1) | exact HB.out)))); have n2_ := Aside0.mk (below_step (by repeat (first | (with_reducible first | exact HB.out | apply below_alloc | apply pw_below_drewN | apply below_drew1) | exact HB.out)) hb); clear HO149; clear HB; have HO149 := n0_; have HO152 := n1_; have HB := n2_; clear n0_ n1_ n2_; (try clear hb); (try clear hb2); (try clear hk); (try clear hi); (try clear ho0); obtain ⟨Ao60, co60, eo60⟩ := Kd.R_slice HO152.out; subst eo60) | ((with_reducible refine gate_callee (f := 15) rfl ?_); refine goesL_ (some 12) rfl rfl Try.func15 (by kernel_rfl) rfl #[.slice Ao60 t150.length co60, .int .i64 5] rfl (by (try simp only [List.map_toArray, List.map_cons, List.map_nil]); first | done | rfl | (simp only [List.length_drop, List.length_take]; rfl)) ?_; (with_reducible refine (frame_Take.calls k _ _ t150 5 t153 t154 t155 _ ?side1 ?side2 A2.out).mono ?_); (case side1 => repeat (first | exact (Kd.R_reads' HO152.out).2.2 | (with_reducible refine Kd.C_alloc ?_ _) | (with_reducible refine Kd.C_drewN ?_ _) | (with_reducible refine Kd.C_drew ?_))); (case side2 => exact (Kd.R_reads' HO152.out).2.1); rintro e w61 ⟨v156, rfl, ho0, hb⟩; refine ⟨_, rfl, ?_⟩; have n0_ := Aside0.mk (Kd.R_elder' (by (with_reducible repeat (first | apply Kd.R_alloc | apply Kd.R_drewN | apply Kd.R_drew)); exact HO149.out) (Kd.R_base ho0) hb); have n1_ := Aside0.mk (Kd.R_elder' (by (with_reducible repeat (first | apply Kd.R_alloc | apply Kd.R_drewN | apply Kd.R_drew)); exact HO152.out) (Kd.R_base ho0) hb); have n2_ := Aside0.mk (Kd.R_lower (Kd.R_new' (Kd.R_new' ho0 (Kd.R_lt (by (with_reducible repeat (first | apply Kd.R_alloc | apply Kd.R_drewN | apply Kd.R_drew)); exact HO149.out))) (Kd.R_lt (by (with_reducible repeat (first | apply Kd.R_alloc | apply Kd.R_drewN | apply Kd.R_drew)); exact HO152.out))) (below_size (by repeat (first | (with_reducible first | exact HB.out | apply below_alloc | apply pw_below_drewN | apply below_drew1) | exact HB.out)))); have n3_ := Aside0.mk (below_step (by repeat (first | (with_reducible first | exact HB.out | apply below_alloc | apply pw_below_drewN | apply below_drew1) | exact HB.out)) hb); clear HO149; clear HO152; clear HB; have HO149 := n0_; have HO152 := n1_; have HO157 := n2_; have HB := n3_; clear n0_ n1_ n2_ n3_; (try clear hb); (try clear hb2); (try clear hk); (try clear hi); (try clear ho0); have q62 : ((ji3) : Int) ≤ ((t150.length : Int) : Int) := of_decide_eq_true (by first | (with_reducible assumption) | assumption); obtain ⟨i062, hi062, _, hsz62, _⟩ := info_parts info5; have hroom62 : t150.length ≤ co60 := (Kd.R_reads' HO152.out).2.1; have hC62 : Kd.C (Kd.int .u8) _ Ao60 t150.length t150 := (Kd.R_reads' HO152.out).2.2; have hcut62 := cut_to (P := Try.prog) 22 5 .i64 Try.underlying22 hi062 Ao60 t150.length co60 (ji3) (of_decide_eq_true (by first | (with_reducible assumption) | assumption)) q62 hroom62; have hr62 := Kd.C_take (m := ((ji3) : Int).toNat) hC62 (by omega); have hy62 : y158.length = ((ji3) : Int).toNat := (by rw [Ny158.out, List.length_take]; omega); rw [← Ny158.out] at hr62; rw [← hy62] at hcut62; have HR161 := Aside0.mk hr62; have HC161 := Aside0.mk (show y158.length ≤ co60 from by omega); clear hr62 hC62 hroom62 hi062 hsz62; have KY62 := Aside0.mk hy62; clear hy62; have KL62 := Aside0.mk (show ((ji3) : Int).toNat ≤ t150.length from by omega); replace q62 := eq_true q62) | ((with_reducible refine gate_callee (f := 15) rfl ?_); refine goesL_ (some 23) rfl rfl Try.func15 (by kernel_rfl) rfl #[.slice Ao60 y158.length co60, .int .i64 5] rfl (by (try simp only [List.map_toArray, List.map_cons, List.map_nil]); first | done | rfl | (simp only [List.length_drop, List.length_take]; rfl)) ?_; (with_reducible refine (frame_Take.calls k _ _ y158 5 t162 t163 t164 _ ?side1 ?side2 A6.out).mono ?_); (case side1 => repeat (first | exact (by repeat (first | (with_reducible exact HR161.out) | (with_reducible refine Kd.C_alloc ?_ _) | (with_reducible refine Kd.C_drewN ?_ _) | (with_reducible refine Kd.C_drew ?_) | exact HR161.out)) | (with_reducible refine Kd.C_alloc ?_ _) | (with_reducible refine Kd.C_drewN ?_ _) | (with_reducible refine Kd.C_drew ?_))); (case side2 => exact HC161.out); rintro e w63 ⟨v165, rfl, ho0, hb⟩; refine ⟨_, rfl, ?_⟩; have n0_ := Aside0.mk (Kd.R_elder' (by (with_reducible repeat (first | apply Kd.R_alloc | apply Kd.R_drewN | apply Kd.R_drew)); exact HO149.out) (Kd.R_base ho0) hb); have n1_ := Aside0.mk (Kd.R_elder' (by (with_reducible repeat (first | apply Kd.R_alloc | apply Kd.R_drewN | apply Kd.R_drew)); exact HO152.out) (Kd.R_base ho0) hb); have n2_ := Aside0.mk (Kd.R_elder' (by (with_reducible repeat (first | apply Kd.R_alloc | apply Kd.R_drewN | apply Kd.R_drew)); exact HO157.out) (Kd.R_base ho0) hb); have n3_ := Aside0.mk (Kd.R_lower (Kd.R_new' (Kd.R_new' (Kd.R_new' ho0 (Kd.R_lt (by (with_reducible repeat (first | apply Kd.R_alloc | apply Kd.R_drewN | apply Kd.R_drew)); exact HO149.out))) (Kd.R_lt (by (with_reducible repeat (first | apply Kd.R_alloc | apply Kd.R_drewN | apply Kd.R_drew)); exact HO152.out))) (Kd.R_lt (by (with_reducible repeat (first | apply Kd.R_alloc | apply Kd.R_drewN | apply Kd.R_drew)); exact HO157.out))) (below_size (by repeat (first | (with_reducible first | exact HB.out | apply below_alloc | apply pw_below_drewN | apply below_drew1) | exact HB.out)))); have n4_ := Aside0.mk (Kd.C_below (by repeat (first | (with_reducible exact HR161.out) | (with_reducible refine Kd.C_alloc ?_ _) | (with_reducible refine Kd.C_drewN ?_ _) | (with_reducible refine Kd.C_drew ?_) | exact HR161.out)) hb); have n5_ := Aside0.mk (below_step (by repeat (first | (with_reducible first | exact HB.out | apply below_alloc | apply pw_below_drewN | apply below_drew1) | exact HB.out)) hb); clear HO149; clear HO152; clear HO157; clear HR161; clear HB; have HO149 := n0_; have HO152 := n1_; have HO157 := n2_; have HO166 := n3_; have HR161 := n4_; have HB := n5_; clear n0_ n1_ n2_ n3_ n4_ n5_; (try clear hb); (try clear hb2); (try clear hk); (try clear hi); (try clear ho0)))
        go_ret
        exact ⟨by first | rfl | (simp [errW_none, errW_some] <;> rfl) | (simp only [← hji3]; first | rfl | (simp [errW_none, errW_some] <;> rfl)) | (simp [*, errW_none, errW_some] <;> rfl), by repeat (first | (with_reducible first | exact HB.out | apply below_alloc | apply pw_below_drewN | apply below_drew1) | exact HB.out)⟩
    · rw [if_neg c5] at H
      exact absurd H (by simp)
  · rw [if_neg c4] at H
    exact absurd H (by simp)

/-! ### cellplaneref01_SameBytes: function 12 -/
def cellplaneref01_SameBytes.f (l0 : List Int) (l1 : List Int) : Option (Bool) := some ((strOfNums l0).toList == (strOfNums l1).toList)
set_option maxHeartbeats 8000000 in
set_option maxRecDepth 100000 in
theorem cellplaneref01_SameBytes.calls (A0 : Option Addr) (c0 : Nat) (l0 : List Int) (A1 : Option Addr) (c1 : Nat) (l1 : List Int) (r : Bool) (w : World) (hr0 : Kd.C (Kd.int .u8) w A0 l0.length l0) (hc0 : l0.length ≤ c0) (hr1 : Kd.C (Kd.int .u8) w A1 l1.length l1) (hc1 : l1.length ≤ c1) (h : cellplaneref01_SameBytes.f l0 l1 = some r) :
    Calls Try.prog 12 #[.slice A0 l0.length c0, .slice A1 l1.length c1] w fun e w' => e = .returned (.bool r) ∧ Drawn0 w w' := by
  have HR0 := Aside0.mk hr0
  have HC0 := Aside0.mk hc0
  clear hr0 hc0
  have HR1 := Aside0.mk hr1
  have HC1 := Aside0.mk hc1
  clear hr1 hc1
  have H : (some ((strOfNums l0).toList == (strOfNums l1).toList)) = some r := h
  clear h
  obtain rfl := Option.some.inj H
  have hcv3 := Kd.C_string (P := Try.prog) (A := A0) (c := c0) Try.underlying22 Try.underlying5 Try.underlying9 HR0.out
  have hcw4 := fun nq_ => Kd.C_string (P := Try.prog) (A := A0) (c := c0) Try.underlying22 Try.underlying5 Try.underlying9 (Kd.C_drewN HR0.out nq_)
  have hcv5 := Kd.C_string (P := Try.prog) (A := A1) (c := c1) Try.underlying22 Try.underlying5 Try.underlying9 HR1.out
  have hcw6 := fun nq_ => Kd.C_string (P := Try.prog) (A := A1) (c := c1) Try.underlying22 Try.underlying5 Try.underlying9 (Kd.C_drewN HR1.out nq_)
  go_enter Try.func12, Try.ntmps12
  go_wp2
  go_ret
  exact ⟨by first | rfl | (simp; done) | (simp [*]; done), by repeat (first | exact Drawn0.refl _ | apply Drawn0.step)⟩

/-! ### cellplaneref02_Eight: function 24 -/
def cellplaneref02_Eight.l0 : Nat → Int → List Int → Int → Option (List Int)
  | 0, _, _, _ => none
  | k + 1, x1, x5, x6 => if x6 < 8 then (if 0 ≤ (IntKind.u64.wrap (wrap64 (8 * x6))) then (if x5.length < 225179981368000 then (cellplaneref02_Eight.l0 k x1 (x5 ++ [(shr .u64 x1 (IntKind.u64.wrap (wrap64 (8 * x6)))) % 256]) (wrap64 (x6 + 1))) else (none)) else (none)) else (some x5)
def cellplaneref02_Eight.f (k : Nat) (l0 : List Int) (a1 : Int) : Option (List Int) := (some (([] : List Int) : List Int)).bind fun y168 => (if y168.length + l0.length < 225179981368000 then (cellplaneref02_Eight.l0 k a1 (y168 ++ l0) 0) else (none))
theorem cellplaneref02_Eight.mono_l : ∀ k, (∀ y0 y1 y2, LeO (cellplaneref02_Eight.l0 k y0 y1 y2) (cellplaneref02_Eight.l0 (k + 1) y0 y1 y2))
  | 0 => fun _ _ _ r h => by simp [cellplaneref02_Eight.l0] at h
  | k + 1 => by
    have ih0 := cellplaneref02_Eight.mono_l k
    · intro y0 y1 y2
      unfold cellplaneref02_Eight.l0
      repeat' first
      | (with_reducible exact ih0 _ _ _)
      | (with_reducible exact LeO.refl _)
      | (with_reducible exact LeO.none _)
      | (with_reducible refine LeO.ite ?_ ?_)
      | (with_reducible refine LeO.bind ?_ (fun _ => ?_))
      | exact ih0 _ _ _
      | exact LeO.none _
      | refine LeO.ite ?_ ?_
      | refine LeO.bind ?_ (fun _ => ?_)
theorem cellplaneref02_Eight.mono : ∀ a0 a1 k, LeO (cellplaneref02_Eight.f k a0 a1) (cellplaneref02_Eight.f (k + 1) a0 a1) := by
  intro a0 a1 k
  have ih0 := cellplaneref02_Eight.mono_l k
  unfold cellplaneref02_Eight.f
  repeat' first
      | (with_reducible exact ih0 _ _ _)
      | (with_reducible exact LeO.refl _)
      | (with_reducible exact LeO.none _)
      | (with_reducible refine LeO.ite ?_ ?_)
      | (with_reducible refine LeO.bind ?_ (fun _ => ?_))
      | exact ih0 _ _ _
      | exact LeO.none _
      | refine LeO.ite ?_ ?_
      | refine LeO.bind ?_ (fun _ => ?_)
set_option maxHeartbeats 8000000 in
set_option maxRecDepth 100000 in
theorem cellplaneref02_Eight.calls (k : Nat) (A0 : Option Addr) (c0 : Nat) (l0 : List Int) (a1 : Int) (r : List Int) (w : World) (hr0 : Kd.C (Kd.int .u8) w A0 l0.length l0) (hc0 : l0.length ≤ c0) (h : cellplaneref02_Eight.f k l0 a1 = some r) :
    Calls Try.prog 24 #[.slice A0 l0.length c0, .int .u64 a1] w fun e w' => ∃ v0_ : Value, e = .returned (v0_) ∧ Kd.R (Kd.int .u8) 5 w' w.heap.size (fun _ => True) v0_ r ∧ Below w.heap.size w w' := by
  have HR0 := Aside0.mk hr0
  have HC0 := Aside0.mk hc0
  clear hr0 hc0
  have HB := Aside0.mk (Below.refl w.heap.size w)
  have H : ((some (([] : List Int) : List Int)).bind fun y168 => (if y168.length + l0.length < 225179981368000 then (cellplaneref02_Eight.l0 k a1 (y168 ++ l0) 0) else (none))) = some r := h
  clear h
  obtain ⟨y168, hy168⟩ : ∃ y_ : List Int, y_ = (([] : List Int)) := ⟨_, rfl⟩
  replace H : (if y168.length + l0.length < 225179981368000 then (cellplaneref02_Eight.l0 k a1 (y168 ++ l0) 0) else (none)) = some r := by first | (rw [hy168]; with_reducible exact H) | (have H2_ := (Option.bind_some _ _).symm.trans H; rw [hy168]; with_reducible exact H2_) | (have H2_ := (Option.bind_some _ _).symm.trans H; with_reducible exact H2_) | with_reducible exact H | (rw [hy168]; exact H) | exact H
  have Ny168 := Aside0.mk hy168
  clear hy168
  by_cases c3 : y168.length + l0.length < 225179981368000
  · rw [if_pos c3] at H
    have LMc3 := Aside0.mk c3
    clear c3
    obtain ⟨y171, hy171⟩ : ∃ y_ : List Int, y_ = (y168 ++ l0) := ⟨_, rfl⟩
    replace H : (cellplaneref02_Eight.l0 k a1 y171 0) = some r := by first | (rw [hy171]; with_reducible exact H) | (have H2_ := (Option.bind_some _ _).symm.trans H; rw [hy171]; with_reducible exact H2_) | (have H2_ := (Option.bind_some _ _).symm.trans H; with_reducible exact H2_) | with_reducible exact H | (rw [hy171]; exact H) | exact H
    have Ny171 := Aside0.mk hy171
    clear hy171
    have H' := Aside0.mk H
    clear H
    go_enter Try.func24, Try.ntmps24
    go_wp2_with (first | ((with_reducible refine gate_dst (N := 7) rfl ?_); refine Kd.R_lit (Kd.int .u8) _ 5 ?hg (N := 7) ?hd (xs := ([] : List Int)) (inner := []) (ok := fun _ => True) (okp := fun _ => True) ?hr ?hp (fun _ hk => hk) trivial (Below.refl _ _) (Nat.le_refl _) (by simp) ?_; (case hd => rfl); (case hg => rfl); (case hr => first | (go_simp; done) | (go_simp; rfl)); (case hp => exact (Reps.none _ _)); intro v169 w4 ho5 hb hg_ hnew_; clear hg_ hnew_; (first | rw [← Ny168.out] at ho5 | (simp only [Int.reduceToNat] at ho5; rw [← Ny168.out] at ho5)); have n0_ := Aside0.mk (Kd.R_lower ho5 (below_size (by repeat (first | (with_reducible first | exact HB.out | apply below_alloc | apply pw_below_drewN | apply below_drew1) | exact HB.out)))); have n1_ := Aside0.mk (below_step (by repeat (first | (with_reducible first | exact HB.out | apply below_alloc | apply pw_below_drewN | apply below_drew1) | exact HB.out)) hb); clear HB; have HO170 := n0_; have HB := n1_; clear n0_ n1_; clear hb ho5) | ((with_reducible refine gate_builtin (b := .append) (xs := #[.tmp 7, .tmp 8]) rfl ?_); at_builtin; refine Kd.R_append_rows_w (Kd.int .u8) (w0 := w) w.heap.size rfl (.tmp 7) (.tmp 8) 22 5 (.int .u8 0) 1 rfl Try.underlying22 info5 rfl (by decide) (by omega) v169 y168 l0 _ _ _ (fun _ => True) (fun _ => False) rfl rfl ?aO ?aR (fun _ _ h => h) (fun _ h => h.elim) ?aF ?aB ?aS ?aL ?_; (case aR => repeat (first | exact (Kd.C_below HR0.out HB.out) | (with_reducible refine Kd.C_alloc ?_ _) | (with_reducible refine Kd.C_drewN ?_ _) | (with_reducible refine Kd.C_drew ?_))); (case aB => exact (by repeat (first | (with_reducible first | exact HB.out | apply below_alloc | apply pw_below_drewN | apply below_drew1) | exact HB.out))); (case aF => exact (fun _ _ => trivial)); (case aO => exact (by (with_reducible repeat (first | apply Kd.R_alloc | apply Kd.R_drewN | apply Kd.R_drew)); exact HO170.out)); (case aS => exact (below_size (by repeat (first | (with_reducible first | exact HB.out | apply below_alloc | apply pw_below_drewN | apply below_drew1) | exact HB.out)))); (case aL => have := LMc3.out; omega); intro v172 w6 ho hb hg hat; rw [← Ny171.out] at ho; have n0_ := Aside0.mk (hb); have n1_ := Aside0.mk (ho); clear HB; clear HO170; have HB := n0_; have HO173 := n1_; clear n0_ n1_; clear ho hb hg hat))
    go_loopg [5, 6] k (fun kq v5 v6 w' => ∃ (x5_1 : List Int) (x6_1 : Int), v6 = .int .i64 x6_1 ∧ Aside0 (cellplaneref02_Eight.l0 kq a1 x5_1 x6_1 = some r) ∧ Aside0 (kq ≤ k) ∧ Aside0 (Kd.R (Kd.int .u8) 5 w' w.heap.size (fun _ => True) v5 x5_1) ∧ Aside0 (Below w.heap.size w w'))
    case atStart => exact ⟨(y171), (0), (by first | rfl | (simp; done) | (simp [*]; done)), H', ⟨Nat.le_refl _⟩, ⟨by (with_reducible repeat (first | apply Kd.R_alloc | apply Kd.R_drewN | apply Kd.R_drew)); exact HO173.out⟩, ⟨by repeat (first | (with_reducible first | exact HB.out | apply below_alloc | apply pw_below_drewN | apply below_drew1) | exact HB.out)⟩⟩
    case round =>
      clear H'
      try clear c2
      try clear p2
      try clear c3
      obtain ⟨x5_1, x6_1, rfl, HA, HK1, HO_5, HB⟩ := hrel
      cases gk with
      | zero => exact absurd HA.out (by simp [cellplaneref02_Eight.l0])
      | succ k1 =>
        have H := HA.out
        clear HA
        simp only [cellplaneref02_Eight.l0] at H
        by_cases c7 : x6_1 < 8
        · rw [if_pos c7] at H
          have c7b0 : decide (x6_1 < 8) = true := decide_eq_true c7
          clear c7
          obtain ⟨ji8, hji8⟩ : ∃ j_ : Int, (IntKind.u64.wrap (wrap64 (8 * x6_1))) = j_ := ⟨_, rfl⟩
          replace H : (if 0 ≤ (ji8) then (if x5_1.length < 225179981368000 then (cellplaneref02_Eight.l0 k1 a1 (x5_1 ++ [(shr .u64 a1 (ji8)) % 256]) (wrap64 (x6_1 + 1))) else (none)) else (none)) = some r := by first | (rw [hji8] at H; exact H) | (simp only [hji8] at H ⊢; exact H)
          by_cases c9 : 0 ≤ (ji8)
          · rw [if_pos c9] at H
            have c9b0 := eq_true c9
            have c9b1 : decide (0 ≤ (ji8)) = true := decide_eq_true c9
            clear c9
            obtain ⟨ji10, hji10⟩ : ∃ j_ : Int, (shr .u64 a1 (ji8)) = j_ := ⟨_, rfl⟩
            replace H : (if x5_1.length < 225179981368000 then (cellplaneref02_Eight.l0 k1 a1 (x5_1 ++ [(ji10) % 256]) (wrap64 (x6_1 + 1))) else (none)) = some r := by first | (rw [hji10] at H; exact H) | (simp only [hji10] at H ⊢; exact H)
            have hji10_ : (a1 / 2 ^ min (ji8).toNat 64) = ji10 := hji10
            have hji10z : (ji8) ≤ 64 → (a1 / 2 ^ (ji8).toNat) = ji10 := shr_small hji10
            by_cases c11 : x5_1.length < 225179981368000
            · rw [if_pos c11] at H
              have LMc11 := Aside0.mk c11
              clear c11
              obtain ⟨y174, hy174⟩ : ∃ y_ : List Int, y_ = (x5_1 ++ [(ji10) % 256]) := ⟨_, rfl⟩
              replace H : (cellplaneref02_Eight.l0 k1 a1 y174 (wrap64 (x6_1 + 1))) = some r := by first | (rw [hy174]; with_reducible exact H) | (have H2_ := (Option.bind_some _ _).symm.trans H; rw [hy174]; with_reducible exact H2_) | (have H2_ := (Option.bind_some _ _).symm.trans H; with_reducible exact H2_) | with_reducible exact H | (rw [hy174]; exact H) | exact H
              have Ny174 := Aside0.mk hy174
              clear hy174
              have H' := Aside0.mk H
              clear H
              go_wp2_with (first | ((with_reducible refine gate_builtin (b := .append) (xs := #[.tmp 14, .tmp 21]) rfl ?_); at_builtin; refine Kd.R_append_w (Kd.int .u8) (w0 := w) w.heap.size rfl (.tmp 14) (.tmp 21) 22 5 (.int .u8 0) 1 rfl Try.underlying22 info5 rfl (by decide) (by omega) u5 x5_1 ((ji10) % 256) [.int .u8 ((ji10) % 256)] (fun _ => True) (fun _ => False) rfl rfl ?aP (fun _ hk => hk.elim) ?aF ?aO ?aB ?aS ?aL ?_; (case aP => exact rfl); (case aB => exact (by repeat (first | (with_reducible first | exact HB.out | apply below_alloc | apply pw_below_drewN | apply below_drew1) | exact HB.out))); (case aF => exact (fun _ _ => trivial)); (case aO => exact (by (with_reducible repeat (first | apply Kd.R_alloc | apply Kd.R_drewN | apply Kd.R_drew)); exact HO_5.out)); (case aS => exact (below_size (by repeat (first | (with_reducible first | exact HB.out | apply below_alloc | apply pw_below_drewN | apply below_drew1) | exact HB.out)))); (case aL => have := LMc11.out; omega); intro v175 w12 ho hb hg hat; rw [← Ny174.out] at ho; have n0_ := Aside0.mk (hb); have n1_ := Aside0.mk (ho); clear HB; clear HO_5; have HB := n0_; have HO176 := n1_; clear n0_ n1_; clear ho hb hg hat))
              go_roundg k1
              case measure => have := HK1.out; omega
              case rel => exact ⟨(y174), (wrap64 (x6_1 + 1)), (by first | rfl | (simp; done) | (simp [*]; done)), H', ⟨by have := HK1.out; omega⟩, ⟨by (with_reducible repeat (first | apply Kd.R_alloc | apply Kd.R_drewN | apply Kd.R_drew)); exact HO176.out⟩, ⟨by repeat (first | (with_reducible first | exact HB.out | apply below_alloc | apply pw_below_drewN | apply below_drew1) | exact HB.out)⟩⟩
            · rw [if_neg c11] at H
              exact absurd H (by simp)
          · rw [if_neg c9] at H
            exact absurd H (by simp)
        · rw [if_neg c7] at H
          have c7b0 : decide (x6_1 < 8) = false := decide_eq_false c7
          clear c7
          obtain rfl := Option.some.inj H
          go_wp2
          go_ret
          exact ⟨_, by first | rfl | (simp [errW_none, errW_some] <;> rfl) | (simp [*, errW_none, errW_some] <;> rfl), by (with_reducible repeat (first | apply Kd.R_alloc | apply Kd.R_drewN | apply Kd.R_drew)); exact HO_5.out, by repeat (first | (with_reducible first | exact HB.out | apply below_alloc | apply pw_below_drewN | apply below_drew1) | exact HB.out)⟩
  · rw [if_neg c3] at H
    exact absurd H (by simp)

/-! ### cellplaneref01_code: function 35 -/
def cellplaneref01_code.f (a0 : Int) : Option (Int) := if a0 ≥ 0 then (some (IntKind.u64.wrap (2 * (IntKind.u64.wrap (a0))))) else (some (IntKind.u64.wrap ((IntKind.u64.wrap (2 * (IntKind.u64.wrap (wrap64 (-(wrap64 (a0 + 1))))))) + 1)))
set_option maxHeartbeats 8000000 in
set_option maxRecDepth 100000 in
theorem cellplaneref01_code.calls (a0 : Int) (r : Int) (w : World) (h : cellplaneref01_code.f a0 = some r) :
    Calls Try.prog 35 #[.int .i64 a0] w fun e w' => e = .returned (.int .u64 r) ∧ Drawn0 w w' := by
  have H : (if a0 ≥ 0 then (some (IntKind.u64.wrap (2 * (IntKind.u64.wrap (a0))))) else (some (IntKind.u64.wrap ((IntKind.u64.wrap (2 * (IntKind.u64.wrap (wrap64 (-(wrap64 (a0 + 1))))))) + 1)))) = some r := h
  clear h
  by_cases c2 : a0 ≥ 0
  · rw [if_pos c2] at H
    have c2b0 : decide (0 ≤ a0) = true := decide_eq_true c2
    clear c2
    obtain rfl := Option.some.inj H
    go_enter Try.func35, Try.ntmps35
    go_wp2
    go_ret
    exact ⟨by first | rfl | (simp; done) | (simp [*]; done), by repeat (first | exact Drawn0.refl _ | apply Drawn0.step)⟩
  · rw [if_neg c2] at H
    have c2b0 : decide (0 ≤ a0) = false := decide_eq_false c2
    clear c2
    obtain rfl := Option.some.inj H
    go_enter Try.func35, Try.ntmps35
    go_wp2
    go_ret
    exact ⟨by first | rfl | (simp; done) | (simp [*]; done), by repeat (first | exact Drawn0.refl _ | apply Drawn0.step)⟩

/-! ### cellplaneref01_Int: function 25 -/
def cellplaneref01_Int.l0 : Nat → List Int → Int → Option (List Int)
  | 0, _, _ => none
  | k + 1, x5, x6 => if x6 ≥ 128 then (if x5.length < 225179981368000 then (cellplaneref01_Int.l0 k (x5 ++ [((Int.tmod x6 128) + 128) % 256]) (IntKind.u64.wrap (Int.tdiv x6 128))) else (none)) else (if x5.length < 225179981368000 then (some (x5 ++ [(x6) % 256])) else (none))
def cellplaneref01_Int.f (k : Nat) (l0 : List Int) (a1 : Int) : Option (List Int) := (some (([] : List Int) : List Int)).bind fun y177 => (if y177.length + l0.length < 225179981368000 then ((cellplaneref01_code.f a1).bind fun t183 => (cellplaneref01_Int.l0 k (y177 ++ l0) t183)) else (none))
theorem cellplaneref01_Int.mono_l : ∀ k, (∀ y0 y1, LeO (cellplaneref01_Int.l0 k y0 y1) (cellplaneref01_Int.l0 (k + 1) y0 y1))
  | 0 => fun _ _ r h => by simp [cellplaneref01_Int.l0] at h
  | k + 1 => by
    have ih0 := cellplaneref01_Int.mono_l k
    · intro y0 y1
      unfold cellplaneref01_Int.l0
      repeat' first
      | (with_reducible exact ih0 _ _)
      | (with_reducible exact LeO.refl _)
      | (with_reducible exact LeO.none _)
      | (with_reducible refine LeO.ite ?_ ?_)
      | (with_reducible refine LeO.bind ?_ (fun _ => ?_))
      | exact ih0 _ _
      | exact LeO.none _
      | refine LeO.ite ?_ ?_
      | refine LeO.bind ?_ (fun _ => ?_)
theorem cellplaneref01_Int.mono : ∀ a0 a1 k, LeO (cellplaneref01_Int.f k a0 a1) (cellplaneref01_Int.f (k + 1) a0 a1) := by
  intro a0 a1 k
  have ih0 := cellplaneref01_Int.mono_l k
  unfold cellplaneref01_Int.f
  repeat' first
      | (with_reducible exact ih0 _ _)
      | (with_reducible exact LeO.refl _)
      | (with_reducible exact LeO.none _)
      | (with_reducible refine LeO.ite ?_ ?_)
      | (with_reducible refine LeO.bind ?_ (fun _ => ?_))
      | exact ih0 _ _
      | exact LeO.none _
      | refine LeO.ite ?_ ?_
      | refine LeO.bind ?_ (fun _ => ?_)
set_option maxHeartbeats 8000000 in
set_option maxRecDepth 100000 in
theorem cellplaneref01_Int.calls (k : Nat) (A0 : Option Addr) (c0 : Nat) (l0 : List Int) (a1 : Int) (r : List Int) (w : World) (hr0 : Kd.C (Kd.int .u8) w A0 l0.length l0) (hc0 : l0.length ≤ c0) (h : cellplaneref01_Int.f k l0 a1 = some r) :
    Calls Try.prog 25 #[.slice A0 l0.length c0, .int .i64 a1] w fun e w' => ∃ v0_ : Value, e = .returned (v0_) ∧ Kd.R (Kd.int .u8) 5 w' w.heap.size (fun _ => True) v0_ r ∧ Below w.heap.size w w' := by
  have HR0 := Aside0.mk hr0
  have HC0 := Aside0.mk hc0
  clear hr0 hc0
  have HB := Aside0.mk (Below.refl w.heap.size w)
  have H : ((some (([] : List Int) : List Int)).bind fun y177 => (if y177.length + l0.length < 225179981368000 then ((cellplaneref01_code.f a1).bind fun t183 => (cellplaneref01_Int.l0 k (y177 ++ l0) t183)) else (none))) = some r := h
  clear h
  obtain ⟨y177, hy177⟩ : ∃ y_ : List Int, y_ = (([] : List Int)) := ⟨_, rfl⟩
  replace H : (if y177.length + l0.length < 225179981368000 then ((cellplaneref01_code.f a1).bind fun t183 => (cellplaneref01_Int.l0 k (y177 ++ l0) t183)) else (none)) = some r := by first | (rw [hy177]; with_reducible exact H) | (have H2_ := (Option.bind_some _ _).symm.trans H; rw [hy177]; with_reducible exact H2_) | (have H2_ := (Option.bind_some _ _).symm.trans H; with_reducible exact H2_) | with_reducible exact H | (rw [hy177]; exact H) | exact H
  have Ny177 := Aside0.mk hy177
  clear hy177
  by_cases c3 : y177.length + l0.length < 225179981368000
  · rw [if_pos c3] at H
    have LMc3 := Aside0.mk c3
    clear c3
    obtain ⟨y180, hy180⟩ : ∃ y_ : List Int, y_ = (y177 ++ l0) := ⟨_, rfl⟩
    replace H : ((cellplaneref01_code.f a1).bind fun t183 => (cellplaneref01_Int.l0 k y180 t183)) = some r := by first | (rw [hy180]; with_reducible exact H) | (have H2_ := (Option.bind_some _ _).symm.trans H; rw [hy180]; with_reducible exact H2_) | (have H2_ := (Option.bind_some _ _).symm.trans H; with_reducible exact H2_) | with_reducible exact H | (rw [hy180]; exact H) | exact H
    have Ny180 := Aside0.mk hy180
    clear hy180
    replace H := Option.bind_eq_some_iff.mp H
    obtain ⟨t183, A40, H⟩ := H
    replace H : (cellplaneref01_Int.l0 k y180 t183) = some r := H
    have A4 := Aside0.mk A40
    clear A40
    have H' := Aside0.mk H
    clear H
    go_enter Try.func25, Try.ntmps25
    go_wp2_with (first | ((with_reducible refine gate_dst (N := 7) rfl ?_); refine Kd.R_lit (Kd.int .u8) _ 5 ?hg (N := 7) ?hd (xs := ([] : List Int)) (inner := []) (ok := fun _ => True) (okp := fun _ => True) ?hr ?hp (fun _ hk => hk) trivial (Below.refl _ _) (Nat.le_refl _) (by simp) ?_; (case hd => rfl); (case hg => rfl); (case hr => first | (go_simp; done) | (go_simp; rfl)); (case hp => exact (Reps.none _ _)); intro v178 w5 ho6 hb hg_ hnew_; clear hg_ hnew_; (first | rw [← Ny177.out] at ho6 | (simp only [Int.reduceToNat] at ho6; rw [← Ny177.out] at ho6)); have n0_ := Aside0.mk (Kd.R_lower ho6 (below_size (by repeat (first | (with_reducible first | exact HB.out | apply below_alloc | apply pw_below_drewN | apply below_drew1) | exact HB.out)))); have n1_ := Aside0.mk (below_step (by repeat (first | (with_reducible first | exact HB.out | apply below_alloc | apply pw_below_drewN | apply below_drew1) | exact HB.out)) hb); clear HB; have HO179 := n0_; have HB := n1_; clear n0_ n1_; clear hb ho6) | ((with_reducible refine gate_builtin (b := .append) (xs := #[.tmp 7, .tmp 8]) rfl ?_); at_builtin; refine Kd.R_append_rows_w (Kd.int .u8) (w0 := w) w.heap.size rfl (.tmp 7) (.tmp 8) 22 5 (.int .u8 0) 1 rfl Try.underlying22 info5 rfl (by decide) (by omega) v178 y177 l0 _ _ _ (fun _ => True) (fun _ => False) rfl rfl ?aO ?aR (fun _ _ h => h) (fun _ h => h.elim) ?aF ?aB ?aS ?aL ?_; (case aR => repeat (first | exact (Kd.C_below HR0.out HB.out) | (with_reducible refine Kd.C_alloc ?_ _) | (with_reducible refine Kd.C_drewN ?_ _) | (with_reducible refine Kd.C_drew ?_))); (case aB => exact (by repeat (first | (with_reducible first | exact HB.out | apply below_alloc | apply pw_below_drewN | apply below_drew1) | exact HB.out))); (case aF => exact (fun _ _ => trivial)); (case aO => exact (by (with_reducible repeat (first | apply Kd.R_alloc | apply Kd.R_drewN | apply Kd.R_drew)); exact HO179.out)); (case aS => exact (below_size (by repeat (first | (with_reducible first | exact HB.out | apply below_alloc | apply pw_below_drewN | apply below_drew1) | exact HB.out)))); (case aL => have := LMc3.out; omega); intro v181 w7 ho hb hg hat; rw [← Ny180.out] at ho; have n0_ := Aside0.mk (hb); have n1_ := Aside0.mk (ho); clear HB; clear HO179; have HB := n0_; have HO182 := n1_; clear n0_ n1_; clear ho hb hg hat) | ((with_reducible refine gate_callee (f := 35) rfl ?_); refine goesL_ (some 11) rfl rfl Try.func35 (by kernel_rfl) rfl #[.int .i64 a1] rfl (by (try simp only [List.map_toArray, List.map_cons, List.map_nil]); first | done | rfl | (simp only [List.length_drop, List.length_take]; rfl)) ?_; (with_reducible refine (cellplaneref01_code.calls a1 t183 _ A4.out).mono ?_); rintro e w' ⟨rfl, ⟨nd, rfl⟩⟩; refine ⟨_, rfl, ?_⟩))
    go_loopg [5, 6] k (fun kq v5 v6 w' => ∃ (x5_1 : List Int) (x6_1 : Int), v6 = .int .u64 x6_1 ∧ Aside0 (cellplaneref01_Int.l0 kq x5_1 x6_1 = some r) ∧ Aside0 (kq ≤ k) ∧ Aside0 (Kd.R (Kd.int .u8) 5 w' w.heap.size (fun _ => True) v5 x5_1) ∧ Aside0 (Below w.heap.size w w'))
    case atStart => exact ⟨(y180), (t183), (by first | rfl | (simp; done) | (simp [*]; done)), H', ⟨Nat.le_refl _⟩, ⟨by (with_reducible repeat (first | apply Kd.R_alloc | apply Kd.R_drewN | apply Kd.R_drew)); exact HO182.out⟩, ⟨by repeat (first | (with_reducible first | exact HB.out | apply below_alloc | apply pw_below_drewN | apply below_drew1) | exact HB.out)⟩⟩
    case round =>
      clear H'
      try clear c2
      try clear p2
      try clear c3
      obtain ⟨x5_1, x6_1, rfl, HA, HK1, HO_5, HB⟩ := hrel
      cases gk with
      | zero => exact absurd HA.out (by simp [cellplaneref01_Int.l0])
      | succ k1 =>
        have H := HA.out
        clear HA
        simp only [cellplaneref01_Int.l0] at H
        by_cases c8 : x6_1 ≥ 128
        · rw [if_pos c8] at H
          have c8b0 : decide (128 ≤ x6_1) = true := decide_eq_true c8
          clear c8
          by_cases c9 : x5_1.length < 225179981368000
          · rw [if_pos c9] at H
            have LMc9 := Aside0.mk c9
            clear c9
            obtain ⟨y184, hy184⟩ : ∃ y_ : List Int, y_ = (x5_1 ++ [((Int.tmod x6_1 128) + 128) % 256]) := ⟨_, rfl⟩
            replace H : (cellplaneref01_Int.l0 k1 y184 (IntKind.u64.wrap (Int.tdiv x6_1 128))) = some r := by first | (rw [hy184]; with_reducible exact H) | (have H2_ := (Option.bind_some _ _).symm.trans H; rw [hy184]; with_reducible exact H2_) | (have H2_ := (Option.bind_some _ _).symm.trans H; with_reducible exact H2_) | with_reducible exact H | (rw [hy184]; exact H) | exact H
            have Ny184 := Aside0.mk hy184
            clear hy184
            have H' := Aside0.mk H
            clear H
            go_wp2_with (first | ((with_reducible refine gate_builtin (b := .append) (xs := #[.tmp 14, .tmp 19]) rfl ?_); at_builtin; refine Kd.R_append_w (Kd.int .u8) (w0 := w) w.heap.size rfl (.tmp 14) (.tmp 19) 22 5 (.int .u8 0) 1 rfl Try.underlying22 info5 rfl (by decide) (by omega) u5 x5_1 (((Int.tmod x6_1 128) + 128) % 256) [.int .u8 (((Int.tmod x6_1 128) + 128) % 256)] (fun _ => True) (fun _ => False) rfl rfl ?aP (fun _ hk => hk.elim) ?aF ?aO ?aB ?aS ?aL ?_; (case aP => exact rfl); (case aB => exact (by repeat (first | (with_reducible first | exact HB.out | apply below_alloc | apply pw_below_drewN | apply below_drew1) | exact HB.out))); (case aF => exact (fun _ _ => trivial)); (case aO => exact (by (with_reducible repeat (first | apply Kd.R_alloc | apply Kd.R_drewN | apply Kd.R_drew)); exact HO_5.out)); (case aS => exact (below_size (by repeat (first | (with_reducible first | exact HB.out | apply below_alloc | apply pw_below_drewN | apply below_drew1) | exact HB.out)))); (case aL => have := LMc9.out; omega); intro v185 w10 ho hb hg hat; rw [← Ny184.out] at ho; have n0_ := Aside0.mk (hb); have n1_ := Aside0.mk (ho); clear HB; clear HO_5; have HB := n0_; have HO186 := n1_; clear n0_ n1_; clear ho hb hg hat))
            go_roundg k1
            case measure => have := HK1.out; omega
            case rel => exact ⟨(y184), (IntKind.u64.wrap (Int.tdiv x6_1 128)), (by first | rfl | (simp; done) | (simp [*]; done)), H', ⟨by have := HK1.out; omega⟩, ⟨by (with_reducible repeat (first | apply Kd.R_alloc | apply Kd.R_drewN | apply Kd.R_drew)); exact HO186.out⟩, ⟨by repeat (first | (with_reducible first | exact HB.out | apply below_alloc | apply pw_below_drewN | apply below_drew1) | exact HB.out)⟩⟩
          · rw [if_neg c9] at H
            exact absurd H (by simp)
        · rw [if_neg c8] at H
          have c8b0 : decide (128 ≤ x6_1) = false := decide_eq_false c8
          clear c8
          by_cases c11 : x5_1.length < 225179981368000
          · rw [if_pos c11] at H
            have LMc11 := Aside0.mk c11
            clear c11
            obtain ⟨y187, hy187⟩ : ∃ y_ : List Int, y_ = (x5_1 ++ [(x6_1) % 256]) := ⟨_, rfl⟩
            replace H : (some y187) = some r := by first | (rw [hy187]; with_reducible exact H) | (have H2_ := (Option.bind_some _ _).symm.trans H; rw [hy187]; with_reducible exact H2_) | (have H2_ := (Option.bind_some _ _).symm.trans H; with_reducible exact H2_) | with_reducible exact H | (rw [hy187]; exact H) | exact H
            have Ny187 := Aside0.mk hy187
            clear hy187
            obtain rfl := Option.some.inj H
            go_wp2_with (first | ((with_reducible refine gate_builtin (b := .append) (xs := #[.tmp 23, .tmp 26]) rfl ?_); at_builtin; refine Kd.R_append_w (Kd.int .u8) (w0 := w) w.heap.size rfl (.tmp 23) (.tmp 26) 22 5 (.int .u8 0) 1 rfl Try.underlying22 info5 rfl (by decide) (by omega) u5 x5_1 ((x6_1) % 256) [.int .u8 ((x6_1) % 256)] (fun _ => True) (fun _ => False) rfl rfl ?aP (fun _ hk => hk.elim) ?aF ?aO ?aB ?aS ?aL ?_; (case aP => exact rfl); (case aB => exact (by repeat (first | (with_reducible first | exact HB.out | apply below_alloc | apply pw_below_drewN | apply below_drew1) | exact HB.out))); (case aF => exact (fun _ _ => trivial)); (case aO => exact (by (with_reducible repeat (first | apply Kd.R_alloc | apply Kd.R_drewN | apply Kd.R_drew)); exact HO_5.out)); (case aS => exact (below_size (by repeat (first | (with_reducible first | exact HB.out | apply below_alloc | apply pw_below_drewN | apply below_drew1) | exact HB.out)))); (case aL => have := LMc11.out; omega); intro v188 w12 ho hb hg hat; rw [← Ny187.out] at ho; have n0_ := Aside0.mk (hb); have n1_ := Aside0.mk (ho); clear HB; clear HO_5; have HB := n0_; have HO189 := n1_; clear n0_ n1_; clear ho hb hg hat))
            go_ret
            exact ⟨_, by first | rfl | (simp [errW_none, errW_some] <;> rfl) | (simp [*, errW_none, errW_some] <;> rfl), by (with_reducible repeat (first | apply Kd.R_alloc | apply Kd.R_drewN | apply Kd.R_drew)); exact HO189.out, by repeat (first | (with_reducible first | exact HB.out | apply below_alloc | apply pw_below_drewN | apply below_drew1) | exact HB.out)⟩
          · rw [if_neg c11] at H
            exact absurd H (by simp)
  · rw [if_neg c3] at H
    exact absurd H (by simp)

/-! ### cellplaneref02_Mix: function 37 -/
def cellplaneref02_Mix.f (a0 : Int) (a1 : Int) : Option (Int) := some (Go.bits .xor .u64 (IntKind.u64.wrap ((Go.bits .xor .u64 a0 (IntKind.u64.wrap (a1))) * 1099511628211)) ((IntKind.u64.wrap ((Go.bits .xor .u64 a0 (IntKind.u64.wrap (a1))) * 1099511628211)) / 536870912))
set_option maxHeartbeats 8000000 in
set_option maxRecDepth 100000 in
theorem cellplaneref02_Mix.calls (a0 : Int) (a1 : Int) (r : Int) (w : World) (h : cellplaneref02_Mix.f a0 a1 = some r) :
    Calls Try.prog 37 #[.int .u64 a0, .int .i64 a1] w fun e w' => e = .returned (.int .u64 r) ∧ Drawn0 w w' := by
  have H : (some (Go.bits .xor .u64 (IntKind.u64.wrap ((Go.bits .xor .u64 a0 (IntKind.u64.wrap (a1))) * 1099511628211)) ((IntKind.u64.wrap ((Go.bits .xor .u64 a0 (IntKind.u64.wrap (a1))) * 1099511628211)) / 536870912))) = some r := h
  clear h
  obtain rfl := Option.some.inj H
  go_enter Try.func37, Try.ntmps37
  go_wp2
  go_ret
  exact ⟨by first | rfl | (simp; done) | (simp [*]; done), by repeat (first | exact Drawn0.refl _ | apply Drawn0.step)⟩

/-! ### cellplaneref02_all: function 36 -/
def cellplaneref02_all.l0 : Nat → Int → List Int → Int → Option (Int)
  | 0, _, _, _ => none
  | k + 1, x0, x1, x5 => if x5 < (x1.length : Int) then (if 0 ≤ x5 then ((cellplaneref02_Mix.f x0 (wrap64 (rd x1 x5))).bind fun t191 => (cellplaneref02_all.l0 k t191 x1 (wrap64 (x5 + 1)))) else (none)) else ((cellplaneref02_Mix.f x0 (x1.length : Int)).bind fun t192 => (some t192))
def cellplaneref02_all.f (k : Nat) (a0 : Int) (l1 : List Int) : Option (Int) := cellplaneref02_all.l0 k a0 l1 0
theorem cellplaneref02_all.mono_l : ∀ k, (∀ y0 y1 y2, LeO (cellplaneref02_all.l0 k y0 y1 y2) (cellplaneref02_all.l0 (k + 1) y0 y1 y2))
  | 0 => fun _ _ _ r h => by simp [cellplaneref02_all.l0] at h
  | k + 1 => by
    have ih0 := cellplaneref02_all.mono_l k
    · intro y0 y1 y2
      unfold cellplaneref02_all.l0
      repeat' first
      | (with_reducible exact ih0 _ _ _)
      | (with_reducible exact LeO.refl _)
      | (with_reducible exact LeO.none _)
      | (with_reducible refine LeO.ite ?_ ?_)
      | (with_reducible refine LeO.bind ?_ (fun _ => ?_))
      | exact ih0 _ _ _
      | exact LeO.none _
      | refine LeO.ite ?_ ?_
      | refine LeO.bind ?_ (fun _ => ?_)
theorem cellplaneref02_all.mono : ∀ a0 a1 k, LeO (cellplaneref02_all.f k a0 a1) (cellplaneref02_all.f (k + 1) a0 a1) := by
  intro a0 a1 k
  have ih0 := cellplaneref02_all.mono_l k
  unfold cellplaneref02_all.f
  repeat' first
      | (with_reducible exact ih0 _ _ _)
      | (with_reducible exact LeO.refl _)
      | (with_reducible exact LeO.none _)
      | (with_reducible refine LeO.ite ?_ ?_)
      | (with_reducible refine LeO.bind ?_ (fun _ => ?_))
      | exact ih0 _ _ _
      | exact LeO.none _
      | refine LeO.ite ?_ ?_
      | refine LeO.bind ?_ (fun _ => ?_)
set_option maxHeartbeats 8000000 in
set_option maxRecDepth 100000 in
theorem cellplaneref02_all.calls (k : Nat) (a0 : Int) (A1 : Option Addr) (c1 : Nat) (l1 : List Int) (r : Int) (w : World) (hr1 : Kd.C (Kd.int .u8) w A1 l1.length l1) (hc1 : l1.length ≤ c1) (h : cellplaneref02_all.f k a0 l1 = some r) :
    Calls Try.prog 36 #[.int .u64 a0, .slice A1 l1.length c1] w fun e w' => e = .returned (.int .u64 r) ∧ Drawn0 w w' := by
  have HR1 := Aside0.mk hr1
  have HC1 := Aside0.mk hc1
  clear hr1 hc1
  have H : (cellplaneref02_all.l0 k a0 l1 0) = some r := h
  clear h
  have H' := Aside0.mk H
  clear H
  go_enter Try.func36, Try.ntmps36
  go_wp2
  go_loopg [0, 5] k (fun kq v0 v5 w' => ∃ (x0_1 : Int) (x5_1 : Int), v0 = .int .u64 x0_1 ∧ v5 = .int .i64 x5_1 ∧ Aside0 (cellplaneref02_all.l0 kq x0_1 l1 x5_1 = some r) ∧ Aside0 (kq ≤ k) ∧ Drawn0 w w')
  case atStart => exact ⟨(a0), (0), (by first | rfl | (simp; done) | (simp [*]; done)), (by first | rfl | (simp; done) | (simp [*]; done)), H', ⟨Nat.le_refl _⟩, by repeat (first | exact Drawn0.refl _ | apply Drawn0.step)⟩
  case round =>
    clear H'
    try clear c1
    try clear p2
    obtain ⟨x0_1, x5_1, rfl, rfl, HA, HK1, ⟨m1, rfl⟩⟩ := hrel
    cases gk with
    | zero => exact absurd HA.out (by simp [cellplaneref02_all.l0])
    | succ k1 =>
      have H := HA.out
      clear HA
      simp only [cellplaneref02_all.l0] at H
      by_cases c3 : x5_1 < (l1.length : Int)
      · rw [if_pos c3] at H
        have c3b0 : decide (x5_1 < (l1.length : Int)) = true := decide_eq_true c3
        clear c3
        by_cases c4 : 0 ≤ x5_1
        · rw [if_pos c4] at H
          have c4b0 : decide (0 ≤ x5_1) = true := decide_eq_true c4
          clear c4
          replace H := Option.bind_eq_some_iff.mp H
          obtain ⟨t191, A50, H⟩ := H
          replace H : (cellplaneref02_all.l0 k1 t191 l1 (wrap64 (x5_1 + 1))) = some r := H
          have A5 := Aside0.mk A50
          clear A50
          have H' := Aside0.mk H
          clear H
          have p190 : 0 ≤ (x5_1 : Int) := of_decide_eq_true (by first | (with_reducible assumption) | assumption)
          have q190 : x5_1 < (l1.length : Int) := of_decide_eq_true (by first | (with_reducible assumption) | assumption)
          obtain ⟨ad190, e190, hx190_0⟩ := Kd.at_int HR1.out x5_1 p190 q190
          cases e190
          replace p190 := eq_true p190
          replace q190 := eq_true q190
          go_wp2_with (first | ((with_reducible refine gate_callee (f := 37) rfl ?_); refine goesL_ (some 18) rfl rfl Try.func37 (by kernel_rfl) rfl #[.int .u64 x0_1, .int .i64 (wrap64 (rd l1 x5_1))] rfl (by (try simp only [List.map_toArray, List.map_cons, List.map_nil]); first | done | rfl | (simp only [List.length_drop, List.length_take]; rfl)) ?_; (with_reducible refine (cellplaneref02_Mix.calls x0_1 (wrap64 (rd l1 x5_1)) t191 _ A5.out).mono ?_); rintro e w' ⟨rfl, ⟨nd, rfl⟩⟩; refine ⟨_, rfl, ?_⟩))
          go_roundg k1
          case measure => have := HK1.out; omega
          case rel => exact ⟨(t191), (wrap64 (x5_1 + 1)), (by first | rfl | (simp; done) | (simp [*]; done)), (by first | rfl | (simp; done) | (simp [*]; done)), H', ⟨by have := HK1.out; omega⟩, by repeat (first | exact Drawn0.refl _ | apply Drawn0.step)⟩
        · rw [if_neg c4] at H
          exact absurd H (by simp)
      · rw [if_neg c3] at H
        have c3b0 : decide (x5_1 < (l1.length : Int)) = false := decide_eq_false c3
        clear c3
        replace H := Option.bind_eq_some_iff.mp H
        obtain ⟨t192, A60, H⟩ := H
        replace H : (some t192) = some r := H
        have A6 := Aside0.mk A60
        clear A60
        obtain rfl := Option.some.inj H
        go_wp2_with (first | ((with_reducible refine gate_callee (f := 37) rfl ?_); refine goesL_ (some 22) rfl rfl Try.func37 (by kernel_rfl) rfl #[.int .u64 x0_1, .int .i64 (l1.length : Int)] rfl (by (try simp only [List.map_toArray, List.map_cons, List.map_nil]); first | done | rfl | (simp only [List.length_drop, List.length_take]; rfl)) ?_; (with_reducible refine (cellplaneref02_Mix.calls x0_1 (l1.length : Int) t192 _ A6.out).mono ?_); rintro e w' ⟨rfl, ⟨nd, rfl⟩⟩; refine ⟨_, rfl, ?_⟩))
        go_ret
        exact ⟨by first | rfl | (simp; done) | (simp [*]; done), by repeat (first | exact Drawn0.refl _ | apply Drawn0.step)⟩

/-! ### cellplaneref02_Sum: function 26 -/
def cellplaneref02_Sum.f (k : Nat) (a0 : Int) (l1 : List Int) : Option (Int) := (cellplaneref02_Mix.f 14695981039346656037 a0).bind fun t193 => ((cellplaneref02_all.f k t193 l1).bind fun t194 => (some t194))
theorem cellplaneref02_Sum.mono : ∀ a0 a1 k, LeO (cellplaneref02_Sum.f k a0 a1) (cellplaneref02_Sum.f (k + 1) a0 a1) := by
  intro a0 a1 k
  unfold cellplaneref02_Sum.f
  repeat' first
      | (with_reducible exact cellplaneref02_all.mono _ _ _)
      | (with_reducible exact LeO.refl _)
      | (with_reducible exact LeO.none _)
      | (with_reducible refine LeO.ite ?_ ?_)
      | (with_reducible refine LeO.bind ?_ (fun _ => ?_))
      | exact cellplaneref02_all.mono _ _ _
      | exact LeO.none _
      | refine LeO.ite ?_ ?_
      | refine LeO.bind ?_ (fun _ => ?_)
set_option maxHeartbeats 8000000 in
set_option maxRecDepth 100000 in
theorem cellplaneref02_Sum.calls (k : Nat) (a0 : Int) (A1 : Option Addr) (c1 : Nat) (l1 : List Int) (r : Int) (w : World) (hr1 : Kd.C (Kd.int .u8) w A1 l1.length l1) (hc1 : l1.length ≤ c1) (h : cellplaneref02_Sum.f k a0 l1 = some r) :
    Calls Try.prog 26 #[.int .i64 a0, .slice A1 l1.length c1] w fun e w' => e = .returned (.int .u64 r) ∧ Drawn0 w w' := by
  have HR1 := Aside0.mk hr1
  have HC1 := Aside0.mk hc1
  clear hr1 hc1
  have H : ((cellplaneref02_Mix.f 14695981039346656037 a0).bind fun t193 => ((cellplaneref02_all.f k t193 l1).bind fun t194 => (some t194))) = some r := h
  clear h
  replace H := Option.bind_eq_some_iff.mp H
  obtain ⟨t193, A30, H⟩ := H
  replace H : ((cellplaneref02_all.f k t193 l1).bind fun t194 => (some t194)) = some r := H
  have A3 := Aside0.mk A30
  clear A30
  replace H := Option.bind_eq_some_iff.mp H
  obtain ⟨t194, A40, H⟩ := H
  replace H : (some t194) = some r := H
  have A4 := Aside0.mk A40
  clear A40
  obtain rfl := Option.some.inj H
  go_enter Try.func26, Try.ntmps26
  go_wp2_with (first | ((with_reducible refine gate_callee (f := 37) rfl ?_); refine goesL_ (some 6) rfl rfl Try.func37 (by kernel_rfl) rfl #[.int .u64 14695981039346656037, .int .i64 a0] rfl (by (try simp only [List.map_toArray, List.map_cons, List.map_nil]); first | done | rfl | (simp only [List.length_drop, List.length_take]; rfl)) ?_; (with_reducible refine (cellplaneref02_Mix.calls 14695981039346656037 a0 t193 _ A3.out).mono ?_); rintro e w' ⟨rfl, ⟨nd, rfl⟩⟩; refine ⟨_, rfl, ?_⟩) | ((with_reducible refine gate_callee (f := 36) rfl ?_); refine goesL_ (some 8) rfl rfl Try.func36 (by kernel_rfl) rfl #[.int .u64 t193, .slice A1 l1.length c1] rfl (by (try simp only [List.map_toArray, List.map_cons, List.map_nil]); first | done | rfl | (simp only [List.length_drop, List.length_take]; rfl)) ?_; (with_reducible refine (cellplaneref02_all.calls k t193 _ _ l1 t194 _ ?side1 ?side2 A4.out).mono ?_); (case side1 => repeat (first | exact HR1.out | (with_reducible refine Kd.C_alloc ?_ _) | (with_reducible refine Kd.C_drewN ?_ _) | (with_reducible refine Kd.C_drew ?_))); (case side2 => exact HC1.out); rintro e w' ⟨rfl, ⟨nd, rfl⟩⟩; refine ⟨_, rfl, ?_⟩))
  go_ret
  exact ⟨by first | rfl | (simp; done) | (simp [*]; done), by repeat (first | exact Drawn0.refl _ | apply Drawn0.step)⟩

end Go.Proofs.Ytjmbcdbnglconaa.QFramePut
