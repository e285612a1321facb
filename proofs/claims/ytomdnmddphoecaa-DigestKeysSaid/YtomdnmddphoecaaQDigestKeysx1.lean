-- Written by a program of this session's own (wip/myprint.sh). Lean checks it.
import Derived.Test.YtomdnmddphoecaaQDigestKeysx0
namespace Go.Proofs.Ytomdnmddphoecaa.QDigestKeys
open Go.RowKit Go.Proofs.YtomdnmddphoecaaW.PrintWords Go.Proofs.YtomdnmddphoecaaW.PrintLast Go.Proofs.YtomdnmddphoecaaW.PrintMore
attribute [local go_sem] max2_int min2_int max_two min_two max_three min_three max_four min_four   -- for this text's walks alone
set_option linter.unusedVariables false
set_option linter.unusedSimpArgs false

/-! ### digest_Mix: function 12 -/
def digest_Mix.f (a0 : Int) (a1 : Int) : Option (Int) := some (Go.bits .xor .u64 (IntKind.u64.wrap ((Go.bits .xor .u64 a0 (IntKind.u64.wrap (a1))) * 1099511628211)) ((IntKind.u64.wrap ((Go.bits .xor .u64 a0 (IntKind.u64.wrap (a1))) * 1099511628211)) / 536870912))
set_option maxHeartbeats 8000000 in
set_option maxRecDepth 100000 in
theorem digest_Mix.calls (a0 : Int) (a1 : Int) (r : Int) (w : World) (h : digest_Mix.f a0 a1 = some r) :
    Calls Try.prog 12 #[.int .u64 a0, .int .i64 a1] w fun e w' => e = .returned (.int .u64 r) ∧ Drawn0 w w' := by
  have H : (some (Go.bits .xor .u64 (IntKind.u64.wrap ((Go.bits .xor .u64 a0 (IntKind.u64.wrap (a1))) * 1099511628211)) ((IntKind.u64.wrap ((Go.bits .xor .u64 a0 (IntKind.u64.wrap (a1))) * 1099511628211)) / 536870912))) = some r := h
  clear h
  obtain rfl := Option.some.inj H
  go_enter Try.func12, Try.ntmps12
  go_wp2
  go_ret
  exact ⟨by first | rfl | (simp; done) | (simp [*]; done), by repeat (first | exact Drawn0.refl _ | apply Drawn0.step)⟩

/-! ### digest_bytes: function 19 -/
def digest_bytes.l0 : Nat → Int → List Int → List Int → Int → Int → Option (Int)
  | 0, _, _, _, _, _ => none
  | k + 1, x0, x1, x7, x8, x9 => if x9 < x8 then (if 0 ≤ x9 then (if x9 < (x7.length : Int) then ((digest_Mix.f x0 (wrap64 (rd x7 x9))).bind fun t102 => (digest_bytes.l0 k t102 x1 x7 x8 (wrap64 (x9 + 1)))) else (none)) else (none)) else ((digest_Mix.f x0 (x1.length : Int)).bind fun t103 => (some t103))
def digest_bytes.f (k : Nat) (a0 : Int) (l1 : List Int) : Option (Int) := digest_bytes.l0 k a0 l1 l1 (l1.length : Int) 0
theorem digest_bytes.mono_l : ∀ k, (∀ y0 y1 y2 y3 y4, LeO (digest_bytes.l0 k y0 y1 y2 y3 y4) (digest_bytes.l0 (k + 1) y0 y1 y2 y3 y4))
  | 0 => fun _ _ _ _ _ r h => by simp [digest_bytes.l0] at h
  | k + 1 => by
    have ih0 := digest_bytes.mono_l k
    · intro y0 y1 y2 y3 y4
      unfold digest_bytes.l0
      repeat' first
      | (with_reducible exact ih0 _ _ _ _ _)
      | (with_reducible exact LeO.refl _)
      | (with_reducible exact LeO.none _)
      | (with_reducible refine LeO.ite ?_ ?_)
      | (with_reducible refine LeO.bind ?_ (fun _ => ?_))
      | exact ih0 _ _ _ _ _
      | exact LeO.none _
      | refine LeO.ite ?_ ?_
      | refine LeO.bind ?_ (fun _ => ?_)
theorem digest_bytes.mono : ∀ a0 a1 k, LeO (digest_bytes.f k a0 a1) (digest_bytes.f (k + 1) a0 a1) := by
  intro a0 a1 k
  have ih0 := digest_bytes.mono_l k
  unfold digest_bytes.f
  repeat' first
      | (with_reducible exact ih0 _ _ _ _ _)
      | (with_reducible exact LeO.refl _)
      | (with_reducible exact LeO.none _)
      | (with_reducible refine LeO.ite ?_ ?_)
      | (with_reducible refine LeO.bind ?_ (fun _ => ?_))
      | exact ih0 _ _ _ _ _
      | exact LeO.none _
      | refine LeO.ite ?_ ?_
      | refine LeO.bind ?_ (fun _ => ?_)
set_option maxHeartbeats 8000000 in
set_option maxRecDepth 100000 in
theorem digest_bytes.calls (k : Nat) (a0 : Int) (A1 : Option Addr) (c1 : Nat) (l1 : List Int) (r : Int) (w : World) (hr1 : Kd.C (Kd.int .u8) w A1 l1.length l1) (hc1 : l1.length ≤ c1) (h : digest_bytes.f k a0 l1 = some r) :
    Calls Try.prog 19 #[.int .u64 a0, .slice A1 l1.length c1] w fun e w' => e = .returned (.int .u64 r) ∧ Drawn0 w w' := by
  have HR1 := Aside0.mk hr1
  have HC1 := Aside0.mk hc1
  clear hr1 hc1
  have H : (digest_bytes.l0 k a0 l1 l1 (l1.length : Int) 0) = some r := h
  clear h
  have H' := Aside0.mk H
  clear H
  go_enter Try.func19, Try.ntmps19
  go_wp2
  go_loopg [0, 9] k (fun kq v0 v9 w' => ∃ (x0_1 : Int) (x9_1 : Int), v0 = .int .u64 x0_1 ∧ v9 = .int .i64 x9_1 ∧ Aside0 (digest_bytes.l0 kq x0_1 l1 l1 (l1.length : Int) x9_1 = some r) ∧ Aside0 (kq ≤ k) ∧ Drawn0 w w')
  case atStart => exact ⟨(a0), (0), (by first | rfl | (simp; done) | (simp [*]; done)), (by first | rfl | (simp; done) | (simp [*]; done)), H', ⟨Nat.le_refl _⟩, by repeat (first | exact Drawn0.refl _ | apply Drawn0.step)⟩
  case round =>
    clear H'
    try clear c1
    try clear p2
    obtain ⟨x0_1, x9_1, rfl, rfl, HA, HK1, ⟨m1, rfl⟩⟩ := hrel
    cases gk with
    | zero => exact absurd HA.out (by simp [digest_bytes.l0])
    | succ k1 =>
      have H := HA.out
      clear HA
      simp only [digest_bytes.l0] at H
      by_cases c3 : x9_1 < (l1.length : Int)
      · rw [if_pos c3] at H
        have c3b0 : decide (x9_1 < (l1.length : Int)) = true := decide_eq_true c3
        clear c3
        by_cases c4 : 0 ≤ x9_1
        · rw [if_pos c4] at H
          have c4b0 : decide (0 ≤ x9_1) = true := decide_eq_true c4
          clear c4
          by_cases c5 : x9_1 < (l1.length : Int)
          · rw [if_pos c5] at H
            have c5b0 : decide (x9_1 < (l1.length : Int)) = true := decide_eq_true c5
            clear c5
            replace H := Option.bind_eq_some_iff.mp H
            obtain ⟨t102, A60, H⟩ := H
            replace H : (digest_bytes.l0 k1 t102 l1 l1 (l1.length : Int) (wrap64 (x9_1 + 1))) = some r := H
            have A6 := Aside0.mk A60
            clear A60
            have H' := Aside0.mk H
            clear H
            have p101 : 0 ≤ (x9_1 : Int) := of_decide_eq_true (by first | (with_reducible assumption) | assumption)
            have q101 : x9_1 < (l1.length : Int) := of_decide_eq_true (by first | (with_reducible assumption) | assumption)
            obtain ⟨ad101, e101, hx101_0⟩ := Kd.at_int HR1.out x9_1 p101 q101
            cases e101
            replace p101 := eq_true p101
            replace q101 := eq_true q101
            go_wp2_with (first | ((with_reducible refine gate_callee (f := 12) rfl ?_); refine goesL_ (some 16) rfl rfl Try.func12 (by kernel_rfl) rfl #[.int .u64 x0_1, .int .i64 (wrap64 (rd l1 x9_1))] rfl (by (try simp only [List.map_toArray, List.map_cons, List.map_nil]); first | done | rfl | (simp only [List.length_drop, List.length_take]; rfl)) ?_; (with_reducible refine (digest_Mix.calls x0_1 (wrap64 (rd l1 x9_1)) t102 _ A6.out).mono ?_); rintro e w' ⟨rfl, ⟨nd, rfl⟩⟩; refine ⟨_, rfl, ?_⟩))
            go_roundg k1
            case measure => have := HK1.out; omega
            case rel => exact ⟨(t102), (wrap64 (x9_1 + 1)), (by first | rfl | (simp; done) | (simp [*]; done)), (by first | rfl | (simp; done) | (simp [*]; done)), H', ⟨by have := HK1.out; omega⟩, by repeat (first | exact Drawn0.refl _ | apply Drawn0.step)⟩
          · rw [if_neg c5] at H
            exact absurd H (by simp)
        · rw [if_neg c4] at H
          exact absurd H (by simp)
      · rw [if_neg c3] at H
        have c3b0 : decide (x9_1 < (l1.length : Int)) = false := decide_eq_false c3
        clear c3
        replace H := Option.bind_eq_some_iff.mp H
        obtain ⟨t103, A70, H⟩ := H
        replace H : (some t103) = some r := H
        have A7 := Aside0.mk A70
        clear A70
        obtain rfl := Option.some.inj H
        go_wp2_with (first | ((with_reducible refine gate_callee (f := 12) rfl ?_); refine goesL_ (some 21) rfl rfl Try.func12 (by kernel_rfl) rfl #[.int .u64 x0_1, .int .i64 (l1.length : Int)] rfl (by (try simp only [List.map_toArray, List.map_cons, List.map_nil]); first | done | rfl | (simp only [List.length_drop, List.length_take]; rfl)) ?_; (with_reducible refine (digest_Mix.calls x0_1 (l1.length : Int) t103 _ A7.out).mono ?_); rintro e w' ⟨rfl, ⟨nd, rfl⟩⟩; refine ⟨_, rfl, ?_⟩))
        go_ret
        exact ⟨by first | rfl | (simp; done) | (simp [*]; done), by repeat (first | exact Drawn0.refl _ | apply Drawn0.step)⟩

/-! ### digest_Sum: function 14 -/
def digest_Sum.f (k : Nat) (a0 : Int) (l1 : List Int) : Option (Int) := (digest_Mix.f 14695981039346656037 a0).bind fun t104 => ((digest_bytes.f k t104 l1).bind fun t105 => (some t105))
theorem digest_Sum.mono : ∀ a0 a1 k, LeO (digest_Sum.f k a0 a1) (digest_Sum.f (k + 1) a0 a1) := by
  intro a0 a1 k
  unfold digest_Sum.f
  repeat' first
      | (with_reducible exact digest_bytes.mono _ _ _)
      | (with_reducible exact LeO.refl _)
      | (with_reducible exact LeO.none _)
      | (with_reducible refine LeO.ite ?_ ?_)
      | (with_reducible refine LeO.bind ?_ (fun _ => ?_))
      | exact digest_bytes.mono _ _ _
      | exact LeO.none _
      | refine LeO.ite ?_ ?_
      | refine LeO.bind ?_ (fun _ => ?_)
set_option maxHeartbeats 8000000 in
set_option maxRecDepth 100000 in
theorem digest_Sum.calls (k : Nat) (a0 : Int) (A1 : Option Addr) (c1 : Nat) (l1 : List Int) (r : Int) (w : World) (hr1 : Kd.C (Kd.int .u8) w A1 l1.length l1) (hc1 : l1.length ≤ c1) (h : digest_Sum.f k a0 l1 = some r) :
    Calls Try.prog 14 #[.int .i64 a0, .slice A1 l1.length c1] w fun e w' => e = .returned (.int .u64 r) ∧ Drawn0 w w' := by
  have HR1 := Aside0.mk hr1
  have HC1 := Aside0.mk hc1
  clear hr1 hc1
  have H : ((digest_Mix.f 14695981039346656037 a0).bind fun t104 => ((digest_bytes.f k t104 l1).bind fun t105 => (some t105))) = some r := h
  clear h
  replace H := Option.bind_eq_some_iff.mp H
  obtain ⟨t104, A30, H⟩ := H
  replace H : ((digest_bytes.f k t104 l1).bind fun t105 => (some t105)) = some r := H
  have A3 := Aside0.mk A30
  clear A30
  replace H := Option.bind_eq_some_iff.mp H
  obtain ⟨t105, A40, H⟩ := H
  replace H : (some t105) = some r := H
  have A4 := Aside0.mk A40
  clear A40
  obtain rfl := Option.some.inj H
  go_enter Try.func14, Try.ntmps14
  go_wp2_with (first | ((with_reducible refine gate_callee (f := 12) rfl ?_); refine goesL_ (some 6) rfl rfl Try.func12 (by kernel_rfl) rfl #[.int .u64 14695981039346656037, .int .i64 a0] rfl (by (try simp only [List.map_toArray, List.map_cons, List.map_nil]); first | done | rfl | (simp only [List.length_drop, List.length_take]; rfl)) ?_; (with_reducible refine (digest_Mix.calls 14695981039346656037 a0 t104 _ A3.out).mono ?_); rintro e w' ⟨rfl, ⟨nd, rfl⟩⟩; refine ⟨_, rfl, ?_⟩) | ((with_reducible refine gate_callee (f := 19) rfl ?_); refine goesL_ (some 8) rfl rfl Try.func19 (by kernel_rfl) rfl #[.int .u64 t104, .slice A1 l1.length c1] rfl (by (try simp only [List.map_toArray, List.map_cons, List.map_nil]); first | done | rfl | (simp only [List.length_drop, List.length_take]; rfl)) ?_; (with_reducible refine (digest_bytes.calls k t104 _ _ l1 t105 _ ?side1 ?side2 A4.out).mono ?_); (case side1 => repeat (first | exact HR1.out | (with_reducible refine Kd.C_alloc ?_ _) | (with_reducible refine Kd.C_drewN ?_ _) | (with_reducible refine Kd.C_drew ?_))); (case side2 => exact HC1.out); rintro e w' ⟨rfl, ⟨nd, rfl⟩⟩; refine ⟨_, rfl, ?_⟩))
  go_ret
  exact ⟨by first | rfl | (simp; done) | (simp [*]; done), by repeat (first | exact Drawn0.refl _ | apply Drawn0.step)⟩

/-! ### cellplanelaw02_awake: function 11 -/
def cellplanelaw02_awake.f (k : Nat)  : Option (Bool) := (digest_Mix.f 0 0).bind fun t106 => (if t106 = 0 then ((digest_Mix.f 5 5).bind fun t107 => (if t107 = 0 then ((digest_Mix.f 0 1).bind fun t108 => (if t108 = 0 then (some false) else ((digest_Sum.f k 0 ([] : List Int)).bind fun t109 => ((digest_Sum.f k 1 ([] : List Int)).bind fun t110 => (some (t109 != t110)))))) else (some false))) else (some false))
theorem cellplanelaw02_awake.mono : ∀ k, LeO (cellplanelaw02_awake.f k ) (cellplanelaw02_awake.f (k + 1) ) := by
  intro  k
  unfold cellplanelaw02_awake.f
  repeat' first
      | (with_reducible exact digest_Sum.mono _ _ _)
      | (with_reducible exact LeO.refl _)
      | (with_reducible exact LeO.none _)
      | (with_reducible refine LeO.ite ?_ ?_)
      | (with_reducible refine LeO.bind ?_ (fun _ => ?_))
      | exact digest_Sum.mono _ _ _
      | exact LeO.none _
      | refine LeO.ite ?_ ?_
      | refine LeO.bind ?_ (fun _ => ?_)
set_option maxHeartbeats 8000000 in
set_option maxRecDepth 100000 in
theorem cellplanelaw02_awake.calls (k : Nat)  (r : Bool) (w : World) (h : cellplanelaw02_awake.f k  = some r) :
    Calls Try.prog 11 #[] w fun e w' => e = .returned (.bool r) ∧ Drawn0 w w' := by
  have H : ((digest_Mix.f 0 0).bind fun t106 => (if t106 = 0 then ((digest_Mix.f 5 5).bind fun t107 => (if t107 = 0 then ((digest_Mix.f 0 1).bind fun t108 => (if t108 = 0 then (some false) else ((digest_Sum.f k 0 ([] : List Int)).bind fun t109 => ((digest_Sum.f k 1 ([] : List Int)).bind fun t110 => (some (t109 != t110)))))) else (some false))) else (some false))) = some r := h
  clear h
  replace H := Option.bind_eq_some_iff.mp H
  obtain ⟨t106, A10, H⟩ := H
  replace H : (if t106 = 0 then ((digest_Mix.f 5 5).bind fun t107 => (if t107 = 0 then ((digest_Mix.f 0 1).bind fun t108 => (if t108 = 0 then (some false) else ((digest_Sum.f k 0 ([] : List Int)).bind fun t109 => ((digest_Sum.f k 1 ([] : List Int)).bind fun t110 => (some (t109 != t110)))))) else (some false))) else (some false)) = some r := H
  have A1 := Aside0.mk A10
  clear A10
  by_cases c2 : t106 = 0
  · rw [if_pos c2] at H
    have c2b0 : (t106 == 0) = true := beq_iff_eq.mpr c2
    have c2b1 : (t106 != 0) = false := bne_eq_false_iff_eq.mpr c2
    clear c2
    replace H := Option.bind_eq_some_iff.mp H
    obtain ⟨t107, A30, H⟩ := H
    replace H : (if t107 = 0 then ((digest_Mix.f 0 1).bind fun t108 => (if t108 = 0 then (some false) else ((digest_Sum.f k 0 ([] : List Int)).bind fun t109 => ((digest_Sum.f k 1 ([] : List Int)).bind fun t110 => (some (t109 != t110)))))) else (some false)) = some r := H
    have A3 := Aside0.mk A30
    clear A30
    by_cases c4 : t107 = 0
    · rw [if_pos c4] at H
      have c4b0 : (t107 == 0) = true := beq_iff_eq.mpr c4
      have c4b1 : (t107 != 0) = false := bne_eq_false_iff_eq.mpr c4
      clear c4
      replace H := Option.bind_eq_some_iff.mp H
      obtain ⟨t108, A50, H⟩ := H
      replace H : (if t108 = 0 then (some false) else ((digest_Sum.f k 0 ([] : List Int)).bind fun t109 => ((digest_Sum.f k 1 ([] : List Int)).bind fun t110 => (some (t109 != t110))))) = some r := H
      have A5 := Aside0.mk A50
      clear A50
      by_cases c6 : t108 = 0
      · rw [if_pos c6] at H
        have c6b0 : (t108 == 0) = true := beq_iff_eq.mpr c6
        have c6b1 : (t108 != 0) = false := bne_eq_false_iff_eq.mpr c6
        clear c6
        obtain rfl := Option.some.inj H
        go_enter Try.func11, Try.ntmps11
        go_wp2_with (first | ((with_reducible refine gate_callee (f := 12) rfl ?_); refine goesL_ (some 1) rfl rfl Try.func12 (by kernel_rfl) rfl #[.int .u64 0, .int .i64 0] rfl (by (try simp only [List.map_toArray, List.map_cons, List.map_nil]); first | done | rfl | (simp only [List.length_drop, List.length_take]; rfl)) ?_; (with_reducible refine (digest_Mix.calls 0 0 t106 _ A1.out).mono ?_); rintro e w' ⟨rfl, ⟨nd, rfl⟩⟩; refine ⟨_, rfl, ?_⟩) | (go_at_call 12; (with_reducible refine (digest_Mix.calls 5 5 t107 _ A3.out).mono ?_); rintro e w' ⟨rfl, ⟨nd, rfl⟩⟩) | (go_at_call 12; (with_reducible refine (digest_Mix.calls 0 1 t108 _ A5.out).mono ?_); rintro e w' ⟨rfl, ⟨nd, rfl⟩⟩))
        go_ret
        exact ⟨by first | rfl | (simp; done) | (simp [*]; done), by repeat (first | exact Drawn0.refl _ | apply Drawn0.step)⟩
      · rw [if_neg c6] at H
        have c6b0 : (t108 == 0) = false := beq_eq_false_iff_ne.mpr c6
        have c6b1 : (t108 != 0) = true := bne_iff_ne.mpr c6
        replace H := Option.bind_eq_some_iff.mp H
        obtain ⟨t109, A70, H⟩ := H
        replace H : ((digest_Sum.f k 1 ([] : List Int)).bind fun t110 => (some (t109 != t110))) = some r := H
        have A7 := Aside0.mk A70
        clear A70
        replace H := Option.bind_eq_some_iff.mp H
        obtain ⟨t110, A80, H⟩ := H
        replace H : (some (t109 != t110)) = some r := H
        have A8 := Aside0.mk A80
        clear A80
        obtain rfl := Option.some.inj H
        go_enter Try.func11, Try.ntmps11
        go_wp2_with (first | ((with_reducible refine gate_callee (f := 12) rfl ?_); refine goesL_ (some 1) rfl rfl Try.func12 (by kernel_rfl) rfl #[.int .u64 0, .int .i64 0] rfl (by (try simp only [List.map_toArray, List.map_cons, List.map_nil]); first | done | rfl | (simp only [List.length_drop, List.length_take]; rfl)) ?_; (with_reducible refine (digest_Mix.calls 0 0 t106 _ A1.out).mono ?_); rintro e w' ⟨rfl, ⟨nd, rfl⟩⟩; refine ⟨_, rfl, ?_⟩) | (go_at_call 12; (with_reducible refine (digest_Mix.calls 5 5 t107 _ A3.out).mono ?_); rintro e w' ⟨rfl, ⟨nd, rfl⟩⟩) | (go_at_call 12; (with_reducible refine (digest_Mix.calls 0 1 t108 _ A5.out).mono ?_); rintro e w' ⟨rfl, ⟨nd, rfl⟩⟩) | (go_at_call 14; (with_reducible refine calls_of_args (args' := #[.int .i64 0, .slice none 0 0]) rfl ?_); (refine (digest_Sum.calls k 0 _ _ ([] : List Int) t109 _ ?side1 ?side2 A7.out).mono ?_); (case side1 => exact Kd.C_nil _ _); (case side2 => exact Nat.le_refl _); rintro e w' ⟨rfl, ⟨nd, rfl⟩⟩) | (go_at_call 14; (with_reducible refine calls_of_args (args' := #[.int .i64 1, .slice none 0 0]) rfl ?_); (refine (digest_Sum.calls k 1 _ _ ([] : List Int) t110 _ ?side1 ?side2 A8.out).mono ?_); (case side1 => exact Kd.C_nil _ _); (case side2 => exact Nat.le_refl _); rintro e w' ⟨rfl, ⟨nd, rfl⟩⟩))
        go_ret
        exact ⟨by first | rfl | (simp; done) | (simp [*]; done), by repeat (first | exact Drawn0.refl _ | apply Drawn0.step)⟩
    · rw [if_neg c4] at H
      have c4b0 : (t107 == 0) = false := beq_eq_false_iff_ne.mpr c4
      have c4b1 : (t107 != 0) = true := bne_iff_ne.mpr c4
      obtain rfl := Option.some.inj H
      go_enter Try.func11, Try.ntmps11
      go_wp2_with (first | ((with_reducible refine gate_callee (f := 12) rfl ?_); refine goesL_ (some 1) rfl rfl Try.func12 (by kernel_rfl) rfl #[.int .u64 0, .int .i64 0] rfl (by (try simp only [List.map_toArray, List.map_cons, List.map_nil]); first | done | rfl | (simp only [List.length_drop, List.length_take]; rfl)) ?_; (with_reducible refine (digest_Mix.calls 0 0 t106 _ A1.out).mono ?_); rintro e w' ⟨rfl, ⟨nd, rfl⟩⟩; refine ⟨_, rfl, ?_⟩) | (go_at_call 12; (with_reducible refine (digest_Mix.calls 5 5 t107 _ A3.out).mono ?_); rintro e w' ⟨rfl, ⟨nd, rfl⟩⟩))
      go_ret
      exact ⟨by first | rfl | (simp; done) | (simp [*]; done), by repeat (first | exact Drawn0.refl _ | apply Drawn0.step)⟩
  · rw [if_neg c2] at H
    have c2b0 : (t106 == 0) = false := beq_eq_false_iff_ne.mpr c2
    have c2b1 : (t106 != 0) = true := bne_iff_ne.mpr c2
    obtain rfl := Option.some.inj H
    go_enter Try.func11, Try.ntmps11
    go_wp2_with (first | ((with_reducible refine gate_callee (f := 12) rfl ?_); refine goesL_ (some 1) rfl rfl Try.func12 (by kernel_rfl) rfl #[.int .u64 0, .int .i64 0] rfl (by (try simp only [List.map_toArray, List.map_cons, List.map_nil]); first | done | rfl | (simp only [List.length_drop, List.length_take]; rfl)) ?_; (with_reducible refine (digest_Mix.calls 0 0 t106 _ A1.out).mono ?_); rintro e w' ⟨rfl, ⟨nd, rfl⟩⟩; refine ⟨_, rfl, ?_⟩))
    go_ret
    exact ⟨by first | rfl | (simp; done) | (simp [*]; done), by repeat (first | exact Drawn0.refl _ | apply Drawn0.step)⟩

/-! ### cellplanelaw02_DigestKeys: function 6 -/
def cellplanelaw02_DigestKeys.f (k : Nat) (a0 : Int) (a1 : Int) (l2 : List Int) : Option (Bool) := (cellplanelaw02_awake.f k).bind fun t111 => (if t111 = true then ((digest_Sum.f k a0 l2).bind fun t112 => ((digest_Sum.f k a1 l2).bind fun t113 => (some ((t112 == t113) == (a0 == a1))))) else (some false))
theorem cellplanelaw02_DigestKeys.mono : ∀ a0 a1 a2 k, LeO (cellplanelaw02_DigestKeys.f k a0 a1 a2) (cellplanelaw02_DigestKeys.f (k + 1) a0 a1 a2) := by
  intro a0 a1 a2 k
  unfold cellplanelaw02_DigestKeys.f
  repeat' first
      | (with_reducible exact cellplanelaw02_awake.mono _)
      | (with_reducible exact digest_Sum.mono _ _ _)
      | (with_reducible exact LeO.refl _)
      | (with_reducible exact LeO.none _)
      | (with_reducible refine LeO.ite ?_ ?_)
      | (with_reducible refine LeO.bind ?_ (fun _ => ?_))
      | exact cellplanelaw02_awake.mono _
      | exact digest_Sum.mono _ _ _
      | exact LeO.none _
      | refine LeO.ite ?_ ?_
      | refine LeO.bind ?_ (fun _ => ?_)
set_option maxHeartbeats 8000000 in
set_option maxRecDepth 100000 in
theorem cellplanelaw02_DigestKeys.calls (k : Nat) (a0 : Int) (a1 : Int) (A2 : Option Addr) (c2 : Nat) (l2 : List Int) (r : Bool) (w : World) (hr2 : Kd.C (Kd.int .u8) w A2 l2.length l2) (hc2 : l2.length ≤ c2) (h : cellplanelaw02_DigestKeys.f k a0 a1 l2 = some r) :
    Calls Try.prog 6 #[.int .i64 a0, .int .i64 a1, .slice A2 l2.length c2] w fun e w' => e = .returned (.bool r) ∧ Drawn0 w w' := by
  have HR2 := Aside0.mk hr2
  have HC2 := Aside0.mk hc2
  clear hr2 hc2
  have H : ((cellplanelaw02_awake.f k).bind fun t111 => (if t111 = true then ((digest_Sum.f k a0 l2).bind fun t112 => ((digest_Sum.f k a1 l2).bind fun t113 => (some ((t112 == t113) == (a0 == a1))))) else (some false))) = some r := h
  clear h
  replace H := Option.bind_eq_some_iff.mp H
  obtain ⟨t111, A40, H⟩ := H
  replace H : (if t111 = true then ((digest_Sum.f k a0 l2).bind fun t112 => ((digest_Sum.f k a1 l2).bind fun t113 => (some ((t112 == t113) == (a0 == a1))))) else (some false)) = some r := H
  have A4 := Aside0.mk A40
  clear A40
  by_cases c5 : t111 = true
  · subst c5
    have H1 : ((digest_Sum.f k a0 l2).bind fun t112 => ((digest_Sum.f k a1 l2).bind fun t113 => (some ((t112 == t113) == (a0 == a1))))) = some r := by rw [if_pos rfl] at H; exact H
    clear H
    have H := H1
    clear H1
    replace H := Option.bind_eq_some_iff.mp H
    obtain ⟨t112, A60, H⟩ := H
    replace H : ((digest_Sum.f k a1 l2).bind fun t113 => (some ((t112 == t113) == (a0 == a1)))) = some r := H
    have A6 := Aside0.mk A60
    clear A60
    replace H := Option.bind_eq_some_iff.mp H
    obtain ⟨t113, A70, H⟩ := H
    replace H : (some ((t112 == t113) == (a0 == a1))) = some r := H
    have A7 := Aside0.mk A70
    clear A70
    obtain rfl := Option.some.inj H
    go_enter Try.func6, Try.ntmps6
    go_wp2_with (first | ((with_reducible refine gate_callee (f := 11) rfl ?_); refine goesL_ (some 7) rfl rfl Try.func11 (by kernel_rfl) rfl #[] rfl (by (try simp only [List.map_toArray, List.map_cons, List.map_nil]); first | done | rfl | (simp only [List.length_drop, List.length_take]; rfl)) ?_; (with_reducible refine (cellplanelaw02_awake.calls k  true _ A4.out).mono ?_); rintro e w' ⟨rfl, ⟨nd, rfl⟩⟩; refine ⟨_, rfl, ?_⟩) | (go_at_call 14; (with_reducible refine (digest_Sum.calls k a0 _ _ l2 t112 _ ?side1 ?side2 A6.out).mono ?_); (case side1 => repeat (first | exact HR2.out | (with_reducible refine Kd.C_alloc ?_ _) | (with_reducible refine Kd.C_drewN ?_ _) | (with_reducible refine Kd.C_drew ?_))); (case side2 => exact HC2.out); rintro e w' ⟨rfl, ⟨nd, rfl⟩⟩) | (go_at_call 14; (with_reducible refine (digest_Sum.calls k a1 _ _ l2 t113 _ ?side1 ?side2 A7.out).mono ?_); (case side1 => repeat (first | exact HR2.out | (with_reducible refine Kd.C_alloc ?_ _) | (with_reducible refine Kd.C_drewN ?_ _) | (with_reducible refine Kd.C_drew ?_))); (case side2 => exact HC2.out); rintro e w' ⟨rfl, ⟨nd, rfl⟩⟩))
    go_ret
    exact ⟨by first | rfl | (simp; done) | (simp [*]; done), by repeat (first | exact Drawn0.refl _ | apply Drawn0.step)⟩
  · replace c5 := Bool.eq_false_iff.mpr c5
    subst c5
    have H1 : (some false) = some r := by rw [if_neg (show ¬ (false = true) by decide)] at H; exact H
    clear H
    have H := H1
    clear H1
    obtain rfl := Option.some.inj H
    go_enter Try.func6, Try.ntmps6
    go_wp2_with (first | ((with_reducible refine gate_callee (f := 11) rfl ?_); refine goesL_ (some 7) rfl rfl Try.func11 (by kernel_rfl) rfl #[] rfl (by (try simp only [List.map_toArray, List.map_cons, List.map_nil]); first | done | rfl | (simp only [List.length_drop, List.length_take]; rfl)) ?_; (with_reducible refine (cellplanelaw02_awake.calls k  false _ A4.out).mono ?_); rintro e w' ⟨rfl, ⟨nd, rfl⟩⟩; refine ⟨_, rfl, ?_⟩))
    go_ret
    exact ⟨by first | rfl | (simp; done) | (simp [*]; done), by repeat (first | exact Drawn0.refl _ | apply Drawn0.step)⟩

/-- THE ONE PURE STATEMENT of cellplanelaw02_DigestKeys: yours. -/
def cellplanelaw02_DigestKeys.Pure : Prop := ∀ (a0 : Int) (a1 : Int) (l2 : List Int), (Lit.int .i64 a0).wf = true → (Lit.int .i64 a1).wf = true → l2.length ≤ maxLen → l2.length * 1 ≤ 140737488351232 → (∀ x ∈ l2, (Lit.int .u8 x).wf = true) → ∃ k, cellplanelaw02_DigestKeys.f k a0 a1 l2 = some true
theorem cellplanelaw02_DigestKeys.walk (P : cellplanelaw02_DigestKeys.Pure) (a0 : Int) (a1 : Int) (a2 : Option Addr) (len2 cap2 : Nat) (z2 : List Int) (w : World) (w0 : (Lit.int .i64 a0).wf = true) (w1 : (Lit.int .i64 a1).wf = true) (w2 : (a2 = none ∧ len2 = 0 ∧ cap2 = 0 ∧ z2 = []) ∨ ∃ x, a2 = some x ∧ len2 ≤ cap2 ∧ cap2 ≤ maxLen ∧ z2.length = cap2 ∧ (∀ i, i < z2.length → w.cell? (x.add i) = some (.int .u8 (z2.getD i 0))) ∧ ∀ n ∈ z2, (Lit.int .u8 n).wf = true) (y2 : len2 * 1 ≤ 140737488351232) :
    Calls Try.prog 6 #[.int .i64 a0, .int .i64 a1, .slice a2 len2 cap2] w fun e w' => e = .returned (.bool true) ∧ Below w.heap.size w w' := by
  obtain ⟨l2, rfl, hr2, hm2, hw2, hc2⟩ := ReadsInt.ofRowC w2
  obtain ⟨k, h⟩ := P a0 a1 l2 w0 w1 hm2 y2 hw2
  refine (cellplanelaw02_DigestKeys.calls k a0 a1 _ _ l2 true w (Kd.C_of_reads (d := (0 : Int)) (h1 := fun _ => rfl) hr2) hc2 h).mono ?_
  rintro e w' ⟨rfl, hd⟩
  exact ⟨rfl, hd.below⟩

end Go.Proofs.Ytomdnmddphoecaa.QDigestKeys
