-- Written by a program of this session's own (wip/myprint.sh). Lean checks it.
import Derived.Test.YtgbdabhjcimbbaaQWireAppendsx0
import Derived.Test.YtgbdabhjcimbbaaQWireAppendsx1
namespace Go.Proofs.Ytgbdabhjcimbbaa.QWireAppends
open Go.RowKit Go.Proofs.YtgbdabhjcimbbaaW.PrintWords Go.Proofs.YtgbdabhjcimbbaaW.PrintLast Go.Proofs.YtgbdabhjcimbbaaW.PrintMore
attribute [local go_sem] max2_int min2_int max_two min_two max_three min_three max_four min_four   -- for this text's walks alone
set_option linter.unusedVariables false
set_option linter.unusedSimpArgs false

/-! ### cellplanelaw01_WireAppends: function 10 -/
def cellplanelaw01_WireAppends.j0 : Nat → List Int → Int → Int → ByteArray → Bool → Option (Bool)
  | 0, _, _, _, _, _ => none
  | k + 1, x0, x1, x2, x3, x23 => if x23 = true then ((cellplanelaw01_awake.f k).bind fun t164 => (some t164)) else ((some (([] : List Int) : List Int)).bind fun y165 => (if y165.length + x0.length < 140737488355328 then ((some (y165 ++ x0 : List Int)).bind fun y168 => (if (wrap64 ((x0.length : Int) + 1)) = 0 then (none) else (if 0 ≤ (Int.tmod (wrap64 ((wrap64 ((Int.tmod x1 (wrap64 ((x0.length : Int) + 1))) + (x0.length : Int))) + 1)) (wrap64 ((x0.length : Int) + 1))) then (if (Int.tmod (wrap64 ((wrap64 ((Int.tmod x1 (wrap64 ((x0.length : Int) + 1))) + (x0.length : Int))) + 1)) (wrap64 ((x0.length : Int) + 1))) ≤ (x0.length : Int) then ((wire_Int.f k (x0.take ((Int.tmod (wrap64 ((wrap64 ((Int.tmod x1 (wrap64 ((x0.length : Int) + 1))) + (x0.length : Int))) + 1)) (wrap64 ((x0.length : Int) + 1))) : Int).toNat) x2).bind fun t172 => ((wire_Text.f k (x0.take ((Int.tmod (wrap64 ((wrap64 ((Int.tmod x1 (wrap64 ((x0.length : Int) + 1))) + (x0.length : Int))) + 1)) (wrap64 ((x0.length : Int) + 1))) : Int).toNat) x3).bind fun t176 => ((wire_Ints.f k (x0.take ((Int.tmod (wrap64 ((wrap64 ((Int.tmod x1 (wrap64 ((x0.length : Int) + 1))) + (x0.length : Int))) + 1)) (wrap64 ((x0.length : Int) + 1))) : Int).toNat) (([x2] : List Int))).bind fun t183 => ((cellplanelaw01_awake.f k).bind fun t186 => (if t186 = true then ((cellplaneref01_SameBytes.f x0 y168).bind fun t187 => (if t187 = true then (if (t172.length : Int) > (Int.tmod (wrap64 ((wrap64 ((Int.tmod x1 (wrap64 ((x0.length : Int) + 1))) + (x0.length : Int))) + 1)) (wrap64 ((x0.length : Int) + 1))) then (if (t176.length : Int) > (Int.tmod (wrap64 ((wrap64 ((Int.tmod x1 (wrap64 ((x0.length : Int) + 1))) + (x0.length : Int))) + 1)) (wrap64 ((x0.length : Int) + 1))) then (if (t183.length : Int) > (Int.tmod (wrap64 ((wrap64 ((Int.tmod x1 (wrap64 ((x0.length : Int) + 1))) + (x0.length : Int))) + 1)) (wrap64 ((x0.length : Int) + 1))) then (if (Int.tmod (wrap64 ((wrap64 ((Int.tmod x1 (wrap64 ((x0.length : Int) + 1))) + (x0.length : Int))) + 1)) (wrap64 ((x0.length : Int) + 1))) ≤ (t172.length : Int) then (if (Int.tmod (wrap64 ((wrap64 ((Int.tmod x1 (wrap64 ((x0.length : Int) + 1))) + (x0.length : Int))) + 1)) (wrap64 ((x0.length : Int) + 1))) ≤ (y168.length : Int) then ((cellplaneref01_SameBytes.f (t172.take ((Int.tmod (wrap64 ((wrap64 ((Int.tmod x1 (wrap64 ((x0.length : Int) + 1))) + (x0.length : Int))) + 1)) (wrap64 ((x0.length : Int) + 1))) : Int).toNat) (y168.take ((Int.tmod (wrap64 ((wrap64 ((Int.tmod x1 (wrap64 ((x0.length : Int) + 1))) + (x0.length : Int))) + 1)) (wrap64 ((x0.length : Int) + 1))) : Int).toNat)).bind fun t196 => (if t196 = true then (if (Int.tmod (wrap64 ((wrap64 ((Int.tmod x1 (wrap64 ((x0.length : Int) + 1))) + (x0.length : Int))) + 1)) (wrap64 ((x0.length : Int) + 1))) ≤ (t176.length : Int) then ((cellplaneref01_SameBytes.f (t176.take ((Int.tmod (wrap64 ((wrap64 ((Int.tmod x1 (wrap64 ((x0.length : Int) + 1))) + (x0.length : Int))) + 1)) (wrap64 ((x0.length : Int) + 1))) : Int).toNat) (y168.take ((Int.tmod (wrap64 ((wrap64 ((Int.tmod x1 (wrap64 ((x0.length : Int) + 1))) + (x0.length : Int))) + 1)) (wrap64 ((x0.length : Int) + 1))) : Int).toNat)).bind fun t205 => (if t205 = true then (if (Int.tmod (wrap64 ((wrap64 ((Int.tmod x1 (wrap64 ((x0.length : Int) + 1))) + (x0.length : Int))) + 1)) (wrap64 ((x0.length : Int) + 1))) ≤ (t183.length : Int) then ((cellplaneref01_SameBytes.f (t183.take ((Int.tmod (wrap64 ((wrap64 ((Int.tmod x1 (wrap64 ((x0.length : Int) + 1))) + (x0.length : Int))) + 1)) (wrap64 ((x0.length : Int) + 1))) : Int).toNat) (y168.take ((Int.tmod (wrap64 ((wrap64 ((Int.tmod x1 (wrap64 ((x0.length : Int) + 1))) + (x0.length : Int))) + 1)) (wrap64 ((x0.length : Int) + 1))) : Int).toNat)).bind fun t214 => (some t214)) else (none)) else (some false))) else (none)) else (some false))) else (none)) else (none)) else (some false)) else (some false)) else (some false)) else (some false))) else (some false)))))) else (none)) else (none)))) else (none)))
def cellplanelaw01_WireAppends.f (k : Nat) (l0 : List Int) (a1 : Int) (a2 : Int) (a3 : ByteArray) : Option (Bool) := (cellplanelaw01_few.f (l0.length : Int)).bind fun t162 => (if t162 = true then ((cellplanelaw01_few.f (a3.size : Int)).bind fun t163 => (cellplanelaw01_WireAppends.j0 k l0 a1 a2 a3 (!t163))) else (cellplanelaw01_WireAppends.j0 k l0 a1 a2 a3 true))
theorem cellplanelaw01_WireAppends.mono_l : ∀ k, (∀ y0 y1 y2 y3 y4, LeO (cellplanelaw01_WireAppends.j0 k y0 y1 y2 y3 y4) (cellplanelaw01_WireAppends.j0 (k + 1) y0 y1 y2 y3 y4))
  | 0 => fun _ _ _ _ _ r h => by simp [cellplanelaw01_WireAppends.j0] at h
  | k + 1 => by
    have ih0 := cellplanelaw01_WireAppends.mono_l k
    · intro y0 y1 y2 y3 y4
      unfold cellplanelaw01_WireAppends.j0
      repeat' first
      | (with_reducible exact ih0 _ _ _ _ _)
      | (with_reducible exact cellplanelaw01_awake.mono _)
      | (with_reducible exact wire_Int.mono _ _ _)
      | (with_reducible exact wire_Ints.mono _ _ _)
      | (with_reducible exact wire_Text.mono _ _ _)
      | (with_reducible exact LeO.refl _)
      | (with_reducible exact LeO.none _)
      | (with_reducible refine LeO.ite ?_ ?_)
      | (with_reducible refine LeO.bind ?_ (fun _ => ?_))
      | exact ih0 _ _ _ _ _
      | exact cellplanelaw01_awake.mono _
      | exact wire_Int.mono _ _ _
      | exact wire_Ints.mono _ _ _
      | exact wire_Text.mono _ _ _
      | exact LeO.none _
      | refine LeO.ite ?_ ?_
      | refine LeO.bind ?_ (fun _ => ?_)
theorem cellplanelaw01_WireAppends.mono : ∀ a0 a1 a2 a3 k, LeO (cellplanelaw01_WireAppends.f k a0 a1 a2 a3) (cellplanelaw01_WireAppends.f (k + 1) a0 a1 a2 a3) := by
  intro a0 a1 a2 a3 k
  have ih0 := cellplanelaw01_WireAppends.mono_l k
  unfold cellplanelaw01_WireAppends.f
  repeat' first
      | (with_reducible exact ih0 _ _ _ _ _)
      | (with_reducible exact cellplanelaw01_awake.mono _)
      | (with_reducible exact wire_Int.mono _ _ _)
      | (with_reducible exact wire_Ints.mono _ _ _)
      | (with_reducible exact wire_Text.mono _ _ _)
      | (with_reducible exact LeO.refl _)
      | (with_reducible exact LeO.none _)
      | (with_reducible refine LeO.ite ?_ ?_)
      | (with_reducible refine LeO.bind ?_ (fun _ => ?_))
      | exact ih0 _ _ _ _ _
      | exact cellplanelaw01_awake.mono _
      | exact wire_Int.mono _ _ _
      | exact wire_Ints.mono _ _ _
      | exact wire_Text.mono _ _ _
      | exact LeO.none _
      | refine LeO.ite ?_ ?_
      | refine LeO.bind ?_ (fun _ => ?_)
def cellplanelaw01_WireAppends.T5 : Bool × List (List Nat × List Nat) := (true, [([], []), ([], []), ([0, 1], [0, 1]), ([], []), ([2, 3], [2, 3]), ([], []), ([], []), ([5, 6], [5, 6]), ([], []), ([7, 8, 4], [7, 8]), ([], []), ([], []), ([10, 11], [10, 11]), ([], []), ([13], [13]), ([12, 14, 9], [12, 14]), ([4, 15, 0, 1, 2, 3, 4], [4]), ([9, 16, 0, 1, 2, 3, 4, 5, 6, 7, 8, 9, 16], [9]), ([15, 17, 0, 1, 2, 3, 4, 5, 6, 7, 8, 9, 10, 11, 12, 13, 14, 15, 16, 17], [15])])
def cellplanelaw01_WireAppends.B5 : List Nat := [0, 0, 3, 0, 15, 0, 0, 96, 0, 511, 0, 0, 3072, 0, 8192, 32767, 65535, 131071, 262143]
theorem cellplanelaw01_WireAppends.tab5 : rtab .any (opsOf Try.f10 5) = cellplanelaw01_WireAppends.T5 := by kernel_rfl
theorem cellplanelaw01_WireAppends.bits5 : waitsOk cellplanelaw01_WireAppends.T5.2 cellplanelaw01_WireAppends.B5 = true := by kernel_rfl
def cellplanelaw01_WireAppends.T6 : Bool × List (List Nat × List Nat) := (true, [([], []), ([0, 0], [0]), ([1], [1]), ([1], [1]), ([2, 3, 1, 1], [1, 2, 3]), ([1, 4], [1, 4]), ([5, 4], [5]), ([6], [6]), ([7, 6], [6, 7]), ([6], [6]), ([8, 9, 6], [6, 8, 9]), ([6, 10], [6, 10]), ([11, 6], [11]), ([12], [12]), ([13, 12], [12, 13]), ([12], [12]), ([14, 15, 12], [12, 14, 15]), ([12, 16], [12, 16]), ([17, 12], [17]), ([18], [18]), ([19, 18], [18, 19]), ([18], [18]), ([20, 21, 18], [18, 20, 21]), ([18, 22], [18, 22]), ([23, 18], [23]), ([24], [24]), ([24], [24]), ([25, 26, 24], [24, 25, 26]), ([24], [24]), ([24], [24]), ([28, 29, 24], [24, 28, 29]), ([27, 30, 24, 24], [24, 27, 30]), ([24, 31], [24, 31]), ([32, 31], [32]), ([33], [33]), ([33], [33]), ([34, 35, 33], [33, 34, 35]), ([33], [33]), ([33], [33]), ([37, 38, 33], [33, 37, 38]), ([36, 39, 33, 33], [33, 36, 39]), ([33, 40], [33, 40]), ([41, 40], [41]), ([42], [42]), ([42], [42]), ([43, 44, 42], [42, 43, 44]), ([42], [42]), ([42], [42]), ([46, 47, 42], [42, 46, 47]), ([45, 48, 42, 42], [42, 45, 48]), ([42, 49], [42, 49]), ([50, 49, 0, 1, 2, 3, 4, 5, 6, 7, 8, 9, 10, 11, 12, 13, 14, 15, 16, 17, 18, 19, 20, 21, 22, 23, 24, 25, 26, 27, 28, 29, 30, 31, 32, 33, 34, 35, 36, 37, 38, 39, 40, 41, 42, 43, 44, 45, 46, 47, 48, 49, 50], [50])])
def cellplanelaw01_WireAppends.B6 : List Nat := [0, 1, 3, 3, 15, 31, 63, 127, 255, 127, 1023, 2047, 4095, 8191, 16383, 8191, 65535, 131071, 262143, 524287, 1048575, 524287, 4194303, 8388607, 16777215, 33554431, 33554431, 134217727, 33554431, 33554431, 838860799, 2147483647, 4294967295, 8589934591, 17179869183, 17179869183, 68719476735, 17179869183, 17179869183, 429496729599, 1099511627775, 2199023255551, 4398046511103, 8796093022207, 8796093022207, 35184372088831, 8796093022207, 8796093022207, 219902325555199, 562949953421311, 1125899906842623, 2251799813685247]
theorem cellplanelaw01_WireAppends.tab6 : rtab .any (opsOf Try.f10 6) = cellplanelaw01_WireAppends.T6 := by kernel_rfl
theorem cellplanelaw01_WireAppends.bits6 : waitsOk cellplanelaw01_WireAppends.T6.2 cellplanelaw01_WireAppends.B6 = true := by kernel_rfl
set_option maxHeartbeats 8000000 in
set_option maxRecDepth 100000 in
theorem cellplanelaw01_WireAppends.calls (k : Nat) (A0 : Option Addr) (c0 : Nat) (l0 : List Int) (a1 : Int) (a2 : Int) (a3 : ByteArray) (r : Bool) (w : World) (hr0 : Kd.C (Kd.int .u8) w A0 l0.length l0) (hc0 : l0.length ≤ c0) (hT : r = true) (h : cellplanelaw01_WireAppends.f k l0 a1 a2 a3 = some r) :
    Calls Try.prog 10 #[.slice A0 l0.length c0, .int .i64 a1, .int .i64 a2, .string a3] w fun e w' => e = .returned (.bool r) ∧ Below w.heap.size w w' := by
  have HR0 := Aside0.mk hr0
  have HC0 := Aside0.mk hc0
  clear hr0 hc0
  have HB := Aside0.mk (Below.refl w.heap.size w)
  have H : ((cellplanelaw01_few.f (l0.length : Int)).bind fun t162 => (if t162 = true then ((cellplanelaw01_few.f (a3.size : Int)).bind fun t163 => (cellplanelaw01_WireAppends.j0 k l0 a1 a2 a3 (!t163))) else (cellplanelaw01_WireAppends.j0 k l0 a1 a2 a3 true))) = some r := h
  clear h
  have HC5 := Aside0.mk H
  clear H
  go_enter Try.func10, Try.ntmps10
  go_upto_region 1 with (fail)
  go_cut [23] (fun v23 wc => ∃ (kq : Nat) (x23_4 : Bool), v23 = .bool x23_4 ∧ Aside0 (cellplanelaw01_WireAppends.j0 kq l0 a1 a2 a3 x23_4 = some r) ∧ Aside0 (kq ≤ k) ∧ Aside0 (Below w.heap.size w wc))
  case first =>
    have H := HC5.out
    clear HC5
    replace H := Option.bind_eq_some_iff.mp H
    obtain ⟨t162, A60, H⟩ := H
    replace H : (if t162 = true then ((cellplanelaw01_few.f (a3.size : Int)).bind fun t163 => (cellplanelaw01_WireAppends.j0 k l0 a1 a2 a3 (!t163))) else (cellplanelaw01_WireAppends.j0 k l0 a1 a2 a3 true)) = some r := H
    have A6 := Aside0.mk A60
    clear A60
    by_cases c7 : t162 = true
    · subst c7
      have H1 : ((cellplanelaw01_few.f (a3.size : Int)).bind fun t163 => (cellplanelaw01_WireAppends.j0 k l0 a1 a2 a3 (!t163))) = some r := by rw [if_pos rfl] at H; exact H
      clear H
      have H := H1
      clear H1
      replace H := Option.bind_eq_some_iff.mp H
      obtain ⟨t163, A80, H⟩ := H
      replace H : (cellplanelaw01_WireAppends.j0 k l0 a1 a2 a3 (!t163)) = some r := H
      have A8 := Aside0.mk A80
      clear A80
      have H' := Aside0.mk H
      clear H
      go_wp2_with (first | ((with_reducible refine gate_callee (f := 17) rfl ?_); refine goesL_ (some 16) rfl rfl Try.func17 (by kernel_rfl) rfl #[.int .i64 (l0.length : Int)] rfl (by (try simp only [List.map_toArray, List.map_cons, List.map_nil]); first | done | rfl | (simp only [List.length_drop, List.length_take]; rfl)) ?_; (with_reducible refine (cellplanelaw01_few.calls (l0.length : Int) true _ A6.out).mono ?_); rintro e w' ⟨rfl, ⟨nd, rfl⟩⟩; refine ⟨_, rfl, ?_⟩) | (go_at_call 17; (with_reducible refine (cellplanelaw01_few.calls (a3.size : Int) t163 _ A8.out).mono ?_); rintro e w' ⟨rfl, ⟨nd, rfl⟩⟩))
      go_meet
      case rel => exact ⟨_, (!t163), (by first | rfl | (simp; done) | (simp [*]; done)), H', ⟨by first | omega | exact Nat.le_refl _⟩, ⟨by repeat (first | (with_reducible first | exact HB.out | apply below_alloc | apply pw_below_drewN | apply below_drew1) | exact HB.out)⟩⟩
    · replace c7 := Bool.eq_false_iff.mpr c7
      subst c7
      have H1 : (cellplanelaw01_WireAppends.j0 k l0 a1 a2 a3 true) = some r := by rw [if_neg (show ¬ (false = true) by decide)] at H; exact H
      clear H
      have H := H1
      clear H1
      have H' := Aside0.mk H
      clear H
      go_wp2_with (first | ((with_reducible refine gate_callee (f := 17) rfl ?_); refine goesL_ (some 16) rfl rfl Try.func17 (by kernel_rfl) rfl #[.int .i64 (l0.length : Int)] rfl (by (try simp only [List.map_toArray, List.map_cons, List.map_nil]); first | done | rfl | (simp only [List.length_drop, List.length_take]; rfl)) ?_; (with_reducible refine (cellplanelaw01_few.calls (l0.length : Int) false _ A6.out).mono ?_); rintro e w' ⟨rfl, ⟨nd, rfl⟩⟩; refine ⟨_, rfl, ?_⟩))
      go_meet
      case rel => exact ⟨_, (true), (by first | rfl | (simp; done) | (simp [*]; done)), H', ⟨by first | omega | exact Nat.le_refl _⟩, ⟨by repeat (first | (with_reducible first | exact HB.out | apply below_alloc | apply pw_below_drewN | apply below_drew1) | exact HB.out)⟩⟩
  case rest =>
    clear HC5
    try clear c1
    try clear p2
    try clear c7
    obtain ⟨kq, x23_4, rfl, HA, HJ4, HB⟩ := hcut
    cases kq with
    | zero => exact absurd HA.out (by simp [cellplanelaw01_WireAppends.j0])
    | succ kj4 =>
      have H := HA.out
      clear HA
      simp only [cellplanelaw01_WireAppends.j0] at H
      by_cases c9 : x23_4 = true
      · subst c9
        have H1 : ((cellplanelaw01_awake.f kj4).bind fun t164 => (some t164)) = some r := by rw [if_pos rfl] at H; exact H
        clear H
        have H := H1
        clear H1
        replace H := Option.bind_eq_some_iff.mp H
        obtain ⟨t164, A100, H⟩ := H
        replace H : (some t164) = some r := H
        have A10 := Aside0.mk A100
        clear A100
        obtain rfl := Option.some.inj H
        go_wp2_with (first | ((with_reducible refine gate_callee (f := 13) rfl ?_); refine goesL_ (some 24) rfl rfl Try.func13 (by kernel_rfl) rfl #[] rfl (by (try simp only [List.map_toArray, List.map_cons, List.map_nil]); first | done | rfl | (simp only [List.length_drop, List.length_take]; rfl)) ?_; (with_reducible refine (cellplanelaw01_awake.calls kj4  t164 _ A10.out).mono ?_); rintro e w11 ⟨rfl, hb⟩; refine ⟨_, rfl, ?_⟩; have n0_ := Aside0.mk (below_step (by repeat (first | (with_reducible first | exact HB.out | apply below_alloc | apply pw_below_drewN | apply below_drew1) | exact HB.out)) hb); clear HB; have HB := n0_; clear n0_; (try clear hb); (try clear hb2); (try clear hk); (try clear hi)))
        go_ret
        exact ⟨by first | rfl | (simp [errW_none, errW_some] <;> rfl) | (simp [*, errW_none, errW_some] <;> rfl), by repeat (first | (with_reducible first | exact HB.out | apply below_alloc | apply pw_below_drewN | apply below_drew1) | exact HB.out)⟩
      · replace c9 := Bool.eq_false_iff.mpr c9
        subst c9
        have H1 : ((some (([] : List Int) : List Int)).bind fun y165 => (if y165.length + l0.length < 140737488355328 then ((some (y165 ++ l0 : List Int)).bind fun y168 => (if (wrap64 ((l0.length : Int) + 1)) = 0 then (none) else (if 0 ≤ (Int.tmod (wrap64 ((wrap64 ((Int.tmod a1 (wrap64 ((l0.length : Int) + 1))) + (l0.length : Int))) + 1)) (wrap64 ((l0.length : Int) + 1))) then (if (Int.tmod (wrap64 ((wrap64 ((Int.tmod a1 (wrap64 ((l0.length : Int) + 1))) + (l0.length : Int))) + 1)) (wrap64 ((l0.length : Int) + 1))) ≤ (l0.length : Int) then ((wire_Int.f kj4 (l0.take ((Int.tmod (wrap64 ((wrap64 ((Int.tmod a1 (wrap64 ((l0.length : Int) + 1))) + (l0.length : Int))) + 1)) (wrap64 ((l0.length : Int) + 1))) : Int).toNat) a2).bind fun t172 => ((wire_Text.f kj4 (l0.take ((Int.tmod (wrap64 ((wrap64 ((Int.tmod a1 (wrap64 ((l0.length : Int) + 1))) + (l0.length : Int))) + 1)) (wrap64 ((l0.length : Int) + 1))) : Int).toNat) a3).bind fun t176 => ((wire_Ints.f kj4 (l0.take ((Int.tmod (wrap64 ((wrap64 ((Int.tmod a1 (wrap64 ((l0.length : Int) + 1))) + (l0.length : Int))) + 1)) (wrap64 ((l0.length : Int) + 1))) : Int).toNat) (([a2] : List Int))).bind fun t183 => ((cellplanelaw01_awake.f kj4).bind fun t186 => (if t186 = true then ((cellplaneref01_SameBytes.f l0 y168).bind fun t187 => (if t187 = true then (if (t172.length : Int) > (Int.tmod (wrap64 ((wrap64 ((Int.tmod a1 (wrap64 ((l0.length : Int) + 1))) + (l0.length : Int))) + 1)) (wrap64 ((l0.length : Int) + 1))) then (if (t176.length : Int) > (Int.tmod (wrap64 ((wrap64 ((Int.tmod a1 (wrap64 ((l0.length : Int) + 1))) + (l0.length : Int))) + 1)) (wrap64 ((l0.length : Int) + 1))) then (if (t183.length : Int) > (Int.tmod (wrap64 ((wrap64 ((Int.tmod a1 (wrap64 ((l0.length : Int) + 1))) + (l0.length : Int))) + 1)) (wrap64 ((l0.length : Int) + 1))) then (if (Int.tmod (wrap64 ((wrap64 ((Int.tmod a1 (wrap64 ((l0.length : Int) + 1))) + (l0.length : Int))) + 1)) (wrap64 ((l0.length : Int) + 1))) ≤ (t172.length : Int) then (if (Int.tmod (wrap64 ((wrap64 ((Int.tmod a1 (wrap64 ((l0.length : Int) + 1))) + (l0.length : Int))) + 1)) (wrap64 ((l0.length : Int) + 1))) ≤ (y168.length : Int) then ((cellplaneref01_SameBytes.f (t172.take ((Int.tmod (wrap64 ((wrap64 ((Int.tmod a1 (wrap64 ((l0.length : Int) + 1))) + (l0.length : Int))) + 1)) (wrap64 ((l0.length : Int) + 1))) : Int).toNat) (y168.take ((Int.tmod (wrap64 ((wrap64 ((Int.tmod a1 (wrap64 ((l0.length : Int) + 1))) + (l0.length : Int))) + 1)) (wrap64 ((l0.length : Int) + 1))) : Int).toNat)).bind fun t196 => (if t196 = true then (if (Int.tmod (wrap64 ((wrap64 ((Int.tmod a1 (wrap64 ((l0.length : Int) + 1))) + (l0.length : Int))) + 1)) (wrap64 ((l0.length : Int) + 1))) ≤ (t176.length : Int) then ((cellplaneref01_SameBytes.f (t176.take ((Int.tmod (wrap64 ((wrap64 ((Int.tmod a1 (wrap64 ((l0.length : Int) + 1))) + (l0.length : Int))) + 1)) (wrap64 ((l0.length : Int) + 1))) : Int).toNat) (y168.take ((Int.tmod (wrap64 ((wrap64 ((Int.tmod a1 (wrap64 ((l0.length : Int) + 1))) + (l0.length : Int))) + 1)) (wrap64 ((l0.length : Int) + 1))) : Int).toNat)).bind fun t205 => (if t205 = true then (if (Int.tmod (wrap64 ((wrap64 ((Int.tmod a1 (wrap64 ((l0.length : Int) + 1))) + (l0.length : Int))) + 1)) (wrap64 ((l0.length : Int) + 1))) ≤ (t183.length : Int) then ((cellplaneref01_SameBytes.f (t183.take ((Int.tmod (wrap64 ((wrap64 ((Int.tmod a1 (wrap64 ((l0.length : Int) + 1))) + (l0.length : Int))) + 1)) (wrap64 ((l0.length : Int) + 1))) : Int).toNat) (y168.take ((Int.tmod (wrap64 ((wrap64 ((Int.tmod a1 (wrap64 ((l0.length : Int) + 1))) + (l0.length : Int))) + 1)) (wrap64 ((l0.length : Int) + 1))) : Int).toNat)).bind fun t214 => (some t214)) else (none)) else (some false))) else (none)) else (some false))) else (none)) else (none)) else (some false)) else (some false)) else (some false)) else (some false))) else (some false)))))) else (none)) else (none)))) else (none))) = some r := by rw [if_neg (show ¬ (false = true) by decide)] at H; exact H
        clear H
        have H := H1
        clear H1
        obtain ⟨y165, hy165⟩ : ∃ y_ : List Int, y_ = (([] : List Int)) := ⟨_, rfl⟩
        replace H : (if y165.length + l0.length < 140737488355328 then ((some (y165 ++ l0 : List Int)).bind fun y168 => (if (wrap64 ((l0.length : Int) + 1)) = 0 then (none) else (if 0 ≤ (Int.tmod (wrap64 ((wrap64 ((Int.tmod a1 (wrap64 ((l0.length : Int) + 1))) + (l0.length : Int))) + 1)) (wrap64 ((l0.length : Int) + 1))) then (if (Int.tmod (wrap64 ((wrap64 ((Int.tmod a1 (wrap64 ((l0.length : Int) + 1))) + (l0.length : Int))) + 1)) (wrap64 ((l0.length : Int) + 1))) ≤ (l0.length : Int) then ((wire_Int.f kj4 (l0.take ((Int.tmod (wrap64 ((wrap64 ((Int.tmod a1 (wrap64 ((l0.length : Int) + 1))) + (l0.length : Int))) + 1)) (wrap64 ((l0.length : Int) + 1))) : Int).toNat) a2).bind fun t172 => ((wire_Text.f kj4 (l0.take ((Int.tmod (wrap64 ((wrap64 ((Int.tmod a1 (wrap64 ((l0.length : Int) + 1))) + (l0.length : Int))) + 1)) (wrap64 ((l0.length : Int) + 1))) : Int).toNat) a3).bind fun t176 => ((wire_Ints.f kj4 (l0.take ((Int.tmod (wrap64 ((wrap64 ((Int.tmod a1 (wrap64 ((l0.length : Int) + 1))) + (l0.length : Int))) + 1)) (wrap64 ((l0.length : Int) + 1))) : Int).toNat) (([a2] : List Int))).bind fun t183 => ((cellplanelaw01_awake.f kj4).bind fun t186 => (if t186 = true then ((cellplaneref01_SameBytes.f l0 y168).bind fun t187 => (if t187 = true then (if (t172.length : Int) > (Int.tmod (wrap64 ((wrap64 ((Int.tmod a1 (wrap64 ((l0.length : Int) + 1))) + (l0.length : Int))) + 1)) (wrap64 ((l0.length : Int) + 1))) then (if (t176.length : Int) > (Int.tmod (wrap64 ((wrap64 ((Int.tmod a1 (wrap64 ((l0.length : Int) + 1))) + (l0.length : Int))) + 1)) (wrap64 ((l0.length : Int) + 1))) then (if (t183.length : Int) > (Int.tmod (wrap64 ((wrap64 ((Int.tmod a1 (wrap64 ((l0.length : Int) + 1))) + (l0.length : Int))) + 1)) (wrap64 ((l0.length : Int) + 1))) then (if (Int.tmod (wrap64 ((wrap64 ((Int.tmod a1 (wrap64 ((l0.length : Int) + 1))) + (l0.length : Int))) + 1)) (wrap64 ((l0.length : Int) + 1))) ≤ (t172.length : Int) then (if (Int.tmod (wrap64 ((wrap64 ((Int.tmod a1 (wrap64 ((l0.length : Int) + 1))) + (l0.length : Int))) + 1)) (wrap64 ((l0.length : Int) + 1))) ≤ (y168.length : Int) then ((cellplaneref01_SameBytes.f (t172.take ((Int.tmod (wrap64 ((wrap64 ((Int.tmod a1 (wrap64 ((l0.length : Int) + 1))) + (l0.length : Int))) + 1)) (wrap64 ((l0.length : Int) + 1))) : Int).toNat) (y168.take ((Int.tmod (wrap64 ((wrap64 ((Int.tmod a1 (wrap64 ((l0.length : Int) + 1))) + (l0.length : Int))) + 1)) (wrap64 ((l0.length : Int) + 1))) : Int).toNat)).bind fun t196 => (if t196 = true then (if (Int.tmod (wrap64 ((wrap64 ((Int.tmod a1 (wrap64 ((l0.length : Int) + 1))) + (l0.length : Int))) + 1)) (wrap64 ((l0.length : Int) + 1))) ≤ (t176.length : Int) then ((cellplaneref01_SameBytes.f (t176.take ((Int.tmod (wrap64 ((wrap64 ((Int.tmod a1 (wrap64 ((l0.length : Int) + 1))) + (l0.length : Int))) + 1)) (wrap64 ((l0.length : Int) + 1))) : Int).toNat) (y168.take ((Int.tmod (wrap64 ((wrap64 ((Int.tmod a1 (wrap64 ((l0.length : Int) + 1))) + (l0.length : Int))) + 1)) (wrap64 ((l0.length : Int) + 1))) : Int).toNat)).bind fun t205 => (if t205 = true then (if (Int.tmod (wrap64 ((wrap64 ((Int.tmod a1 (wrap64 ((l0.length : Int) + 1))) + (l0.length : Int))) + 1)) (wrap64 ((l0.length : Int) + 1))) ≤ (t183.length : Int) then ((cellplaneref01_SameBytes.f (t183.take ((Int.tmod (wrap64 ((wrap64 ((Int.tmod a1 (wrap64 ((l0.length : Int) + 1))) + (l0.length : Int))) + 1)) (wrap64 ((l0.length : Int) + 1))) : Int).toNat) (y168.take ((Int.tmod (wrap64 ((wrap64 ((Int.tmod a1 (wrap64 ((l0.length : Int) + 1))) + (l0.length : Int))) + 1)) (wrap64 ((l0.length : Int) + 1))) : Int).toNat)).bind fun t214 => (some t214)) else (none)) else (some false))) else (none)) else (some false))) else (none)) else (none)) else (some false)) else (some false)) else (some false)) else (some false))) else (some false)))))) else (none)) else (none)))) else (none)) = some r := by first | (rw [hy165]; with_reducible exact H) | (have H2_ := (Option.bind_some _ _).symm.trans H; rw [hy165]; with_reducible exact H2_) | (have H2_ := (Option.bind_some _ _).symm.trans H; with_reducible exact H2_) | with_reducible exact H | (rw [hy165]; exact H) | exact H
        have Ny165 := Aside0.mk hy165
        clear hy165
        by_cases c12 : y165.length + l0.length < 140737488355328
        · rw [if_pos c12] at H
          have LMc12 := Aside0.mk c12
          clear c12
          obtain ⟨y168, hy168⟩ : ∃ y_ : List Int, y_ = (y165 ++ l0) := ⟨_, rfl⟩
          replace H : (if (wrap64 ((l0.length : Int) + 1)) = 0 then (none) else (if 0 ≤ (Int.tmod (wrap64 ((wrap64 ((Int.tmod a1 (wrap64 ((l0.length : Int) + 1))) + (l0.length : Int))) + 1)) (wrap64 ((l0.length : Int) + 1))) then (if (Int.tmod (wrap64 ((wrap64 ((Int.tmod a1 (wrap64 ((l0.length : Int) + 1))) + (l0.length : Int))) + 1)) (wrap64 ((l0.length : Int) + 1))) ≤ (l0.length : Int) then ((wire_Int.f kj4 (l0.take ((Int.tmod (wrap64 ((wrap64 ((Int.tmod a1 (wrap64 ((l0.length : Int) + 1))) + (l0.length : Int))) + 1)) (wrap64 ((l0.length : Int) + 1))) : Int).toNat) a2).bind fun t172 => ((wire_Text.f kj4 (l0.take ((Int.tmod (wrap64 ((wrap64 ((Int.tmod a1 (wrap64 ((l0.length : Int) + 1))) + (l0.length : Int))) + 1)) (wrap64 ((l0.length : Int) + 1))) : Int).toNat) a3).bind fun t176 => ((wire_Ints.f kj4 (l0.take ((Int.tmod (wrap64 ((wrap64 ((Int.tmod a1 (wrap64 ((l0.length : Int) + 1))) + (l0.length : Int))) + 1)) (wrap64 ((l0.length : Int) + 1))) : Int).toNat) (([a2] : List Int))).bind fun t183 => ((cellplanelaw01_awake.f kj4).bind fun t186 => (if t186 = true then ((cellplaneref01_SameBytes.f l0 y168).bind fun t187 => (if t187 = true then (if (t172.length : Int) > (Int.tmod (wrap64 ((wrap64 ((Int.tmod a1 (wrap64 ((l0.length : Int) + 1))) + (l0.length : Int))) + 1)) (wrap64 ((l0.length : Int) + 1))) then (if (t176.length : Int) > (Int.tmod (wrap64 ((wrap64 ((Int.tmod a1 (wrap64 ((l0.length : Int) + 1))) + (l0.length : Int))) + 1)) (wrap64 ((l0.length : Int) + 1))) then (if (t183.length : Int) > (Int.tmod (wrap64 ((wrap64 ((Int.tmod a1 (wrap64 ((l0.length : Int) + 1))) + (l0.length : Int))) + 1)) (wrap64 ((l0.length : Int) + 1))) then (if (Int.tmod (wrap64 ((wrap64 ((Int.tmod a1 (wrap64 ((l0.length : Int) + 1))) + (l0.length : Int))) + 1)) (wrap64 ((l0.length : Int) + 1))) ≤ (t172.length : Int) then (if (Int.tmod (wrap64 ((wrap64 ((Int.tmod a1 (wrap64 ((l0.length : Int) + 1))) + (l0.length : Int))) + 1)) (wrap64 ((l0.length : Int) + 1))) ≤ (y168.length : Int) then ((cellplaneref01_SameBytes.f (t172.take ((Int.tmod (wrap64 ((wrap64 ((Int.tmod a1 (wrap64 ((l0.length : Int) + 1))) + (l0.length : Int))) + 1)) (wrap64 ((l0.length : Int) + 1))) : Int).toNat) (y168.take ((Int.tmod (wrap64 ((wrap64 ((Int.tmod a1 (wrap64 ((l0.length : Int) + 1))) + (l0.length : Int))) + 1)) (wrap64 ((l0.length : Int) + 1))) : Int).toNat)).bind fun t196 => (if t196 = true then (if (Int.tmod (wrap64 ((wrap64 ((Int.tmod a1 (wrap64 ((l0.length : Int) + 1))) + (l0.length : Int))) + 1)) (wrap64 ((l0.length : Int) + 1))) ≤ (t176.length : Int) then ((cellplaneref01_SameBytes.f (t176.take ((Int.tmod (wrap64 ((wrap64 ((Int.tmod a1 (wrap64 ((l0.length : Int) + 1))) + (l0.length : Int))) + 1)) (wrap64 ((l0.length : Int) + 1))) : Int).toNat) (y168.take ((Int.tmod (wrap64 ((wrap64 ((Int.tmod a1 (wrap64 ((l0.length : Int) + 1))) + (l0.length : Int))) + 1)) (wrap64 ((l0.length : Int) + 1))) : Int).toNat)).bind fun t205 => (if t205 = true then (if (Int.tmod (wrap64 ((wrap64 ((Int.tmod a1 (wrap64 ((l0.length : Int) + 1))) + (l0.length : Int))) + 1)) (wrap64 ((l0.length : Int) + 1))) ≤ (t183.length : Int) then ((cellplaneref01_SameBytes.f (t183.take ((Int.tmod (wrap64 ((wrap64 ((Int.tmod a1 (wrap64 ((l0.length : Int) + 1))) + (l0.length : Int))) + 1)) (wrap64 ((l0.length : Int) + 1))) : Int).toNat) (y168.take ((Int.tmod (wrap64 ((wrap64 ((Int.tmod a1 (wrap64 ((l0.length : Int) + 1))) + (l0.length : Int))) + 1)) (wrap64 ((l0.length : Int) + 1))) : Int).toNat)).bind fun t214 => (some t214)) else (none)) else (some false))) else (none)) else (some false))) else (none)) else (none)) else (some false)) else (some false)) else (some false)) else (some false))) else (some false)))))) else (none)) else (none))) = some r := by first | (rw [hy168]; with_reducible exact H) | (have H2_ := (Option.bind_some _ _).symm.trans H; rw [hy168]; with_reducible exact H2_) | (have H2_ := (Option.bind_some _ _).symm.trans H; with_reducible exact H2_) | with_reducible exact H | (rw [hy168]; exact H) | exact H
          have Ny168 := Aside0.mk hy168
          clear hy168
          by_cases c13 : (wrap64 ((l0.length : Int) + 1)) = 0
          · rw [if_pos c13] at H
            exact absurd H (by simp)
          · rw [if_neg c13] at H
            have c13b0 : ((wrap64 ((l0.length : Int) + 1)) == 0) = false := beq_eq_false_iff_ne.mpr c13
            have c13b1 : ((wrap64 ((l0.length : Int) + 1)) != 0) = true := bne_iff_ne.mpr c13
            obtain ⟨ji14, hji14⟩ : ∃ j_ : Int, (Int.tmod (wrap64 ((wrap64 ((Int.tmod a1 (wrap64 ((l0.length : Int) + 1))) + (l0.length : Int))) + 1)) (wrap64 ((l0.length : Int) + 1))) = j_ := ⟨_, rfl⟩
            replace H : (if 0 ≤ (ji14) then (if (ji14) ≤ (l0.length : Int) then ((wire_Int.f kj4 (l0.take ((ji14) : Int).toNat) a2).bind fun t172 => ((wire_Text.f kj4 (l0.take ((ji14) : Int).toNat) a3).bind fun t176 => ((wire_Ints.f kj4 (l0.take ((ji14) : Int).toNat) (([a2] : List Int))).bind fun t183 => ((cellplanelaw01_awake.f kj4).bind fun t186 => (if t186 = true then ((cellplaneref01_SameBytes.f l0 y168).bind fun t187 => (if t187 = true then (if (t172.length : Int) > (ji14) then (if (t176.length : Int) > (ji14) then (if (t183.length : Int) > (ji14) then (if (ji14) ≤ (t172.length : Int) then (if (ji14) ≤ (y168.length : Int) then ((cellplaneref01_SameBytes.f (t172.take ((ji14) : Int).toNat) (y168.take ((ji14) : Int).toNat)).bind fun t196 => (if t196 = true then (if (ji14) ≤ (t176.length : Int) then ((cellplaneref01_SameBytes.f (t176.take ((ji14) : Int).toNat) (y168.take ((ji14) : Int).toNat)).bind fun t205 => (if t205 = true then (if (ji14) ≤ (t183.length : Int) then ((cellplaneref01_SameBytes.f (t183.take ((ji14) : Int).toNat) (y168.take ((ji14) : Int).toNat)).bind fun t214 => (some t214)) else (none)) else (some false))) else (none)) else (some false))) else (none)) else (none)) else (some false)) else (some false)) else (some false)) else (some false))) else (some false)))))) else (none)) else (none)) = some r := by first | (rw [hji14] at H; exact H) | (simp only [hji14] at H ⊢; exact H)
            by_cases c15 : 0 ≤ (ji14)
            · rw [if_pos c15] at H
              have c15b0 := eq_true c15
              have c15b1 : decide (0 ≤ (ji14)) = true := decide_eq_true c15
              clear c15
              by_cases c16 : (ji14) ≤ (l0.length : Int)
              · rw [if_pos c16] at H
                have c16b0 := eq_true c16
                have c16b1 : decide ((ji14) ≤ (l0.length : Int)) = true := decide_eq_true c16
                clear c16
                replace H := Option.bind_eq_some_iff.mp H
                obtain ⟨t172, A170, H⟩ := H
                replace H : ((wire_Text.f kj4 (l0.take ((ji14) : Int).toNat) a3).bind fun t176 => ((wire_Ints.f kj4 (l0.take ((ji14) : Int).toNat) (([a2] : List Int))).bind fun t183 => ((cellplanelaw01_awake.f kj4).bind fun t186 => (if t186 = true then ((cellplaneref01_SameBytes.f l0 y168).bind fun t187 => (if t187 = true then (if (t172.length : Int) > (ji14) then (if (t176.length : Int) > (ji14) then (if (t183.length : Int) > (ji14) then (if (ji14) ≤ (t172.length : Int) then (if (ji14) ≤ (y168.length : Int) then ((cellplaneref01_SameBytes.f (t172.take ((ji14) : Int).toNat) (y168.take ((ji14) : Int).toNat)).bind fun t196 => (if t196 = true then (if (ji14) ≤ (t176.length : Int) then ((cellplaneref01_SameBytes.f (t176.take ((ji14) : Int).toNat) (y168.take ((ji14) : Int).toNat)).bind fun t205 => (if t205 = true then (if (ji14) ≤ (t183.length : Int) then ((cellplaneref01_SameBytes.f (t183.take ((ji14) : Int).toNat) (y168.take ((ji14) : Int).toNat)).bind fun t214 => (some t214)) else (none)) else (some false))) else (none)) else (some false))) else (none)) else (none)) else (some false)) else (some false)) else (some false)) else (some false))) else (some false))))) = some r := H
                have A17 := Aside0.mk A170
                clear A170
                have c18b0 := eq_true (of_decide_eq_true (by first | (with_reducible assumption) | assumption) : 0 ≤ (ji14))
                have c19b0 := eq_true (of_decide_eq_true (by first | (with_reducible assumption) | assumption) : (ji14) ≤ (l0.length : Int))
                replace H := Option.bind_eq_some_iff.mp H
                obtain ⟨t176, A200, H⟩ := H
                replace H : ((wire_Ints.f kj4 (l0.take ((ji14) : Int).toNat) (([a2] : List Int))).bind fun t183 => ((cellplanelaw01_awake.f kj4).bind fun t186 => (if t186 = true then ((cellplaneref01_SameBytes.f l0 y168).bind fun t187 => (if t187 = true then (if (t172.length : Int) > (ji14) then (if (t176.length : Int) > (ji14) then (if (t183.length : Int) > (ji14) then (if (ji14) ≤ (t172.length : Int) then (if (ji14) ≤ (y168.length : Int) then ((cellplaneref01_SameBytes.f (t172.take ((ji14) : Int).toNat) (y168.take ((ji14) : Int).toNat)).bind fun t196 => (if t196 = true then (if (ji14) ≤ (t176.length : Int) then ((cellplaneref01_SameBytes.f (t176.take ((ji14) : Int).toNat) (y168.take ((ji14) : Int).toNat)).bind fun t205 => (if t205 = true then (if (ji14) ≤ (t183.length : Int) then ((cellplaneref01_SameBytes.f (t183.take ((ji14) : Int).toNat) (y168.take ((ji14) : Int).toNat)).bind fun t214 => (some t214)) else (none)) else (some false))) else (none)) else (some false))) else (none)) else (none)) else (some false)) else (some false)) else (some false)) else (some false))) else (some false)))) = some r := H
                have A20 := Aside0.mk A200
                clear A200
                have c21b0 := eq_true (of_decide_eq_true (by first | (with_reducible assumption) | assumption) : 0 ≤ (ji14))
                have c22b0 := eq_true (of_decide_eq_true (by first | (with_reducible assumption) | assumption) : (ji14) ≤ (l0.length : Int))
                obtain ⟨y180, hy180⟩ : ∃ y_ : List Int, y_ = (([a2] : List Int)) := ⟨_, rfl⟩
                replace H : ((wire_Ints.f kj4 (l0.take ((ji14) : Int).toNat) y180).bind fun t183 => ((cellplanelaw01_awake.f kj4).bind fun t186 => (if t186 = true then ((cellplaneref01_SameBytes.f l0 y168).bind fun t187 => (if t187 = true then (if (t172.length : Int) > (ji14) then (if (t176.length : Int) > (ji14) then (if (t183.length : Int) > (ji14) then (if (ji14) ≤ (t172.length : Int) then (if (ji14) ≤ (y168.length : Int) then ((cellplaneref01_SameBytes.f (t172.take ((ji14) : Int).toNat) (y168.take ((ji14) : Int).toNat)).bind fun t196 => (if t196 = true then (if (ji14) ≤ (t176.length : Int) then ((cellplaneref01_SameBytes.f (t176.take ((ji14) : Int).toNat) (y168.take ((ji14) : Int).toNat)).bind fun t205 => (if t205 = true then (if (ji14) ≤ (t183.length : Int) then ((cellplaneref01_SameBytes.f (t183.take ((ji14) : Int).toNat) (y168.take ((ji14) : Int).toNat)).bind fun t214 => (some t214)) else (none)) else (some false))) else (none)) else (some false))) else (none)) else (none)) else (some false)) else (some false)) else (some false)) else (some false))) else (some false)))) = some r := by first | (rw [hy180]; with_reducible exact H) | (have H2_ := (Option.bind_some _ _).symm.trans H; rw [hy180]; with_reducible exact H2_) | (have H2_ := (Option.bind_some _ _).symm.trans H; with_reducible exact H2_) | with_reducible exact H | (rw [hy180]; exact H) | exact H
                have Ny180 := Aside0.mk hy180
                clear hy180
                replace H := Option.bind_eq_some_iff.mp H
                obtain ⟨t183, A230, H⟩ := H
                replace H : ((cellplanelaw01_awake.f kj4).bind fun t186 => (if t186 = true then ((cellplaneref01_SameBytes.f l0 y168).bind fun t187 => (if t187 = true then (if (t172.length : Int) > (ji14) then (if (t176.length : Int) > (ji14) then (if (t183.length : Int) > (ji14) then (if (ji14) ≤ (t172.length : Int) then (if (ji14) ≤ (y168.length : Int) then ((cellplaneref01_SameBytes.f (t172.take ((ji14) : Int).toNat) (y168.take ((ji14) : Int).toNat)).bind fun t196 => (if t196 = true then (if (ji14) ≤ (t176.length : Int) then ((cellplaneref01_SameBytes.f (t176.take ((ji14) : Int).toNat) (y168.take ((ji14) : Int).toNat)).bind fun t205 => (if t205 = true then (if (ji14) ≤ (t183.length : Int) then ((cellplaneref01_SameBytes.f (t183.take ((ji14) : Int).toNat) (y168.take ((ji14) : Int).toNat)).bind fun t214 => (some t214)) else (none)) else (some false))) else (none)) else (some false))) else (none)) else (none)) else (some false)) else (some false)) else (some false)) else (some false))) else (some false))) = some r := H
                have A23 := Aside0.mk A230
                clear A230
                replace H := Option.bind_eq_some_iff.mp H
                obtain ⟨t186, A240, H⟩ := H
                replace H : (if t186 = true then ((cellplaneref01_SameBytes.f l0 y168).bind fun t187 => (if t187 = true then (if (t172.length : Int) > (ji14) then (if (t176.length : Int) > (ji14) then (if (t183.length : Int) > (ji14) then (if (ji14) ≤ (t172.length : Int) then (if (ji14) ≤ (y168.length : Int) then ((cellplaneref01_SameBytes.f (t172.take ((ji14) : Int).toNat) (y168.take ((ji14) : Int).toNat)).bind fun t196 => (if t196 = true then (if (ji14) ≤ (t176.length : Int) then ((cellplaneref01_SameBytes.f (t176.take ((ji14) : Int).toNat) (y168.take ((ji14) : Int).toNat)).bind fun t205 => (if t205 = true then (if (ji14) ≤ (t183.length : Int) then ((cellplaneref01_SameBytes.f (t183.take ((ji14) : Int).toNat) (y168.take ((ji14) : Int).toNat)).bind fun t214 => (some t214)) else (none)) else (some false))) else (none)) else (some false))) else (none)) else (none)) else (some false)) else (some false)) else (some false)) else (some false))) else (some false)) = some r := H
                have A24 := Aside0.mk A240
                clear A240
                by_cases c25 : t186 = true
                · subst c25
                  have H1 : ((cellplaneref01_SameBytes.f l0 y168).bind fun t187 => (if t187 = true then (if (t172.length : Int) > (ji14) then (if (t176.length : Int) > (ji14) then (if (t183.length : Int) > (ji14) then (if (ji14) ≤ (t172.length : Int) then (if (ji14) ≤ (y168.length : Int) then ((cellplaneref01_SameBytes.f (t172.take ((ji14) : Int).toNat) (y168.take ((ji14) : Int).toNat)).bind fun t196 => (if t196 = true then (if (ji14) ≤ (t176.length : Int) then ((cellplaneref01_SameBytes.f (t176.take ((ji14) : Int).toNat) (y168.take ((ji14) : Int).toNat)).bind fun t205 => (if t205 = true then (if (ji14) ≤ (t183.length : Int) then ((cellplaneref01_SameBytes.f (t183.take ((ji14) : Int).toNat) (y168.take ((ji14) : Int).toNat)).bind fun t214 => (some t214)) else (none)) else (some false))) else (none)) else (some false))) else (none)) else (none)) else (some false)) else (some false)) else (some false)) else (some false))) = some r := by rw [if_pos rfl] at H; exact H
                  clear H
                  have H := H1
                  clear H1
                  replace H := Option.bind_eq_some_iff.mp H
                  obtain ⟨t187, A260, H⟩ := H
                  replace H : (if t187 = true then (if (t172.length : Int) > (ji14) then (if (t176.length : Int) > (ji14) then (if (t183.length : Int) > (ji14) then (if (ji14) ≤ (t172.length : Int) then (if (ji14) ≤ (y168.length : Int) then ((cellplaneref01_SameBytes.f (t172.take ((ji14) : Int).toNat) (y168.take ((ji14) : Int).toNat)).bind fun t196 => (if t196 = true then (if (ji14) ≤ (t176.length : Int) then ((cellplaneref01_SameBytes.f (t176.take ((ji14) : Int).toNat) (y168.take ((ji14) : Int).toNat)).bind fun t205 => (if t205 = true then (if (ji14) ≤ (t183.length : Int) then ((cellplaneref01_SameBytes.f (t183.take ((ji14) : Int).toNat) (y168.take ((ji14) : Int).toNat)).bind fun t214 => (some t214)) else (none)) else (some false))) else (none)) else (some false))) else (none)) else (none)) else (some false)) else (some false)) else (some false)) else (some false)) = some r := H
                  have A26 := Aside0.mk A260
                  clear A260
                  by_cases c27 : t187 = true
                  · subst c27
                    have H1 : (if (t172.length : Int) > (ji14) then (if (t176.length : Int) > (ji14) then (if (t183.length : Int) > (ji14) then (if (ji14) ≤ (t172.length : Int) then (if (ji14) ≤ (y168.length : Int) then ((cellplaneref01_SameBytes.f (t172.take ((ji14) : Int).toNat) (y168.take ((ji14) : Int).toNat)).bind fun t196 => (if t196 = true then (if (ji14) ≤ (t176.length : Int) then ((cellplaneref01_SameBytes.f (t176.take ((ji14) : Int).toNat) (y168.take ((ji14) : Int).toNat)).bind fun t205 => (if t205 = true then (if (ji14) ≤ (t183.length : Int) then ((cellplaneref01_SameBytes.f (t183.take ((ji14) : Int).toNat) (y168.take ((ji14) : Int).toNat)).bind fun t214 => (some t214)) else (none)) else (some false))) else (none)) else (some false))) else (none)) else (none)) else (some false)) else (some false)) else (some false)) = some r := by rw [if_pos rfl] at H; exact H
                    clear H
                    have H := H1
                    clear H1
                    by_cases c28 : (t172.length : Int) > (ji14)
                    · rw [if_pos c28] at H
                      have c28b0 : decide ((ji14) < (t172.length : Int)) = true := decide_eq_true c28
                      clear c28
                      by_cases c29 : (t176.length : Int) > (ji14)
                      · rw [if_pos c29] at H
                        have c29b0 : decide ((ji14) < (t176.length : Int)) = true := decide_eq_true c29
                        clear c29
                        by_cases c30 : (t183.length : Int) > (ji14)
                        · rw [if_pos c30] at H
                          have c30b0 : decide ((ji14) < (t183.length : Int)) = true := decide_eq_true c30
                          clear c30
                          have c31b0 := eq_true (of_decide_eq_true (by first | (with_reducible assumption) | assumption) : 0 ≤ (ji14))
                          by_cases c32 : (ji14) ≤ (t172.length : Int)
                          · rw [if_pos c32] at H
                            have c32b0 := eq_true c32
                            have c32b1 : decide ((ji14) ≤ (t172.length : Int)) = true := decide_eq_true c32
                            clear c32
                            obtain ⟨y188, hy188⟩ : ∃ y_ : List Int, y_ = (t172.take ((ji14) : Int).toNat) := ⟨_, rfl⟩
                            replace H : (if (ji14) ≤ (y168.length : Int) then ((cellplaneref01_SameBytes.f y188 (y168.take ((ji14) : Int).toNat)).bind fun t196 => (if t196 = true then (if (ji14) ≤ (t176.length : Int) then ((cellplaneref01_SameBytes.f (t176.take ((ji14) : Int).toNat) (y168.take ((ji14) : Int).toNat)).bind fun t205 => (if t205 = true then (if (ji14) ≤ (t183.length : Int) then ((cellplaneref01_SameBytes.f (t183.take ((ji14) : Int).toNat) (y168.take ((ji14) : Int).toNat)).bind fun t214 => (some t214)) else (none)) else (some false))) else (none)) else (some false))) else (none)) = some r := by first | (rw [hy188]; with_reducible exact H) | (have H2_ := (Option.bind_some _ _).symm.trans H; rw [hy188]; with_reducible exact H2_) | (have H2_ := (Option.bind_some _ _).symm.trans H; with_reducible exact H2_) | with_reducible exact H | (rw [hy188]; exact H) | exact H
                            have Ny188 := Aside0.mk hy188
                            clear hy188
                            have c33b0 := eq_true (of_decide_eq_true (by first | (with_reducible assumption) | assumption) : 0 ≤ (ji14))
                            by_cases c34 : (ji14) ≤ (y168.length : Int)
                            · rw [if_pos c34] at H
                              have c34b0 := eq_true c34
                              have c34b1 : decide ((ji14) ≤ (y168.length : Int)) = true := decide_eq_true c34
                              clear c34
                              obtain ⟨y192, hy192⟩ : ∃ y_ : List Int, y_ = (y168.take ((ji14) : Int).toNat) := ⟨_, rfl⟩
                              replace H : ((cellplaneref01_SameBytes.f y188 y192).bind fun t196 => (if t196 = true then (if (ji14) ≤ (t176.length : Int) then ((cellplaneref01_SameBytes.f (t176.take ((ji14) : Int).toNat) (y168.take ((ji14) : Int).toNat)).bind fun t205 => (if t205 = true then (if (ji14) ≤ (t183.length : Int) then ((cellplaneref01_SameBytes.f (t183.take ((ji14) : Int).toNat) (y168.take ((ji14) : Int).toNat)).bind fun t214 => (some t214)) else (none)) else (some false))) else (none)) else (some false))) = some r := by first | (rw [hy192]; with_reducible exact H) | (have H2_ := (Option.bind_some _ _).symm.trans H; rw [hy192]; with_reducible exact H2_) | (have H2_ := (Option.bind_some _ _).symm.trans H; with_reducible exact H2_) | with_reducible exact H | (rw [hy192]; exact H) | exact H
                              have Ny192 := Aside0.mk hy192
                              clear hy192
                              replace H := Option.bind_eq_some_iff.mp H
                              obtain ⟨t196, A350, H⟩ := H
                              replace H : (if t196 = true then (if (ji14) ≤ (t176.length : Int) then ((cellplaneref01_SameBytes.f (t176.take ((ji14) : Int).toNat) (y168.take ((ji14) : Int).toNat)).bind fun t205 => (if t205 = true then (if (ji14) ≤ (t183.length : Int) then ((cellplaneref01_SameBytes.f (t183.take ((ji14) : Int).toNat) (y168.take ((ji14) : Int).toNat)).bind fun t214 => (some t214)) else (none)) else (some false))) else (none)) else (some false)) = some r := H
                              have A35 := Aside0.mk A350
                              clear A350
                              by_cases c36 : t196 = true
                              · subst c36
                                have H1 : (if (ji14) ≤ (t176.length : Int) then ((cellplaneref01_SameBytes.f (t176.take ((ji14) : Int).toNat) (y168.take ((ji14) : Int).toNat)).bind fun t205 => (if t205 = true then (if (ji14) ≤ (t183.length : Int) then ((cellplaneref01_SameBytes.f (t183.take ((ji14) : Int).toNat) (y168.take ((ji14) : Int).toNat)).bind fun t214 => (some t214)) else (none)) else (some false))) else (none)) = some r := by rw [if_pos rfl] at H; exact H
                                clear H
                                have H := H1
                                clear H1
                                have c37b0 := eq_true (of_decide_eq_true (by first | (with_reducible assumption) | assumption) : 0 ≤ (ji14))
                                by_cases c38 : (ji14) ≤ (t176.length : Int)
                                · rw [if_pos c38] at H
                                  have c38b0 := eq_true c38
                                  have c38b1 : decide ((ji14) ≤ (t176.length : Int)) = true := decide_eq_true c38
                                  clear c38
                                  obtain ⟨y197, hy197⟩ : ∃ y_ : List Int, y_ = (t176.take ((ji14) : Int).toNat) := ⟨_, rfl⟩
                                  replace H : ((cellplaneref01_SameBytes.f y197 (y168.take ((ji14) : Int).toNat)).bind fun t205 => (if t205 = true then (if (ji14) ≤ (t183.length : Int) then ((cellplaneref01_SameBytes.f (t183.take ((ji14) : Int).toNat) (y168.take ((ji14) : Int).toNat)).bind fun t214 => (some t214)) else (none)) else (some false))) = some r := by first | (rw [hy197]; with_reducible exact H) | (have H2_ := (Option.bind_some _ _).symm.trans H; rw [hy197]; with_reducible exact H2_) | (have H2_ := (Option.bind_some _ _).symm.trans H; with_reducible exact H2_) | with_reducible exact H | (rw [hy197]; exact H) | exact H
                                  have Ny197 := Aside0.mk hy197
                                  clear hy197
                                  have c39b0 := eq_true (of_decide_eq_true (by first | (with_reducible assumption) | assumption) : 0 ≤ (ji14))
                                  have c40b0 := eq_true (of_decide_eq_true (by first | (with_reducible assumption) | assumption) : (ji14) ≤ (y168.length : Int))
                                  obtain ⟨y201, hy201⟩ : ∃ y_ : List Int, y_ = (y168.take ((ji14) : Int).toNat) := ⟨_, rfl⟩
                                  replace H : ((cellplaneref01_SameBytes.f y197 y201).bind fun t205 => (if t205 = true then (if (ji14) ≤ (t183.length : Int) then ((cellplaneref01_SameBytes.f (t183.take ((ji14) : Int).toNat) (y168.take ((ji14) : Int).toNat)).bind fun t214 => (some t214)) else (none)) else (some false))) = some r := by first | (rw [hy201]; with_reducible exact H) | (have H2_ := (Option.bind_some _ _).symm.trans H; rw [hy201]; with_reducible exact H2_) | (have H2_ := (Option.bind_some _ _).symm.trans H; with_reducible exact H2_) | with_reducible exact H | (rw [hy201]; exact H) | exact H
                                  have Ny201 := Aside0.mk hy201
                                  clear hy201
                                  replace H := Option.bind_eq_some_iff.mp H
                                  obtain ⟨t205, A410, H⟩ := H
                                  replace H : (if t205 = true then (if (ji14) ≤ (t183.length : Int) then ((cellplaneref01_SameBytes.f (t183.take ((ji14) : Int).toNat) (y168.take ((ji14) : Int).toNat)).bind fun t214 => (some t214)) else (none)) else (some false)) = some r := H
                                  have A41 := Aside0.mk A410
                                  clear A410
                                  by_cases c42 : t205 = true
                                  · subst c42
                                    have H1 : (if (ji14) ≤ (t183.length : Int) then ((cellplaneref01_SameBytes.f (t183.take ((ji14) : Int).toNat) (y168.take ((ji14) : Int).toNat)).bind fun t214 => (some t214)) else (none)) = some r := by rw [if_pos rfl] at H; exact H
                                    clear H
                                    have H := H1
                                    clear H1
                                    have c43b0 := eq_true (of_decide_eq_true (by first | (with_reducible assumption) | assumption) : 0 ≤ (ji14))
                                    by_cases c44 : (ji14) ≤ (t183.length : Int)
                                    · rw [if_pos c44] at H
                                      have c44b0 := eq_true c44
                                      have c44b1 : decide ((ji14) ≤ (t183.length : Int)) = true := decide_eq_true c44
                                      clear c44
                                      obtain ⟨y206, hy206⟩ : ∃ y_ : List Int, y_ = (t183.take ((ji14) : Int).toNat) := ⟨_, rfl⟩
                                      replace H : ((cellplaneref01_SameBytes.f y206 (y168.take ((ji14) : Int).toNat)).bind fun t214 => (some t214)) = some r := by first | (rw [hy206]; with_reducible exact H) | (have H2_ := (Option.bind_some _ _).symm.trans H; rw [hy206]; with_reducible exact H2_) | (have H2_ := (Option.bind_some _ _).symm.trans H; with_reducible exact H2_) | with_reducible exact H | (rw [hy206]; exact H) | exact H
                                      have Ny206 := Aside0.mk hy206
                                      clear hy206
                                      have c45b0 := eq_true (of_decide_eq_true (by first | (with_reducible assumption) | assumption) : 0 ≤ (ji14))
                                      have c46b0 := eq_true (of_decide_eq_true (by first | (with_reducible assumption) | assumption) : (ji14) ≤ (y168.length : Int))
                                      obtain ⟨y210, hy210⟩ : ∃ y_ : List Int, y_ = (y168.take ((ji14) : Int).toNat) := ⟨_, rfl⟩
                                      replace H : ((cellplaneref01_SameBytes.f y206 y210).bind fun t214 => (some t214)) = some r := by first | (rw [hy210]; with_reducible exact H) | (have H2_ := (Option.bind_some _ _).symm.trans H; rw [hy210]; with_reducible exact H2_) | (have H2_ := (Option.bind_some _ _).symm.trans H; with_reducible exact H2_) | with_reducible exact H | (rw [hy210]; exact H) | exact H
                                      have Ny210 := Aside0.mk hy210
                                      clear hy210
                                      replace H := Option.bind_eq_some_iff.mp H
                                      obtain ⟨t214, A470, H⟩ := H
                                      replace H : (some t214) = some r := H
                                      have A47 := Aside0.mk A470
                                      clear A470
                                      obtain rfl := Option.some.inj H
                                      try go_wp2_with (first | ((with_reducible refine gate_dst (N := 25) rfl ?_); (try (refine gate_guard (by rfl) ?_; dsimp only)); refine Kd.R_lit (Kd.int .u8) _ 5 ?hg (N := 25) ?hd (xs := ([] : List Int)) (inner := []) (ok := fun _ => True) (okp := fun _ => True) ?hr ?hp (fun _ hk => hk) trivial (Below.refl _ _) (Nat.le_refl _) (by simp) ?_; (case hd => rfl); (case hg => rfl); (case hr => first | (go_simp; done) | (go_simp; rfl)); (case hp => exact (Reps.none _ _)); intro v166 w48 ho49 hb hg_ hnew_; clear hg_ hnew_; (first | rw [← Ny165.out] at ho49 | (simp only [Int.reduceToNat] at ho49; rw [← Ny165.out] at ho49)); have n0_ := Aside0.mk (Kd.R_lower ho49 (below_size (by repeat (first | (with_reducible first | exact HB.out | apply below_alloc | apply pw_below_drewN | apply below_drew1) | exact HB.out)))); have n1_ := Aside0.mk (below_step (by repeat (first | (with_reducible first | exact HB.out | apply below_alloc | apply pw_below_drewN | apply below_drew1) | exact HB.out)) hb); clear HB; have HO167 := n0_; have HB := n1_; clear n0_ n1_; clear hb ho49) | ((with_reducible refine gate_builtin (b := .append) (xs := #[.tmp 25, .tmp 26]) rfl ?_); (try (refine gate_guard (by rfl) ?_; dsimp only)); at_builtin; refine Kd.R_append_rows (Kd.int .u8) (w0 := w) w.heap.size rfl (.tmp 25) (.tmp 26) 22 5 (.int .u8 0) 1 rfl Try.underlying22 info5 rfl (by decide) (by omega) v166 y165 l0 _ _ _ (fun _ => True) (fun _ => False) rfl rfl ?aO ?aR (fun _ _ h => h) (fun _ h => h.elim) ?aF ?aB ?aS ?aL ?_; (case aR => repeat (first | exact (Kd.C_below HR0.out HB.out) | (with_reducible refine Kd.C_alloc ?_ _) | (with_reducible refine Kd.C_drewN ?_ _) | (with_reducible refine Kd.C_drew ?_))); (case aB => exact (by repeat (first | (with_reducible first | exact HB.out | apply below_alloc | apply pw_below_drewN | apply below_drew1) | exact HB.out))); (case aF => exact (fun _ _ => trivial)); (case aO => exact (by (with_reducible repeat (first | apply Kd.R_alloc | apply Kd.R_drewN | apply Kd.R_drew)); exact HO167.out)); (case aS => exact (below_size (by repeat (first | (with_reducible first | exact HB.out | apply below_alloc | apply pw_below_drewN | apply below_drew1) | exact HB.out)))); (case aL => have := LMc12.out; omega); intro v169 w50 ho hb hg hat; rw [← Ny168.out] at ho; have n0_ := Aside0.mk (hb); have n1_ := Aside0.mk (ho); clear HB; clear HO167; have HB := n0_; have HO170 := n1_; clear n0_ n1_; clear ho hb hg hat))
                                      have n0_ := Aside0.mk (Kd.R_drew HO170.out)
                                      have n1_ := Aside0.mk (below_drew1 HB.out)
                                      clear HO170
                                      clear HB
                                      have HO170 := n0_
                                      have HB := n1_
                                      clear n0_ n1_
                                      obtain ⟨i052, hi052, _, hsz52, _⟩ := info_parts info5
                                      obtain ⟨hcut52, hA52, hC52⟩ := print_take_of (P := Try.prog) (Value.int .u8) 0 22 5 .i64 Try.underlying22 hi052 hsz52 A0 c0 l0 (ji14) (of_decide_eq_true (by first | (with_reducible assumption) | assumption)) (of_decide_eq_true (by first | (with_reducible assumption) | assumption)) HC0.out
                                      have HR171 := Aside0.mk (Kd.C_of_reads (h1 := fun _ => rfl) (hA52 _ (Kd.reads_of_C HR0.out)))
                                      have HC171 := Aside0.mk hC52
                                      clear hA52 hC52 hi052 hsz52
                                      obtain ⟨i053, hi053, _, hsz53, _⟩ := info_parts info5
                                      obtain ⟨hcut53, hA53, hC53⟩ := print_take_of (P := Try.prog) (Value.int .u8) 0 22 5 .i64 Try.underlying22 hi053 hsz53 A0 c0 l0 (ji14) (of_decide_eq_true (by first | (with_reducible assumption) | assumption)) (of_decide_eq_true (by first | (with_reducible assumption) | assumption)) HC0.out
                                      have HR175 := Aside0.mk (Kd.C_of_reads (h1 := fun _ => rfl) (hA53 _ (Kd.reads_of_C HR0.out)))
                                      have HC175 := Aside0.mk hC53
                                      clear hA53 hC53 hi053 hsz53
                                      obtain ⟨i054, hi054, _, hsz54, _⟩ := info_parts info5
                                      obtain ⟨hcut54, hA54, hC54⟩ := print_take_of (P := Try.prog) (Value.int .u8) 0 22 5 .i64 Try.underlying22 hi054 hsz54 A0 c0 l0 (ji14) (of_decide_eq_true (by first | (with_reducible assumption) | assumption)) (of_decide_eq_true (by first | (with_reducible assumption) | assumption)) HC0.out
                                      have HR179 := Aside0.mk (Kd.C_of_reads (h1 := fun _ => rfl) (hA54 _ (Kd.reads_of_C HR0.out)))
                                      have HC179 := Aside0.mk hC54
                                      clear hA54 hC54 hi054 hsz54
                                      refine start_ (n := 19) (S := fun w' => True) (ds := []) #[false, false, false, false, false, false, false, false, false, false, false, false, false, false, false, false, false, false, false] (by kernel_rfl) rfl rfl trivial (fun hHeld => ?_); refine with_tabW cellplanelaw01_WireAppends.tab5 cellplanelaw01_WireAppends.bits5 (fun HT_ HW_ => ?_)
                                      generalize w50.drew = w51 at HO170 HB HR171 HR175 HR179 hHeld ⊢
                                      refine pure_ (i := 0) (N := some 41) (v := ?_) (a' := ?_) #[true, false, false, false, false, false, false, false, false, false, false, false, false, false, false, false, false, false, false] rfl rfl (any_of HT_.out (by kernel_rfl)) (fun _ _ _ h => h) (Or.inl ⟨by rfl, ?_⟩) ?_ ?_
                                      rotate_left
                                      · intro w'
                                        go_simp
                                        with_reducible rfl
                                      rotate_left
                                      · simp only [Act.put, List.setIfInBounds_toArray, List.set_cons_zero, List.set_cons_succ, i64_w, i32_w]
                                        rfl
                                      refine pure_ (i := 1) (N := some 42) (v := ?_) (a' := ?_) #[true, true, false, false, false, false, false, false, false, false, false, false, false, false, false, false, false, false, false] rfl rfl (any_of HT_.out (by kernel_rfl)) (fun _ _ _ h => h) (Or.inl ⟨by rfl, ?_⟩) ?_ ?_
                                      rotate_left
                                      · intro w'
                                        go_simp
                                        with_reducible rfl
                                      rotate_left
                                      · simp only [Act.put, List.setIfInBounds_toArray, List.set_cons_zero, List.set_cons_succ, i64_w, i32_w]
                                        rfl
                                      refine pure_ (i := 2) (N := some 43) (v := ?_) (a' := ?_) #[true, true, true, false, false, false, false, false, false, false, false, false, false, false, false, false, false, false, false] rfl rfl (any_of HT_.out (by kernel_rfl)) (fun _ _ _ h => h) (Or.inl ⟨by rfl, ?_⟩) ?_ ?_
                                      rotate_left
                                      · intro w'
                                        go_simp
                                        with_reducible rfl
                                      rotate_left
                                      · simp only [Act.put, List.setIfInBounds_toArray, List.set_cons_zero, List.set_cons_succ, i64_w, i32_w]
                                        rfl
                                      refine pure_ (i := 3) (N := some 44) (v := ?_) (a' := ?_) #[true, true, true, true, false, false, false, false, false, false, false, false, false, false, false, false, false, false, false] rfl rfl (any_of HT_.out (by kernel_rfl)) (fun _ _ _ h => h) (Or.inl ⟨by rfl, ?_⟩) ?_ ?_
                                      rotate_left
                                      · intro w'
                                        go_simp
                                        with_reducible rfl
                                      rotate_left
                                      · simp only [Act.put, List.setIfInBounds_toArray, List.set_cons_zero, List.set_cons_succ, i64_w, i32_w]
                                        rfl
                                      refine pure_ (i := 5) (N := some 46) (v := ?_) (a' := ?_) #[true, true, true, true, false, true, false, false, false, false, false, false, false, false, false, false, false, false, false] rfl rfl (any_of HT_.out (by kernel_rfl)) (fun _ _ _ h => h) (Or.inl ⟨by rfl, ?_⟩) ?_ ?_
                                      rotate_left
                                      · intro w'
                                        go_simp
                                        with_reducible rfl
                                      rotate_left
                                      · simp only [Act.put, List.setIfInBounds_toArray, List.set_cons_zero, List.set_cons_succ, i64_w, i32_w]
                                        rfl
                                      refine pure_ (i := 6) (N := some 47) (v := ?_) (a' := ?_) #[true, true, true, true, false, true, true, false, false, false, false, false, false, false, false, false, false, false, false] rfl rfl (any_of HT_.out (by kernel_rfl)) (fun _ _ _ h => h) (Or.inl ⟨by rfl, ?_⟩) ?_ ?_
                                      rotate_left
                                      · intro w'
                                        go_simp
                                        with_reducible rfl
                                      rotate_left
                                      · simp only [Act.put, List.setIfInBounds_toArray, List.set_cons_zero, List.set_cons_succ, i64_w, i32_w]
                                        rfl
                                      refine pure_ (i := 7) (N := some 48) (v := ?_) (a' := ?_) #[true, true, true, true, false, true, true, true, false, false, false, false, false, false, false, false, false, false, false] rfl rfl (any_of HT_.out (by kernel_rfl)) (fun _ _ _ h => h) (Or.inl ⟨by rfl, ?_⟩) ?_ ?_
                                      rotate_left
                                      · intro w'
                                        go_simp
                                        with_reducible rfl
                                      rotate_left
                                      · simp only [Act.put, List.setIfInBounds_toArray, List.set_cons_zero, List.set_cons_succ, i64_w, i32_w]
                                        rfl
                                      refine pure_ (i := 8) (N := some 49) (v := ?_) (a' := ?_) #[true, true, true, true, false, true, true, true, true, false, false, false, false, false, false, false, false, false, false] rfl rfl (any_of HT_.out (by kernel_rfl)) (fun _ _ _ h => h) (Or.inl ⟨by rfl, ?_⟩) ?_ ?_
                                      rotate_left
                                      · intro w'
                                        go_simp
                                        with_reducible rfl
                                      rotate_left
                                      · simp only [Act.put, List.setIfInBounds_toArray, List.set_cons_zero, List.set_cons_succ, i64_w, i32_w]
                                        rfl
                                      refine pure_ (i := 10) (N := some 51) (v := ?_) (a' := ?_) #[true, true, true, true, false, true, true, true, true, false, true, false, false, false, false, false, false, false, false] rfl rfl (any_of HT_.out (by kernel_rfl)) (fun _ _ _ h => h) (Or.inl ⟨by rfl, ?_⟩) ?_ ?_
                                      rotate_left
                                      · intro w'
                                        go_simp
                                        with_reducible rfl
                                      rotate_left
                                      · simp only [Act.put, List.setIfInBounds_toArray, List.set_cons_zero, List.set_cons_succ, i64_w, i32_w]
                                        rfl
                                      refine pure_ (i := 11) (N := some 52) (v := ?_) (a' := ?_) #[true, true, true, true, false, true, true, true, true, false, true, true, false, false, false, false, false, false, false] rfl rfl (any_of HT_.out (by kernel_rfl)) (fun _ _ _ h => h) (Or.inl ⟨by rfl, ?_⟩) ?_ ?_
                                      rotate_left
                                      · intro w'
                                        go_simp
                                        with_reducible rfl
                                      rotate_left
                                      · simp only [Act.put, List.setIfInBounds_toArray, List.set_cons_zero, List.set_cons_succ, i64_w, i32_w]
                                        rfl
                                      refine pure_ (i := 12) (N := some 53) (v := ?_) (a' := ?_) #[true, true, true, true, false, true, true, true, true, false, true, true, true, false, false, false, false, false, false] rfl rfl (any_of HT_.out (by kernel_rfl)) (fun _ _ _ h => h) (Or.inl ⟨by rfl, ?_⟩) ?_ ?_
                                      rotate_left
                                      · intro w'
                                        go_simp
                                        with_reducible rfl
                                      rotate_left
                                      · simp only [Act.put, List.setIfInBounds_toArray, List.set_cons_zero, List.set_cons_succ, i64_w, i32_w]
                                        rfl
                                      refine pure_ (i := 13) (N := some 54) (v := ?_) (a' := ?_) #[true, true, true, true, false, true, true, true, true, false, true, true, true, true, false, false, false, false, false] rfl rfl (any_of HT_.out (by kernel_rfl)) (fun _ _ _ h => h) (Or.inl ⟨by rfl, ?_⟩) ?_ ?_
                                      rotate_left
                                      · intro w'
                                        go_simp
                                        with_reducible rfl
                                      rotate_left
                                      · simp only [Act.put, List.setIfInBounds_toArray, List.set_cons_zero, List.set_cons_succ, i64_w, i32_w]
                                        rfl
                                      refine join_ (σ := Value × Value × Value) 4 #[true, true, true, true, true, true, true, true, true, true, true, true, true, true, true, false, false, false, false] (fun s_ => [(45, s_.1), (50, s_.2.1), (55, s_.2.2)]) (fun s_ w' => (Kd.R (Kd.int .u8) 5 w' w.heap.size (fun k_ => some k_ ≠ (s_.1 : Value).ownBlock ∧ some k_ ≠ (s_.2.1 : Value).ownBlock) v169 y168) ∧ (Kd.R (Kd.int .u8) 5 w' w.heap.size (fun k_ => some k_ ≠ (v169 : Value).ownBlock ∧ some k_ ≠ (s_.2.1 : Value).ownBlock) s_.1 t172) ∧ (Kd.R (Kd.int .u8) 5 w' w.heap.size (fun k_ => some k_ ≠ (v169 : Value).ownBlock ∧ some k_ ≠ (s_.1 : Value).ownBlock) s_.2.1 t176) ∧ (Kd.R (Kd.int .i64) 3 w' w.heap.size (fun _ => True) s_.2.2 y180) ∧ (Below w.heap.size w w')) ?_ ?_
                                      rotate_left
                                      · intro hCont
                                        refine two_ (i := 4) (j := 14) (Ni := some 45) (Nj := some 55) #[true, true, true, true, true, true, true, true, true, false, true, true, true, true, false, false, false, false, false] #[true, true, true, true, false, true, true, true, true, false, true, true, true, true, true, false, false, false, false] rfl rfl rfl rfl (two_of HT_.out (by kernel_rfl)) (by decide) (by decide) (fun K hK => ?_) (fun K hK => ?_)
                                        · skip
                                          refine goes_ Try.func15 (by kernel_rfl) rfl #[.slice A0 (l0.take ((ji14) : Int).toNat).length c0, .int .i64 a2] (by rfl) rfl rfl (by (try simp only [List.map_toArray, List.map_cons, List.map_nil]); first | done | (rw [show (l0.take ((ji14) : Int).toNat).length = (ji14).toNat from (by rw [List.length_take]; have h_ : ((ji14) : Int) ≤ (l0.length : Int) := of_decide_eq_true (by first | (with_reducible assumption) | assumption); omega)] <;> rfl) | (simp only [hji14]; rfl) | rfl | (simp only [List.length_drop, List.length_take]; rfl)) ?_
                                          with_reducible refine (wire_Int.calls kj4 _ _ (l0.take ((ji14) : Int).toNat) a2 t172 _ ?side1 ?side2 A17.out).mono ?_
                                          (case side1 => repeat (first | exact (Kd.C_below HR171.out HB.out) | (with_reducible refine Kd.C_alloc ?_ _) | (with_reducible refine Kd.C_drewN ?_ _) | (with_reducible refine Kd.C_drew ?_)))
                                          (case side2 => exact HC171.out)
                                          rintro e w55 ⟨v173, rfl, ho0, hb⟩
                                          refine ⟨_, rfl, ?_⟩
                                          have n0_ := Aside0.mk (Kd.R_elder' (by (with_reducible repeat (first | apply Kd.R_alloc | apply Kd.R_drewN | apply Kd.R_drew)); exact HO170.out) (Kd.R_base ho0) hb)
                                          have n1_ := Aside0.mk (Kd.R_lower (Kd.R_new' ho0 (Kd.R_lt (by (with_reducible repeat (first | apply Kd.R_alloc | apply Kd.R_drewN | apply Kd.R_drew)); exact HO170.out))) (below_size (by repeat (first | (with_reducible first | exact HB.out | apply below_alloc | apply pw_below_drewN | apply below_drew1) | exact HB.out))))
                                          have n2_ := Aside0.mk (below_step (by repeat (first | (with_reducible first | exact HB.out | apply below_alloc | apply pw_below_drewN | apply below_drew1) | exact HB.out)) hb)
                                          clear HO170
                                          clear HB
                                          have HO170 := n0_
                                          have HO174 := n1_
                                          have HB := n2_
                                          clear n0_ n1_ n2_
                                          (try clear hb)
                                          (try clear hb2)
                                          (try clear hk)
                                          (try clear hi)
                                          (try clear ho0)
                                          refine hK.out _ _ trivial (fun hHeld => ?_)
                                          clear hK K
                                          refine norm_ (a' := ?_) ?_ ?_
                                          rotate_left
                                          · show Act.put _ (some 45) _ = _
                                            simp only [Act.put, List.setIfInBounds_toArray, List.set_cons_zero, List.set_cons_succ, i64_w, i32_w]
                                            rfl
                                          refine two_ (i := 9) (j := 14) (Ni := some 50) (Nj := some 55) #[true, true, true, true, true, true, true, true, true, true, true, true, true, true, false, false, false, false, false] #[true, true, true, true, true, true, true, true, true, false, true, true, true, true, true, false, false, false, false] rfl rfl rfl rfl (two_of HT_.out (by kernel_rfl)) (by decide) (by decide) (fun K hK => ?_) (fun K hK => ?_)
                                          · skip
                                            refine goes_ Try.func21 (by kernel_rfl) rfl #[.slice A0 (l0.take ((ji14) : Int).toNat).length c0, .string a3] (by rfl) rfl rfl (by (try simp only [List.map_toArray, List.map_cons, List.map_nil]); first | done | (rw [show (l0.take ((ji14) : Int).toNat).length = (ji14).toNat from (by rw [List.length_take]; have h_ : ((ji14) : Int) ≤ (l0.length : Int) := of_decide_eq_true (by first | (with_reducible assumption) | assumption); omega)] <;> rfl) | (simp only [hji14]; rfl) | rfl | (simp only [List.length_drop, List.length_take]; rfl)) ?_
                                            with_reducible refine (wire_Text.calls kj4 _ _ (l0.take ((ji14) : Int).toNat) a3 t176 _ ?side1 ?side2 A20.out).mono ?_
                                            (case side1 => repeat (first | exact (Kd.C_below HR175.out HB.out) | (with_reducible refine Kd.C_alloc ?_ _) | (with_reducible refine Kd.C_drewN ?_ _) | (with_reducible refine Kd.C_drew ?_)))
                                            (case side2 => exact HC175.out)
                                            rintro e w56 ⟨v177, rfl, ho0, hb⟩
                                            refine ⟨_, rfl, ?_⟩
                                            have n0_ := Aside0.mk (Kd.R_elder' (by (with_reducible repeat (first | apply Kd.R_alloc | apply Kd.R_drewN | apply Kd.R_drew)); exact HO170.out) (Kd.R_base ho0) hb)
                                            have n1_ := Aside0.mk (Kd.R_elder' (by (with_reducible repeat (first | apply Kd.R_alloc | apply Kd.R_drewN | apply Kd.R_drew)); exact HO174.out) (Kd.R_base ho0) hb)
                                            have n2_ := Aside0.mk (Kd.R_lower (Kd.R_new' (Kd.R_new' ho0 (Kd.R_lt (by (with_reducible repeat (first | apply Kd.R_alloc | apply Kd.R_drewN | apply Kd.R_drew)); exact HO170.out))) (Kd.R_lt (by (with_reducible repeat (first | apply Kd.R_alloc | apply Kd.R_drewN | apply Kd.R_drew)); exact HO174.out))) (below_size (by repeat (first | (with_reducible first | exact HB.out | apply below_alloc | apply pw_below_drewN | apply below_drew1) | exact HB.out))))
                                            have n3_ := Aside0.mk (below_step (by repeat (first | (with_reducible first | exact HB.out | apply below_alloc | apply pw_below_drewN | apply below_drew1) | exact HB.out)) hb)
                                            clear HO170
                                            clear HO174
                                            clear HB
                                            have HO170 := n0_
                                            have HO174 := n1_
                                            have HO178 := n2_
                                            have HB := n3_
                                            clear n0_ n1_ n2_ n3_
                                            (try clear hb)
                                            (try clear hb2)
                                            (try clear hk)
                                            (try clear hi)
                                            (try clear ho0)
                                            refine hK.out _ _ trivial (fun hHeld => ?_)
                                            clear hK K
                                            refine norm_ (a' := ?_) ?_ ?_
                                            rotate_left
                                            · show Act.put _ (some 50) _ = _
                                              simp only [Act.put, List.setIfInBounds_toArray, List.set_cons_zero, List.set_cons_succ, i64_w, i32_w]
                                              rfl
                                            refine one_ (i := 14) (N := some 55) #[true, true, true, true, true, true, true, true, true, true, true, true, true, true, true, false, false, false, false] rfl rfl (one_of HT_.out (by kernel_rfl)) (by decide) (fun K hK => ?_)
                                            refine Kd.R_lit_step (Kd.int .i64) _ 3 ?hg (N := 55) ?hd (xs := ([a2] : List Int)) (inner := [.int .i64 a2]) (ok := fun _ => True) (okp := fun _ => True) ?hr ?hp (fun _ hk => hk) trivial (Below.refl _ _) (Nat.le_refl _) (by simp) ?_; (case hd => rfl); (case hg => rfl); (case hr => first | (go_simp; done) | (go_simp; rfl)); (case hp => exact (Reps.one (show Kd.M (Kd.int .i64) _ _ _ a2 [.int .i64 a2] from rfl) (Reps.none _ _)))
                                            intro v181 w57 ho58 hb hg_ hnew_
                                            clear hg_ hnew_
                                            (first | rw [← Ny180.out] at ho58 | (simp only [Int.reduceToNat] at ho58; rw [← Ny180.out] at ho58))
                                            have n0_ := Aside0.mk (Kd.R_below (by (with_reducible repeat (first | apply Kd.R_alloc | apply Kd.R_drewN | apply Kd.R_drew)); exact HO170.out) hb)
                                            have n1_ := Aside0.mk (Kd.R_below (by (with_reducible repeat (first | apply Kd.R_alloc | apply Kd.R_drewN | apply Kd.R_drew)); exact HO174.out) hb)
                                            have n2_ := Aside0.mk (Kd.R_below (by (with_reducible repeat (first | apply Kd.R_alloc | apply Kd.R_drewN | apply Kd.R_drew)); exact HO178.out) hb)
                                            have n3_ := Aside0.mk (Kd.R_lower ho58 (below_size (by repeat (first | (with_reducible first | exact HB.out | apply below_alloc | apply pw_below_drewN | apply below_drew1) | exact HB.out))))
                                            have n4_ := Aside0.mk (below_step (by repeat (first | (with_reducible first | exact HB.out | apply below_alloc | apply pw_below_drewN | apply below_drew1) | exact HB.out)) hb)
                                            clear HO170
                                            clear HO174
                                            clear HO178
                                            clear HB
                                            have HO170 := n0_
                                            have HO174 := n1_
                                            have HO178 := n2_
                                            have HO182 := n3_
                                            have HB := n4_
                                            clear n0_ n1_ n2_ n3_ n4_
                                            clear hb ho58
                                            refine hK.out _ _ trivial (fun hHeld => ?_)
                                            clear hK K
                                            refine norm_ (a' := ?_) ?_ ?_
                                            rotate_left
                                            · show Act.put _ (some 55) _ = _
                                              simp only [Act.put, List.setIfInBounds_toArray, List.set_cons_zero, List.set_cons_succ, i64_w, i32_w]
                                              rfl
                                            exact norm_ (by simp only [putAll, Act.put, List.setIfInBounds_toArray, List.set_cons_zero, List.set_cons_succ]) (hCont (v173, v177, v181) _ ⟨(by (with_reducible repeat (first | apply Kd.R_alloc | apply Kd.R_drewN | apply Kd.R_drew)); exact Kd.R_mono HO170.out (fun _ hk => ⟨hk.1.2, hk.2⟩)), (by (with_reducible repeat (first | apply Kd.R_alloc | apply Kd.R_drewN | apply Kd.R_drew)); exact Kd.R_mono HO174.out (fun _ hk => ⟨hk.1.2, hk.2⟩)), (by (with_reducible repeat (first | apply Kd.R_alloc | apply Kd.R_drewN | apply Kd.R_drew)); exact Kd.R_mono HO178.out (fun _ hk => ⟨hk.1.2, hk.2⟩)), (by (with_reducible repeat (first | apply Kd.R_alloc | apply Kd.R_drewN | apply Kd.R_drew)); exact HO182.out), (by repeat (first | (with_reducible first | exact HB.out | apply below_alloc | apply pw_below_drewN | apply below_drew1) | exact HB.out))⟩)
                                          · skip
                                            refine Kd.R_lit_step (Kd.int .i64) _ 3 ?hg (N := 55) ?hd (xs := ([a2] : List Int)) (inner := [.int .i64 a2]) (ok := fun _ => True) (okp := fun _ => True) ?hr ?hp (fun _ hk => hk) trivial (Below.refl _ _) (Nat.le_refl _) (by simp) ?_; (case hd => rfl); (case hg => rfl); (case hr => first | (go_simp; done) | (go_simp; rfl)); (case hp => exact (Reps.one (show Kd.M (Kd.int .i64) _ _ _ a2 [.int .i64 a2] from rfl) (Reps.none _ _)))
                                            intro v181 w56 ho57 hb hg_ hnew_
                                            clear hg_ hnew_
                                            (first | rw [← Ny180.out] at ho57 | (simp only [Int.reduceToNat] at ho57; rw [← Ny180.out] at ho57))
                                            have n0_ := Aside0.mk (Kd.R_below (by (with_reducible repeat (first | apply Kd.R_alloc | apply Kd.R_drewN | apply Kd.R_drew)); exact HO170.out) hb)
                                            have n1_ := Aside0.mk (Kd.R_below (by (with_reducible repeat (first | apply Kd.R_alloc | apply Kd.R_drewN | apply Kd.R_drew)); exact HO174.out) hb)
                                            have n2_ := Aside0.mk (Kd.R_lower ho57 (below_size (by repeat (first | (with_reducible first | exact HB.out | apply below_alloc | apply pw_below_drewN | apply below_drew1) | exact HB.out))))
                                            have n3_ := Aside0.mk (below_step (by repeat (first | (with_reducible first | exact HB.out | apply below_alloc | apply pw_below_drewN | apply below_drew1) | exact HB.out)) hb)
                                            clear HO170
                                            clear HO174
                                            clear HB
                                            have HO170 := n0_
                                            have HO174 := n1_
                                            have HO182 := n2_
                                            have HB := n3_
                                            clear n0_ n1_ n2_ n3_
                                            clear hb ho57
                                            refine hK.out _ _ trivial (fun hHeld => ?_)
                                            clear hK K
                                            refine norm_ (a' := ?_) ?_ ?_
                                            rotate_left
                                            · show Act.put _ (some 55) _ = _
                                              simp only [Act.put, List.setIfInBounds_toArray, List.set_cons_zero, List.set_cons_succ, i64_w, i32_w]
                                              rfl
                                            refine one_ (i := 9) (N := some 50) #[true, true, true, true, true, true, true, true, true, true, true, true, true, true, true, false, false, false, false] rfl rfl (one_of HT_.out (by kernel_rfl)) (by decide) (fun K hK => ?_)
                                            refine goes_ Try.func21 (by kernel_rfl) rfl #[.slice A0 (l0.take ((ji14) : Int).toNat).length c0, .string a3] (by rfl) rfl rfl (by (try simp only [List.map_toArray, List.map_cons, List.map_nil]); first | done | (rw [show (l0.take ((ji14) : Int).toNat).length = (ji14).toNat from (by rw [List.length_take]; have h_ : ((ji14) : Int) ≤ (l0.length : Int) := of_decide_eq_true (by first | (with_reducible assumption) | assumption); omega)] <;> rfl) | (simp only [hji14]; rfl) | rfl | (simp only [List.length_drop, List.length_take]; rfl)) ?_
                                            with_reducible refine (wire_Text.calls kj4 _ _ (l0.take ((ji14) : Int).toNat) a3 t176 _ ?side1 ?side2 A20.out).mono ?_
                                            (case side1 => repeat (first | exact (Kd.C_below HR175.out HB.out) | (with_reducible refine Kd.C_alloc ?_ _) | (with_reducible refine Kd.C_drewN ?_ _) | (with_reducible refine Kd.C_drew ?_)))
                                            (case side2 => exact HC175.out)
                                            rintro e w58 ⟨v177, rfl, ho0, hb⟩
                                            refine ⟨_, rfl, ?_⟩
                                            have n0_ := Aside0.mk (Kd.R_elder' (by (with_reducible repeat (first | apply Kd.R_alloc | apply Kd.R_drewN | apply Kd.R_drew)); exact HO170.out) (Kd.R_base ho0) hb)
                                            have n1_ := Aside0.mk (Kd.R_elder' (by (with_reducible repeat (first | apply Kd.R_alloc | apply Kd.R_drewN | apply Kd.R_drew)); exact HO174.out) (Kd.R_base ho0) hb)
                                            have n2_ := Aside0.mk (Kd.R_below (by (with_reducible repeat (first | apply Kd.R_alloc | apply Kd.R_drewN | apply Kd.R_drew)); exact HO182.out) hb)
                                            have n3_ := Aside0.mk (Kd.R_lower (Kd.R_new' (Kd.R_new' ho0 (Kd.R_lt (by (with_reducible repeat (first | apply Kd.R_alloc | apply Kd.R_drewN | apply Kd.R_drew)); exact HO170.out))) (Kd.R_lt (by (with_reducible repeat (first | apply Kd.R_alloc | apply Kd.R_drewN | apply Kd.R_drew)); exact HO174.out))) (below_size (by repeat (first | (with_reducible first | exact HB.out | apply below_alloc | apply pw_below_drewN | apply below_drew1) | exact HB.out))))
                                            have n4_ := Aside0.mk (below_step (by repeat (first | (with_reducible first | exact HB.out | apply below_alloc | apply pw_below_drewN | apply below_drew1) | exact HB.out)) hb)
                                            clear HO170
                                            clear HO174
                                            clear HO182
                                            clear HB
                                            have HO170 := n0_
                                            have HO174 := n1_
                                            have HO182 := n2_
                                            have HO178 := n3_
                                            have HB := n4_
                                            clear n0_ n1_ n2_ n3_ n4_
                                            (try clear hb)
                                            (try clear hb2)
                                            (try clear hk)
                                            (try clear hi)
                                            (try clear ho0)
                                            refine hK.out _ _ trivial (fun hHeld => ?_)
                                            clear hK K
                                            refine norm_ (a' := ?_) ?_ ?_
                                            rotate_left
                                            · show Act.put _ (some 50) _ = _
                                              simp only [Act.put, List.setIfInBounds_toArray, List.set_cons_zero, List.set_cons_succ, i64_w, i32_w]
                                              rfl
                                            exact norm_ (by simp only [putAll, Act.put, List.setIfInBounds_toArray, List.set_cons_zero, List.set_cons_succ]) (hCont (v173, v177, v181) _ ⟨(by (with_reducible repeat (first | apply Kd.R_alloc | apply Kd.R_drewN | apply Kd.R_drew)); exact Kd.R_mono HO170.out (fun _ hk => ⟨hk.1.2, hk.2⟩)), (by (with_reducible repeat (first | apply Kd.R_alloc | apply Kd.R_drewN | apply Kd.R_drew)); exact Kd.R_mono HO174.out (fun _ hk => ⟨hk.1.2, hk.2⟩)), (by (with_reducible repeat (first | apply Kd.R_alloc | apply Kd.R_drewN | apply Kd.R_drew)); exact Kd.R_mono HO178.out (fun _ hk => ⟨hk.1.2, hk.2⟩)), (by (with_reducible repeat (first | apply Kd.R_alloc | apply Kd.R_drewN | apply Kd.R_drew)); exact HO182.out), (by repeat (first | (with_reducible first | exact HB.out | apply below_alloc | apply pw_below_drewN | apply below_drew1) | exact HB.out))⟩)
                                        · skip
                                          refine Kd.R_lit_step (Kd.int .i64) _ 3 ?hg (N := 55) ?hd (xs := ([a2] : List Int)) (inner := [.int .i64 a2]) (ok := fun _ => True) (okp := fun _ => True) ?hr ?hp (fun _ hk => hk) trivial (Below.refl _ _) (Nat.le_refl _) (by simp) ?_; (case hd => rfl); (case hg => rfl); (case hr => first | (go_simp; done) | (go_simp; rfl)); (case hp => exact (Reps.one (show Kd.M (Kd.int .i64) _ _ _ a2 [.int .i64 a2] from rfl) (Reps.none _ _)))
                                          intro v181 w55 ho56 hb hg_ hnew_
                                          clear hg_ hnew_
                                          (first | rw [← Ny180.out] at ho56 | (simp only [Int.reduceToNat] at ho56; rw [← Ny180.out] at ho56))
                                          have n0_ := Aside0.mk (Kd.R_below (by (with_reducible repeat (first | apply Kd.R_alloc | apply Kd.R_drewN | apply Kd.R_drew)); exact HO170.out) hb)
                                          have n1_ := Aside0.mk (Kd.R_lower ho56 (below_size (by repeat (first | (with_reducible first | exact HB.out | apply below_alloc | apply pw_below_drewN | apply below_drew1) | exact HB.out))))
                                          have n2_ := Aside0.mk (below_step (by repeat (first | (with_reducible first | exact HB.out | apply below_alloc | apply pw_below_drewN | apply below_drew1) | exact HB.out)) hb)
                                          clear HO170
                                          clear HB
                                          have HO170 := n0_
                                          have HO182 := n1_
                                          have HB := n2_
                                          clear n0_ n1_ n2_
                                          clear hb ho56
                                          refine hK.out _ _ trivial (fun hHeld => ?_)
                                          clear hK K
                                          refine norm_ (a' := ?_) ?_ ?_
                                          rotate_left
                                          · show Act.put _ (some 55) _ = _
                                            simp only [Act.put, List.setIfInBounds_toArray, List.set_cons_zero, List.set_cons_succ, i64_w, i32_w]
                                            rfl
                                          refine one_ (i := 4) (N := some 45) #[true, true, true, true, true, true, true, true, true, false, true, true, true, true, true, false, false, false, false] rfl rfl (one_of HT_.out (by kernel_rfl)) (by decide) (fun K hK => ?_)
                                          refine goes_ Try.func15 (by kernel_rfl) rfl #[.slice A0 (l0.take ((ji14) : Int).toNat).length c0, .int .i64 a2] (by rfl) rfl rfl (by (try simp only [List.map_toArray, List.map_cons, List.map_nil]); first | done | (rw [show (l0.take ((ji14) : Int).toNat).length = (ji14).toNat from (by rw [List.length_take]; have h_ : ((ji14) : Int) ≤ (l0.length : Int) := of_decide_eq_true (by first | (with_reducible assumption) | assumption); omega)] <;> rfl) | (simp only [hji14]; rfl) | rfl | (simp only [List.length_drop, List.length_take]; rfl)) ?_
                                          with_reducible refine (wire_Int.calls kj4 _ _ (l0.take ((ji14) : Int).toNat) a2 t172 _ ?side1 ?side2 A17.out).mono ?_
                                          (case side1 => repeat (first | exact (Kd.C_below HR171.out HB.out) | (with_reducible refine Kd.C_alloc ?_ _) | (with_reducible refine Kd.C_drewN ?_ _) | (with_reducible refine Kd.C_drew ?_)))
                                          (case side2 => exact HC171.out)
                                          rintro e w57 ⟨v173, rfl, ho0, hb⟩
                                          refine ⟨_, rfl, ?_⟩
                                          have n0_ := Aside0.mk (Kd.R_elder' (by (with_reducible repeat (first | apply Kd.R_alloc | apply Kd.R_drewN | apply Kd.R_drew)); exact HO170.out) (Kd.R_base ho0) hb)
                                          have n1_ := Aside0.mk (Kd.R_below (by (with_reducible repeat (first | apply Kd.R_alloc | apply Kd.R_drewN | apply Kd.R_drew)); exact HO182.out) hb)
                                          have n2_ := Aside0.mk (Kd.R_lower (Kd.R_new' ho0 (Kd.R_lt (by (with_reducible repeat (first | apply Kd.R_alloc | apply Kd.R_drewN | apply Kd.R_drew)); exact HO170.out))) (below_size (by repeat (first | (with_reducible first | exact HB.out | apply below_alloc | apply pw_below_drewN | apply below_drew1) | exact HB.out))))
                                          have n3_ := Aside0.mk (below_step (by repeat (first | (with_reducible first | exact HB.out | apply below_alloc | apply pw_below_drewN | apply below_drew1) | exact HB.out)) hb)
                                          clear HO170
                                          clear HO182
                                          clear HB
                                          have HO170 := n0_
                                          have HO182 := n1_
                                          have HO174 := n2_
                                          have HB := n3_
                                          clear n0_ n1_ n2_ n3_
                                          (try clear hb)
                                          (try clear hb2)
                                          (try clear hk)
                                          (try clear hi)
                                          (try clear ho0)
                                          refine hK.out _ _ trivial (fun hHeld => ?_)
                                          clear hK K
                                          refine norm_ (a' := ?_) ?_ ?_
                                          rotate_left
                                          · show Act.put _ (some 45) _ = _
                                            simp only [Act.put, List.setIfInBounds_toArray, List.set_cons_zero, List.set_cons_succ, i64_w, i32_w]
                                            rfl
                                          refine one_ (i := 9) (N := some 50) #[true, true, true, true, true, true, true, true, true, true, true, true, true, true, true, false, false, false, false] rfl rfl (one_of HT_.out (by kernel_rfl)) (by decide) (fun K hK => ?_)
                                          refine goes_ Try.func21 (by kernel_rfl) rfl #[.slice A0 (l0.take ((ji14) : Int).toNat).length c0, .string a3] (by rfl) rfl rfl (by (try simp only [List.map_toArray, List.map_cons, List.map_nil]); first | done | (rw [show (l0.take ((ji14) : Int).toNat).length = (ji14).toNat from (by rw [List.length_take]; have h_ : ((ji14) : Int) ≤ (l0.length : Int) := of_decide_eq_true (by first | (with_reducible assumption) | assumption); omega)] <;> rfl) | (simp only [hji14]; rfl) | rfl | (simp only [List.length_drop, List.length_take]; rfl)) ?_
                                          with_reducible refine (wire_Text.calls kj4 _ _ (l0.take ((ji14) : Int).toNat) a3 t176 _ ?side1 ?side2 A20.out).mono ?_
                                          (case side1 => repeat (first | exact (Kd.C_below HR175.out HB.out) | (with_reducible refine Kd.C_alloc ?_ _) | (with_reducible refine Kd.C_drewN ?_ _) | (with_reducible refine Kd.C_drew ?_)))
                                          (case side2 => exact HC175.out)
                                          rintro e w58 ⟨v177, rfl, ho0, hb⟩
                                          refine ⟨_, rfl, ?_⟩
                                          have n0_ := Aside0.mk (Kd.R_elder' (by (with_reducible repeat (first | apply Kd.R_alloc | apply Kd.R_drewN | apply Kd.R_drew)); exact HO170.out) (Kd.R_base ho0) hb)
                                          have n1_ := Aside0.mk (Kd.R_below (by (with_reducible repeat (first | apply Kd.R_alloc | apply Kd.R_drewN | apply Kd.R_drew)); exact HO182.out) hb)
                                          have n2_ := Aside0.mk (Kd.R_elder' (by (with_reducible repeat (first | apply Kd.R_alloc | apply Kd.R_drewN | apply Kd.R_drew)); exact HO174.out) (Kd.R_base ho0) hb)
                                          have n3_ := Aside0.mk (Kd.R_lower (Kd.R_new' (Kd.R_new' ho0 (Kd.R_lt (by (with_reducible repeat (first | apply Kd.R_alloc | apply Kd.R_drewN | apply Kd.R_drew)); exact HO170.out))) (Kd.R_lt (by (with_reducible repeat (first | apply Kd.R_alloc | apply Kd.R_drewN | apply Kd.R_drew)); exact HO174.out))) (below_size (by repeat (first | (with_reducible first | exact HB.out | apply below_alloc | apply pw_below_drewN | apply below_drew1) | exact HB.out))))
                                          have n4_ := Aside0.mk (below_step (by repeat (first | (with_reducible first | exact HB.out | apply below_alloc | apply pw_below_drewN | apply below_drew1) | exact HB.out)) hb)
                                          clear HO170
                                          clear HO182
                                          clear HO174
                                          clear HB
                                          have HO170 := n0_
                                          have HO182 := n1_
                                          have HO174 := n2_
                                          have HO178 := n3_
                                          have HB := n4_
                                          clear n0_ n1_ n2_ n3_ n4_
                                          (try clear hb)
                                          (try clear hb2)
                                          (try clear hk)
                                          (try clear hi)
                                          (try clear ho0)
                                          refine hK.out _ _ trivial (fun hHeld => ?_)
                                          clear hK K
                                          refine norm_ (a' := ?_) ?_ ?_
                                          rotate_left
                                          · show Act.put _ (some 50) _ = _
                                            simp only [Act.put, List.setIfInBounds_toArray, List.set_cons_zero, List.set_cons_succ, i64_w, i32_w]
                                            rfl
                                          exact norm_ (by simp only [putAll, Act.put, List.setIfInBounds_toArray, List.set_cons_zero, List.set_cons_succ]) (hCont (v173, v177, v181) _ ⟨(by (with_reducible repeat (first | apply Kd.R_alloc | apply Kd.R_drewN | apply Kd.R_drew)); exact Kd.R_mono HO170.out (fun _ hk => ⟨hk.1.2, hk.2⟩)), (by (with_reducible repeat (first | apply Kd.R_alloc | apply Kd.R_drewN | apply Kd.R_drew)); exact Kd.R_mono HO174.out (fun _ hk => ⟨hk.1.2, hk.2⟩)), (by (with_reducible repeat (first | apply Kd.R_alloc | apply Kd.R_drewN | apply Kd.R_drew)); exact Kd.R_mono HO178.out (fun _ hk => ⟨hk.1.2, hk.2⟩)), (by (with_reducible repeat (first | apply Kd.R_alloc | apply Kd.R_drewN | apply Kd.R_drew)); exact HO182.out), (by repeat (first | (with_reducible first | exact HB.out | apply below_alloc | apply pw_below_drewN | apply below_drew1) | exact HB.out))⟩)
                                      rintro ⟨v173, v177, v181⟩ w59 ⟨h0_, h1_, h2_, h3_, h4_⟩
                                      have n0_ : Aside0 (Kd.R (Kd.int .u8) 5 w59 w.heap.size (fun k_ => some k_ ≠ (v173 : Value).ownBlock ∧ some k_ ≠ (v177 : Value).ownBlock) v169 y168) := ⟨h0_⟩
                                      have n1_ : Aside0 (Kd.R (Kd.int .u8) 5 w59 w.heap.size (fun k_ => some k_ ≠ (v169 : Value).ownBlock ∧ some k_ ≠ (v177 : Value).ownBlock) v173 t172) := ⟨h1_⟩
                                      have n2_ : Aside0 (Kd.R (Kd.int .u8) 5 w59 w.heap.size (fun k_ => some k_ ≠ (v169 : Value).ownBlock ∧ some k_ ≠ (v173 : Value).ownBlock) v177 t176) := ⟨h2_⟩
                                      have n3_ : Aside0 (Kd.R (Kd.int .i64) 3 w59 w.heap.size (fun _ => True) v181 y180) := ⟨h3_⟩
                                      have n4_ : Aside0 (Below w.heap.size w w59) := ⟨h4_⟩
                                      clear HO170
                                      clear HB
                                      clear h0_ h1_ h2_ h3_ h4_
                                      have HO170 := n0_
                                      have HO174 := n1_
                                      have HO178 := n2_
                                      have HO182 := n3_
                                      have HB := n4_
                                      clear n0_ n1_ n2_ n3_ n4_
                                      have hHeld := trivial
                                      obtain ⟨Ao60, co60, eo60⟩ := Kd.R_slice HO182.out
                                      (first | subst eo60 | (injection eo60 with f1_ f2_ f3_; have f4_ := f1_.symm; have f5_ := f3_.symm; clear f1_ f2_ f3_; subst f4_; subst f5_))
                                      refine norm_ (a' := ?_) ?_ ?_
                                      rotate_left
                                      · simp only [putAll, Act.put, List.setIfInBounds_toArray, List.set_cons_zero, List.set_cons_succ]
                                        rfl
                                      refine one_ (i := 15) (N := some 56) #[true, true, true, true, true, true, true, true, true, true, true, true, true, true, true, true, false, false, false] rfl rfl (one_of HT_.out (by kernel_rfl)) (by decide) (fun K hK => ?_)
                                      refine goes_ Try.func23 (by kernel_rfl) rfl #[.slice A0 (l0.take ((ji14) : Int).toNat).length c0, .slice Ao60 y180.length co60] (by rfl) rfl rfl (by (try simp only [List.map_toArray, List.map_cons, List.map_nil]); first | done | (rw [show (l0.take ((ji14) : Int).toNat).length = (ji14).toNat from (by rw [List.length_take]; have h_ : ((ji14) : Int) ≤ (l0.length : Int) := of_decide_eq_true (by first | (with_reducible assumption) | assumption); omega)] <;> rfl) | (simp only [hji14]; rfl) | rfl | (simp only [List.length_drop, List.length_take]; rfl)) ?_
                                      with_reducible refine (wire_Ints.calls kj4 _ _ (l0.take ((ji14) : Int).toNat) _ _ y180 t183 _ ?side1 ?side2 ?side3 ?side4 A23.out).mono ?_
                                      (case side1 => repeat (first | exact (Kd.C_below HR179.out HB.out) | (with_reducible refine Kd.C_alloc ?_ _) | (with_reducible refine Kd.C_drewN ?_ _) | (with_reducible refine Kd.C_drew ?_)))
                                      (case side2 => exact HC179.out)
                                      (case side3 => repeat (first | exact (Kd.R_reads' HO182.out).2.2 | (with_reducible refine Kd.C_alloc ?_ _) | (with_reducible refine Kd.C_drewN ?_ _) | (with_reducible refine Kd.C_drew ?_)))
                                      (case side4 => exact (Kd.R_reads' HO182.out).2.1)
                                      rintro e w61 ⟨v184, rfl, ho0, hb⟩
                                      refine ⟨_, rfl, ?_⟩
                                      have n0_ := Aside0.mk (Kd.R_elder' (by (with_reducible repeat (first | apply Kd.R_alloc | apply Kd.R_drewN | apply Kd.R_drew)); exact HO170.out) (Kd.R_base ho0) hb)
                                      have n1_ := Aside0.mk (Kd.R_elder' (by (with_reducible repeat (first | apply Kd.R_alloc | apply Kd.R_drewN | apply Kd.R_drew)); exact HO174.out) (Kd.R_base ho0) hb)
                                      have n2_ := Aside0.mk (Kd.R_elder' (by (with_reducible repeat (first | apply Kd.R_alloc | apply Kd.R_drewN | apply Kd.R_drew)); exact HO178.out) (Kd.R_base ho0) hb)
                                      have n3_ := Aside0.mk (Kd.R_below (by (with_reducible repeat (first | apply Kd.R_alloc | apply Kd.R_drewN | apply Kd.R_drew)); exact HO182.out) hb)
                                      have n4_ := Aside0.mk (Kd.R_lower (Kd.R_new' (Kd.R_new' (Kd.R_new' ho0 (Kd.R_lt (by (with_reducible repeat (first | apply Kd.R_alloc | apply Kd.R_drewN | apply Kd.R_drew)); exact HO170.out))) (Kd.R_lt (by (with_reducible repeat (first | apply Kd.R_alloc | apply Kd.R_drewN | apply Kd.R_drew)); exact HO174.out))) (Kd.R_lt (by (with_reducible repeat (first | apply Kd.R_alloc | apply Kd.R_drewN | apply Kd.R_drew)); exact HO178.out))) (below_size (by repeat (first | (with_reducible first | exact HB.out | apply below_alloc | apply pw_below_drewN | apply below_drew1) | exact HB.out))))
                                      have n5_ := Aside0.mk (below_step (by repeat (first | (with_reducible first | exact HB.out | apply below_alloc | apply pw_below_drewN | apply below_drew1) | exact HB.out)) hb)
                                      clear HO170
                                      clear HO174
                                      clear HO178
                                      clear HO182
                                      clear HB
                                      have HO170 := n0_
                                      have HO174 := n1_
                                      have HO178 := n2_
                                      have HO182 := n3_
                                      have HO185 := n4_
                                      have HB := n5_
                                      clear n0_ n1_ n2_ n3_ n4_ n5_
                                      (try clear hb)
                                      (try clear hb2)
                                      (try clear hk)
                                      (try clear hi)
                                      (try clear ho0)
                                      refine hK.out _ _ trivial (fun hHeld => ?_)
                                      clear hK K
                                      refine norm_ (a' := ?_) ?_ ?_
                                      rotate_left
                                      · show Act.put _ (some 56) _ = _
                                        simp only [Act.put, List.setIfInBounds_toArray, List.set_cons_zero, List.set_cons_succ, i64_w, i32_w]
                                        rfl
                                      refine pure_ (i := 16) (N := some 11) (v := ?_) (a' := ?_) #[true, true, true, true, true, true, true, true, true, true, true, true, true, true, true, true, true, false, false] rfl rfl (any_of HT_.out (by kernel_rfl)) (fun _ _ _ h => h) (Or.inl ⟨by rfl, ?_⟩) ?_ ?_
                                      rotate_left
                                      · intro w'
                                        go_simp
                                        with_reducible rfl
                                      rotate_left
                                      · simp only [Act.put, List.setIfInBounds_toArray, List.set_cons_zero, List.set_cons_succ, i64_w, i32_w]
                                        rfl
                                      refine pure_ (i := 17) (N := some 12) (v := ?_) (a' := ?_) #[true, true, true, true, true, true, true, true, true, true, true, true, true, true, true, true, true, true, false] rfl rfl (any_of HT_.out (by kernel_rfl)) (fun _ _ _ h => h) (Or.inl ⟨by rfl, ?_⟩) ?_ ?_
                                      rotate_left
                                      · intro w'
                                        go_simp
                                        with_reducible rfl
                                      rotate_left
                                      · simp only [Act.put, List.setIfInBounds_toArray, List.set_cons_zero, List.set_cons_succ, i64_w, i32_w]
                                        rfl
                                      refine pure_ (i := 18) (N := some 13) (v := ?_) (a' := ?_) #[true, true, true, true, true, true, true, true, true, true, true, true, true, true, true, true, true, true, true] rfl rfl (any_of HT_.out (by kernel_rfl)) (fun _ _ _ h => h) (Or.inl ⟨by rfl, ?_⟩) ?_ ?_
                                      rotate_left
                                      · intro w'
                                        go_simp
                                        with_reducible rfl
                                      rotate_left
                                      · simp only [Act.put, List.setIfInBounds_toArray, List.set_cons_zero, List.set_cons_succ, i64_w, i32_w]
                                        rfl
                                      refine done_ (done_of HT_.out (by kernel_rfl)) ?_
                                      try go_wp2
                                      have n0_ := Aside0.mk (Kd.R_drew HO170.out)
                                      have n1_ := Aside0.mk (Kd.R_drew HO174.out)
                                      have n2_ := Aside0.mk (Kd.R_drew HO178.out)
                                      have n3_ := Aside0.mk (Kd.R_drew HO182.out)
                                      have n4_ := Aside0.mk (Kd.R_drew HO185.out)
                                      have n5_ := Aside0.mk (below_drew1 HB.out)
                                      clear HO170
                                      clear HO174
                                      clear HO178
                                      clear HO182
                                      clear HO185
                                      clear HB
                                      have HO170 := n0_
                                      have HO174 := n1_
                                      have HO178 := n2_
                                      have HO182 := n3_
                                      have HO185 := n4_
                                      have HB := n5_
                                      clear n0_ n1_ n2_ n3_ n4_ n5_
                                      refine start_ (n := 52) (S := fun w' => True) (ds := []) #[false, false, false, false, false, false, false, false, false, false, false, false, false, false, false, false, false, false, false, false, false, false, false, false, false, false, false, false, false, false, false, false, false, false, false, false, false, false, false, false, false, false, false, false, false, false, false, false, false, false, false, false] (by kernel_rfl) rfl rfl trivial (fun hHeld => ?_); refine with_tabW cellplanelaw01_WireAppends.tab6 cellplanelaw01_WireAppends.bits6 (fun HT_ HW_ => ?_)
                                      generalize w61.drew = w62 at HO170 HO174 HO178 HO182 HO185 HB hHeld ⊢
                                      refine one_ (i := 0) (N := some 57) #[true, false, false, false, false, false, false, false, false, false, false, false, false, false, false, false, false, false, false, false, false, false, false, false, false, false, false, false, false, false, false, false, false, false, false, false, false, false, false, false, false, false, false, false, false, false, false, false, false, false, false, false] rfl rfl (one_of HT_.out (by kernel_rfl)) (by decide) (fun K hK => ?_)
                                      refine goes_ Try.func13 (by kernel_rfl) rfl #[] (by rfl) rfl rfl (by (try simp only [List.map_toArray, List.map_cons, List.map_nil]); first | done | rfl | (simp only [List.length_drop, List.length_take]; rfl)) ?_
                                      with_reducible refine (cellplanelaw01_awake.calls kj4  true _ A24.out).mono ?_
                                      rintro e w63 ⟨rfl, hb⟩
                                      refine ⟨_, rfl, ?_⟩
                                      have n0_ := Aside0.mk (Kd.R_below (by (with_reducible repeat (first | apply Kd.R_alloc | apply Kd.R_drewN | apply Kd.R_drew)); exact HO170.out) hb)
                                      have n1_ := Aside0.mk (Kd.R_below (by (with_reducible repeat (first | apply Kd.R_alloc | apply Kd.R_drewN | apply Kd.R_drew)); exact HO174.out) hb)
                                      have n2_ := Aside0.mk (Kd.R_below (by (with_reducible repeat (first | apply Kd.R_alloc | apply Kd.R_drewN | apply Kd.R_drew)); exact HO178.out) hb)
                                      have n3_ := Aside0.mk (Kd.R_below (by (with_reducible repeat (first | apply Kd.R_alloc | apply Kd.R_drewN | apply Kd.R_drew)); exact HO182.out) hb)
                                      have n4_ := Aside0.mk (Kd.R_below (by (with_reducible repeat (first | apply Kd.R_alloc | apply Kd.R_drewN | apply Kd.R_drew)); exact HO185.out) hb)
                                      have n5_ := Aside0.mk (below_step (by repeat (first | (with_reducible first | exact HB.out | apply below_alloc | apply pw_below_drewN | apply below_drew1) | exact HB.out)) hb)
                                      clear HO170
                                      clear HO174
                                      clear HO178
                                      clear HO182
                                      clear HO185
                                      clear HB
                                      have HO170 := n0_
                                      have HO174 := n1_
                                      have HO178 := n2_
                                      have HO182 := n3_
                                      have HO185 := n4_
                                      have HB := n5_
                                      clear n0_ n1_ n2_ n3_ n4_ n5_
                                      (try clear hb)
                                      (try clear hb2)
                                      (try clear hk)
                                      (try clear hi)
                                      obtain ⟨Ao64, co64, eo64⟩ := Kd.R_slice HO170.out
                                      (first | subst eo64 | (injection eo64 with f1_ f2_ f3_; have f4_ := f1_.symm; have f5_ := f3_.symm; clear f1_ f2_ f3_; subst f4_; subst f5_))
                                      refine hK.out _ _ trivial (fun hHeld => ?_)
                                      clear hK K
                                      refine norm_ (a' := ?_) ?_ ?_
                                      rotate_left
                                      · show Act.put _ (some 57) _ = _
                                        simp only [Act.put, List.setIfInBounds_toArray, List.set_cons_zero, List.set_cons_succ, i64_w, i32_w]
                                        rfl
                                      refine pure_ (i := 1) (N := some 58) (v := ?_) (a' := ?_) #[true, true, false, false, false, false, false, false, false, false, false, false, false, false, false, false, false, false, false, false, false, false, false, false, false, false, false, false, false, false, false, false, false, false, false, false, false, false, false, false, false, false, false, false, false, false, false, false, false, false, false, false] rfl rfl (any_of HT_.out (by kernel_rfl)) (fun _ _ _ h => h) (Or.inl ⟨by rfl, ?_⟩) ?_ ?_
                                      rotate_left
                                      · intro w'
                                        go_simp
                                        with_reducible rfl
                                      rotate_left
                                      · simp only [Act.put, List.setIfInBounds_toArray, List.set_cons_zero, List.set_cons_succ, i64_w, i32_w]
                                        rfl
                                      refine pure_ (i := 2) (N := some 59) (v := ?_) (a' := ?_) #[true, true, true, false, false, false, false, false, false, false, false, false, false, false, false, false, false, false, false, false, false, false, false, false, false, false, false, false, false, false, false, false, false, false, false, false, false, false, false, false, false, false, false, false, false, false, false, false, false, false, false, false] rfl rfl (any_of HT_.out (by kernel_rfl)) (fun _ _ _ h => h) (Or.inl ⟨by rfl, ?_⟩) ?_ ?_
                                      rotate_left
                                      · intro w'
                                        go_simp
                                        with_reducible rfl
                                      rotate_left
                                      · simp only [Act.put, List.setIfInBounds_toArray, List.set_cons_zero, List.set_cons_succ, i64_w, i32_w]
                                        rfl
                                      refine pure_ (i := 3) (N := some 60) (v := ?_) (a' := ?_) #[true, true, true, true, false, false, false, false, false, false, false, false, false, false, false, false, false, false, false, false, false, false, false, false, false, false, false, false, false, false, false, false, false, false, false, false, false, false, false, false, false, false, false, false, false, false, false, false, false, false, false, false] rfl rfl (any_of HT_.out (by kernel_rfl)) (fun _ _ _ h => h) (Or.inl ⟨by rfl, ?_⟩) ?_ ?_
                                      rotate_left
                                      · intro w'
                                        go_simp
                                        with_reducible rfl
                                      rotate_left
                                      · simp only [Act.put, List.setIfInBounds_toArray, List.set_cons_zero, List.set_cons_succ, i64_w, i32_w]
                                        rfl
                                      refine one_ (i := 4) (N := some 61) #[true, true, true, true, true, false, false, false, false, false, false, false, false, false, false, false, false, false, false, false, false, false, false, false, false, false, false, false, false, false, false, false, false, false, false, false, false, false, false, false, false, false, false, false, false, false, false, false, false, false, false, false] rfl rfl (one_of HT_.out (by kernel_rfl)) (by decide) (fun K hK => ?_)
                                      refine goes_ Try.func14 (by kernel_rfl) rfl #[.slice A0 l0.length c0, .slice Ao64 y168.length co64] (by rfl) rfl rfl (by (try simp only [List.map_toArray, List.map_cons, List.map_nil]); first | done | rfl | (simp only [List.length_drop, List.length_take]; rfl)) ?_
                                      with_reducible refine (cellplaneref01_SameBytes.calls _ _ l0 _ _ y168 true _ ?side1 ?side2 ?side3 ?side4 A26.out).mono ?_
                                      (case side1 => repeat (first | exact (Kd.C_below HR0.out HB.out) | (with_reducible refine Kd.C_alloc ?_ _) | (with_reducible refine Kd.C_drewN ?_ _) | (with_reducible refine Kd.C_drew ?_)))
                                      (case side2 => exact HC0.out)
                                      (case side3 => repeat (first | exact (Kd.R_reads' HO170.out).2.2 | (with_reducible refine Kd.C_alloc ?_ _) | (with_reducible refine Kd.C_drewN ?_ _) | (with_reducible refine Kd.C_drew ?_)))
                                      (case side4 => exact (Kd.R_reads' HO170.out).2.1)
                                      rintro e w' ⟨rfl, ⟨nd, rfl⟩⟩
                                      refine ⟨_, rfl, ?_⟩
                                      obtain ⟨Ao65, co65, eo65⟩ := Kd.R_slice HO174.out
                                      (first | subst eo65 | (injection eo65 with f1_ f2_ f3_; have f4_ := f1_.symm; have f5_ := f3_.symm; clear f1_ f2_ f3_; subst f4_; subst f5_))
                                      obtain ⟨Ao66, co66, eo66⟩ := Kd.R_slice HO178.out
                                      (first | subst eo66 | (injection eo66 with f1_ f2_ f3_; have f4_ := f1_.symm; have f5_ := f3_.symm; clear f1_ f2_ f3_; subst f4_; subst f5_))
                                      obtain ⟨Ao67, co67, eo67⟩ := Kd.R_slice HO185.out
                                      (first | subst eo67 | (injection eo67 with f1_ f2_ f3_; have f4_ := f1_.symm; have f5_ := f3_.symm; clear f1_ f2_ f3_; subst f4_; subst f5_))
                                      have q68 : ((ji14) : Int) ≤ ((t172.length : Int) : Int) := of_decide_eq_true (by first | (with_reducible assumption) | assumption)
                                      obtain ⟨i068, hi068, _, hsz68, _⟩ := info_parts info5
                                      have hroom68 : t172.length ≤ co65 := (Kd.R_reads' HO174.out).2.1
                                      have hC68 : Kd.C (Kd.int .u8) _ Ao65 t172.length t172 := (Kd.R_reads' HO174.out).2.2
                                      have hcut68 := cut_to (P := Try.prog) 22 5 .i64 Try.underlying22 hi068 Ao65 t172.length co65 (ji14) (of_decide_eq_true (by first | (with_reducible assumption) | assumption)) q68 hroom68
                                      have hr68 := Kd.C_take (m := ((ji14) : Int).toNat) hC68 (by omega)
                                      have hy68 : y188.length = ((ji14) : Int).toNat := (by rw [Ny188.out, List.length_take]; omega)
                                      rw [← Ny188.out] at hr68
                                      rw [← hy68] at hcut68
                                      have HR191 := Aside0.mk hr68
                                      have HC191 := Aside0.mk (show y188.length ≤ co65 from by omega)
                                      clear hr68 hC68 hroom68 hi068 hsz68
                                      have KY68 := Aside0.mk hy68
                                      clear hy68
                                      have KL68 := Aside0.mk (show ((ji14) : Int).toNat ≤ t172.length from by omega)
                                      replace q68 := eq_true q68
                                      have q69 : ((ji14) : Int) ≤ ((y168.length : Int) : Int) := of_decide_eq_true (by first | (with_reducible assumption) | assumption)
                                      obtain ⟨i069, hi069, _, hsz69, _⟩ := info_parts info5
                                      have hroom69 : y168.length ≤ co64 := (Kd.R_reads' HO170.out).2.1
                                      have hC69 : Kd.C (Kd.int .u8) _ Ao64 y168.length y168 := (Kd.R_reads' HO170.out).2.2
                                      have hcut69 := cut_to (P := Try.prog) 22 5 .i64 Try.underlying22 hi069 Ao64 y168.length co64 (ji14) (of_decide_eq_true (by first | (with_reducible assumption) | assumption)) q69 hroom69
                                      have hr69 := Kd.C_take (m := ((ji14) : Int).toNat) hC69 (by omega)
                                      have hy69 : y192.length = ((ji14) : Int).toNat := (by rw [Ny192.out, List.length_take]; omega)
                                      rw [← Ny192.out] at hr69
                                      rw [← hy69] at hcut69
                                      have HR195 := Aside0.mk hr69
                                      have HC195 := Aside0.mk (show y192.length ≤ co64 from by omega)
                                      clear hr69 hC69 hroom69 hi069 hsz69
                                      have KY69 := Aside0.mk hy69
                                      clear hy69
                                      have KL69 := Aside0.mk (show ((ji14) : Int).toNat ≤ y168.length from by omega)
                                      replace q69 := eq_true q69
                                      refine hK.out _ _ trivial (fun hHeld => ?_)
                                      clear hK K
                                      refine norm_ (a' := ?_) ?_ ?_
                                      rotate_left
                                      · show Act.put _ (some 61) _ = _
                                        simp only [Act.put, List.setIfInBounds_toArray, List.set_cons_zero, List.set_cons_succ, i64_w, i32_w]
                                        rfl
                                      refine pure_ (i := 5) (N := some 62) (v := ?_) (a' := ?_) #[true, true, true, true, true, true, false, false, false, false, false, false, false, false, false, false, false, false, false, false, false, false, false, false, false, false, false, false, false, false, false, false, false, false, false, false, false, false, false, false, false, false, false, false, false, false, false, false, false, false, false, false] rfl rfl (any_of HT_.out (by kernel_rfl)) (fun _ _ _ h => h) (Or.inl ⟨by rfl, ?_⟩) ?_ ?_
                                      rotate_left
                                      · intro w'
                                        go_simp
                                        with_reducible rfl
                                      rotate_left
                                      · simp only [Act.put, List.setIfInBounds_toArray, List.set_cons_zero, List.set_cons_succ, i64_w, i32_w]
                                        rfl
                                      refine pure_ (i := 6) (N := some 63) (v := ?_) (a' := ?_) #[true, true, true, true, true, true, true, false, false, false, false, false, false, false, false, false, false, false, false, false, false, false, false, false, false, false, false, false, false, false, false, false, false, false, false, false, false, false, false, false, false, false, false, false, false, false, false, false, false, false, false, false] rfl rfl (any_of HT_.out (by kernel_rfl)) (fun _ _ _ h => h) (Or.inl ⟨by rfl, ?_⟩) ?_ ?_
                                      rotate_left
                                      · intro w'
                                        go_simp
                                        with_reducible rfl
                                      rotate_left
                                      · simp only [Act.put, List.setIfInBounds_toArray, List.set_cons_zero, List.set_cons_succ, i64_w, i32_w]
                                        rfl
                                      refine pure_ (i := 7) (N := some 64) (v := ?_) (a' := ?_) #[true, true, true, true, true, true, true, true, false, false, false, false, false, false, false, false, false, false, false, false, false, false, false, false, false, false, false, false, false, false, false, false, false, false, false, false, false, false, false, false, false, false, false, false, false, false, false, false, false, false, false, false] rfl rfl (any_of HT_.out (by kernel_rfl)) (fun _ _ _ h => h) (Or.inl ⟨by rfl, ?_⟩) ?_ ?_
                                      rotate_left
                                      · intro w'
                                        go_simp
                                        with_reducible rfl
                                      rotate_left
                                      · simp only [Act.put, List.setIfInBounds_toArray, List.set_cons_zero, List.set_cons_succ, i64_w, i32_w]
                                        rfl
                                      refine pure_ (i := 8) (N := some 65) (v := ?_) (a' := ?_) #[true, true, true, true, true, true, true, true, true, false, false, false, false, false, false, false, false, false, false, false, false, false, false, false, false, false, false, false, false, false, false, false, false, false, false, false, false, false, false, false, false, false, false, false, false, false, false, false, false, false, false, false] rfl rfl (any_of HT_.out (by kernel_rfl)) (fun _ _ _ h => h) (Or.inl ⟨by rfl, ?_⟩) ?_ ?_
                                      rotate_left
                                      · intro w'
                                        go_simp
                                        with_reducible rfl
                                      rotate_left
                                      · simp only [Act.put, List.setIfInBounds_toArray, List.set_cons_zero, List.set_cons_succ, i64_w, i32_w]
                                        rfl
                                      refine pure_ (i := 9) (N := some 66) (v := ?_) (a' := ?_) #[true, true, true, true, true, true, true, true, true, true, false, false, false, false, false, false, false, false, false, false, false, false, false, false, false, false, false, false, false, false, false, false, false, false, false, false, false, false, false, false, false, false, false, false, false, false, false, false, false, false, false, false] rfl rfl (any_of HT_.out (by kernel_rfl)) (fun _ _ _ h => h) (Or.inl ⟨by rfl, ?_⟩) ?_ ?_
                                      rotate_left
                                      · intro w'
                                        go_simp
                                        with_reducible rfl
                                      rotate_left
                                      · simp only [Act.put, List.setIfInBounds_toArray, List.set_cons_zero, List.set_cons_succ, i64_w, i32_w]
                                        rfl
                                      refine pure_ (i := 10) (N := some 67) (v := ?_) (a' := ?_) #[true, true, true, true, true, true, true, true, true, true, true, false, false, false, false, false, false, false, false, false, false, false, false, false, false, false, false, false, false, false, false, false, false, false, false, false, false, false, false, false, false, false, false, false, false, false, false, false, false, false, false, false] rfl rfl (any_of HT_.out (by kernel_rfl)) (fun _ _ _ h => h) (Or.inl ⟨by rfl, ?_⟩) ?_ ?_
                                      rotate_left
                                      · intro w'
                                        go_simp
                                        with_reducible rfl
                                      rotate_left
                                      · simp only [Act.put, List.setIfInBounds_toArray, List.set_cons_zero, List.set_cons_succ, i64_w, i32_w]
                                        rfl
                                      refine pure_ (i := 11) (N := some 68) (v := ?_) (a' := ?_) #[true, true, true, true, true, true, true, true, true, true, true, true, false, false, false, false, false, false, false, false, false, false, false, false, false, false, false, false, false, false, false, false, false, false, false, false, false, false, false, false, false, false, false, false, false, false, false, false, false, false, false, false] rfl rfl (any_of HT_.out (by kernel_rfl)) (fun _ _ _ h => h) (Or.inl ⟨by rfl, ?_⟩) ?_ ?_
                                      rotate_left
                                      · intro w'
                                        go_simp
                                        with_reducible rfl
                                      rotate_left
                                      · simp only [Act.put, List.setIfInBounds_toArray, List.set_cons_zero, List.set_cons_succ, i64_w, i32_w]
                                        rfl
                                      refine pure_ (i := 12) (N := some 69) (v := ?_) (a' := ?_) #[true, true, true, true, true, true, true, true, true, true, true, true, true, false, false, false, false, false, false, false, false, false, false, false, false, false, false, false, false, false, false, false, false, false, false, false, false, false, false, false, false, false, false, false, false, false, false, false, false, false, false, false] rfl rfl (any_of HT_.out (by kernel_rfl)) (fun _ _ _ h => h) (Or.inl ⟨by rfl, ?_⟩) ?_ ?_
                                      rotate_left
                                      · intro w'
                                        go_simp
                                        with_reducible rfl
                                      rotate_left
                                      · simp only [Act.put, List.setIfInBounds_toArray, List.set_cons_zero, List.set_cons_succ, i64_w, i32_w]
                                        rfl
                                      refine pure_ (i := 13) (N := some 70) (v := ?_) (a' := ?_) #[true, true, true, true, true, true, true, true, true, true, true, true, true, true, false, false, false, false, false, false, false, false, false, false, false, false, false, false, false, false, false, false, false, false, false, false, false, false, false, false, false, false, false, false, false, false, false, false, false, false, false, false] rfl rfl (any_of HT_.out (by kernel_rfl)) (fun _ _ _ h => h) (Or.inl ⟨by rfl, ?_⟩) ?_ ?_
                                      rotate_left
                                      · intro w'
                                        go_simp
                                        with_reducible rfl
                                      rotate_left
                                      · simp only [Act.put, List.setIfInBounds_toArray, List.set_cons_zero, List.set_cons_succ, i64_w, i32_w]
                                        rfl
                                      refine pure_ (i := 14) (N := some 71) (v := ?_) (a' := ?_) #[true, true, true, true, true, true, true, true, true, true, true, true, true, true, true, false, false, false, false, false, false, false, false, false, false, false, false, false, false, false, false, false, false, false, false, false, false, false, false, false, false, false, false, false, false, false, false, false, false, false, false, false] rfl rfl (any_of HT_.out (by kernel_rfl)) (fun _ _ _ h => h) (Or.inl ⟨by rfl, ?_⟩) ?_ ?_
                                      rotate_left
                                      · intro w'
                                        go_simp
                                        with_reducible rfl
                                      rotate_left
                                      · simp only [Act.put, List.setIfInBounds_toArray, List.set_cons_zero, List.set_cons_succ, i64_w, i32_w]
                                        rfl
                                      refine pure_ (i := 15) (N := some 72) (v := ?_) (a' := ?_) #[true, true, true, true, true, true, true, true, true, true, true, true, true, true, true, true, false, false, false, false, false, false, false, false, false, false, false, false, false, false, false, false, false, false, false, false, false, false, false, false, false, false, false, false, false, false, false, false, false, false, false, false] rfl rfl (any_of HT_.out (by kernel_rfl)) (fun _ _ _ h => h) (Or.inl ⟨by rfl, ?_⟩) ?_ ?_
                                      rotate_left
                                      · intro w'
                                        go_simp
                                        with_reducible rfl
                                      rotate_left
                                      · simp only [Act.put, List.setIfInBounds_toArray, List.set_cons_zero, List.set_cons_succ, i64_w, i32_w]
                                        rfl
                                      refine pure_ (i := 16) (N := some 73) (v := ?_) (a' := ?_) #[true, true, true, true, true, true, true, true, true, true, true, true, true, true, true, true, true, false, false, false, false, false, false, false, false, false, false, false, false, false, false, false, false, false, false, false, false, false, false, false, false, false, false, false, false, false, false, false, false, false, false, false] rfl rfl (any_of HT_.out (by kernel_rfl)) (fun _ _ _ h => h) (Or.inl ⟨by rfl, ?_⟩) ?_ ?_
                                      rotate_left
                                      · intro w'
                                        go_simp
                                        with_reducible rfl
                                      rotate_left
                                      · simp only [Act.put, List.setIfInBounds_toArray, List.set_cons_zero, List.set_cons_succ, i64_w, i32_w]
                                        rfl
                                      refine pure_ (i := 17) (N := some 74) (v := ?_) (a' := ?_) #[true, true, true, true, true, true, true, true, true, true, true, true, true, true, true, true, true, true, false, false, false, false, false, false, false, false, false, false, false, false, false, false, false, false, false, false, false, false, false, false, false, false, false, false, false, false, false, false, false, false, false, false] rfl rfl (any_of HT_.out (by kernel_rfl)) (fun _ _ _ h => h) (Or.inl ⟨by rfl, ?_⟩) ?_ ?_
                                      rotate_left
                                      · intro w'
                                        go_simp
                                        with_reducible rfl
                                      rotate_left
                                      · simp only [Act.put, List.setIfInBounds_toArray, List.set_cons_zero, List.set_cons_succ, i64_w, i32_w]
                                        rfl
                                      refine pure_ (i := 18) (N := some 75) (v := ?_) (a' := ?_) #[true, true, true, true, true, true, true, true, true, true, true, true, true, true, true, true, true, true, true, false, false, false, false, false, false, false, false, false, false, false, false, false, false, false, false, false, false, false, false, false, false, false, false, false, false, false, false, false, false, false, false, false] rfl rfl (any_of HT_.out (by kernel_rfl)) (fun _ _ _ h => h) (Or.inl ⟨by rfl, ?_⟩) ?_ ?_
                                      rotate_left
                                      · intro w'
                                        go_simp
                                        with_reducible rfl
                                      rotate_left
                                      · simp only [Act.put, List.setIfInBounds_toArray, List.set_cons_zero, List.set_cons_succ, i64_w, i32_w]
                                        rfl
                                      refine pure_ (i := 19) (N := some 76) (v := ?_) (a' := ?_) #[true, true, true, true, true, true, true, true, true, true, true, true, true, true, true, true, true, true, true, true, false, false, false, false, false, false, false, false, false, false, false, false, false, false, false, false, false, false, false, false, false, false, false, false, false, false, false, false, false, false, false, false] rfl rfl (any_of HT_.out (by kernel_rfl)) (fun _ _ _ h => h) (Or.inl ⟨by rfl, ?_⟩) ?_ ?_
                                      rotate_left
                                      · intro w'
                                        go_simp
                                        with_reducible rfl
                                      rotate_left
                                      · simp only [Act.put, List.setIfInBounds_toArray, List.set_cons_zero, List.set_cons_succ, i64_w, i32_w]
                                        rfl
                                      refine pure_ (i := 20) (N := some 77) (v := ?_) (a' := ?_) #[true, true, true, true, true, true, true, true, true, true, true, true, true, true, true, true, true, true, true, true, true, false, false, false, false, false, false, false, false, false, false, false, false, false, false, false, false, false, false, false, false, false, false, false, false, false, false, false, false, false, false, false] rfl rfl (any_of HT_.out (by kernel_rfl)) (fun _ _ _ h => h) (Or.inl ⟨by rfl, ?_⟩) ?_ ?_
                                      rotate_left
                                      · intro w'
                                        go_simp
                                        with_reducible rfl
                                      rotate_left
                                      · simp only [Act.put, List.setIfInBounds_toArray, List.set_cons_zero, List.set_cons_succ, i64_w, i32_w]
                                        rfl
                                      refine pure_ (i := 21) (N := some 78) (v := ?_) (a' := ?_) #[true, true, true, true, true, true, true, true, true, true, true, true, true, true, true, true, true, true, true, true, true, true, false, false, false, false, false, false, false, false, false, false, false, false, false, false, false, false, false, false, false, false, false, false, false, false, false, false, false, false, false, false] rfl rfl (any_of HT_.out (by kernel_rfl)) (fun _ _ _ h => h) (Or.inl ⟨by rfl, ?_⟩) ?_ ?_
                                      rotate_left
                                      · intro w'
                                        go_simp
                                        with_reducible rfl
                                      rotate_left
                                      · simp only [Act.put, List.setIfInBounds_toArray, List.set_cons_zero, List.set_cons_succ, i64_w, i32_w]
                                        rfl
                                      refine pure_ (i := 22) (N := some 79) (v := ?_) (a' := ?_) #[true, true, true, true, true, true, true, true, true, true, true, true, true, true, true, true, true, true, true, true, true, true, true, false, false, false, false, false, false, false, false, false, false, false, false, false, false, false, false, false, false, false, false, false, false, false, false, false, false, false, false, false] rfl rfl (any_of HT_.out (by kernel_rfl)) (fun _ _ _ h => h) (Or.inl ⟨by rfl, ?_⟩) ?_ ?_
                                      rotate_left
                                      · intro w'
                                        go_simp
                                        with_reducible rfl
                                      rotate_left
                                      · simp only [Act.put, List.setIfInBounds_toArray, List.set_cons_zero, List.set_cons_succ, i64_w, i32_w]
                                        rfl
                                      refine pure_ (i := 23) (N := some 80) (v := ?_) (a' := ?_) #[true, true, true, true, true, true, true, true, true, true, true, true, true, true, true, true, true, true, true, true, true, true, true, true, false, false, false, false, false, false, false, false, false, false, false, false, false, false, false, false, false, false, false, false, false, false, false, false, false, false, false, false] rfl rfl (any_of HT_.out (by kernel_rfl)) (fun _ _ _ h => h) (Or.inl ⟨by rfl, ?_⟩) ?_ ?_
                                      rotate_left
                                      · intro w'
                                        go_simp
                                        with_reducible rfl
                                      rotate_left
                                      · simp only [Act.put, List.setIfInBounds_toArray, List.set_cons_zero, List.set_cons_succ, i64_w, i32_w]
                                        rfl
                                      refine pure_ (i := 24) (N := some 81) (v := ?_) (a' := ?_) #[true, true, true, true, true, true, true, true, true, true, true, true, true, true, true, true, true, true, true, true, true, true, true, true, true, false, false, false, false, false, false, false, false, false, false, false, false, false, false, false, false, false, false, false, false, false, false, false, false, false, false, false] rfl rfl (any_of HT_.out (by kernel_rfl)) (fun _ _ _ h => h) (Or.inl ⟨by rfl, ?_⟩) ?_ ?_
                                      rotate_left
                                      · intro w'
                                        go_simp
                                        with_reducible rfl
                                      rotate_left
                                      · simp only [Act.put, List.setIfInBounds_toArray, List.set_cons_zero, List.set_cons_succ, i64_w, i32_w]
                                        rfl
                                      refine pure_ (i := 25) (N := some 82) (v := ?_) (a' := ?_) #[true, true, true, true, true, true, true, true, true, true, true, true, true, true, true, true, true, true, true, true, true, true, true, true, true, true, false, false, false, false, false, false, false, false, false, false, false, false, false, false, false, false, false, false, false, false, false, false, false, false, false, false] rfl rfl (any_of HT_.out (by kernel_rfl)) (fun _ _ _ h => h) (Or.inl ⟨by rfl, ?_⟩) ?_ ?_
                                      rotate_left
                                      · intro w'
                                        go_simp
                                        with_reducible rfl
                                      rotate_left
                                      · simp only [Act.put, List.setIfInBounds_toArray, List.set_cons_zero, List.set_cons_succ, i64_w, i32_w]
                                        rfl
                                      refine pure_ (i := 26) (N := some 83) (v := ?_) (a' := ?_) #[true, true, true, true, true, true, true, true, true, true, true, true, true, true, true, true, true, true, true, true, true, true, true, true, true, true, true, false, false, false, false, false, false, false, false, false, false, false, false, false, false, false, false, false, false, false, false, false, false, false, false, false] rfl rfl (any_of HT_.out (by kernel_rfl)) (fun _ _ _ h => h) (Or.inl ⟨by rfl, ?_⟩) ?_ ?_
                                      rotate_left
                                      · intro w'
                                        go_simp
                                        with_reducible rfl
                                      rotate_left
                                      · simp only [Act.put, List.setIfInBounds_toArray, List.set_cons_zero, List.set_cons_succ, i64_w, i32_w]
                                        rfl
                                      refine pure_ (i := 27) (N := some 84) (v := ?_) (a' := ?_) #[true, true, true, true, true, true, true, true, true, true, true, true, true, true, true, true, true, true, true, true, true, true, true, true, true, true, true, true, false, false, false, false, false, false, false, false, false, false, false, false, false, false, false, false, false, false, false, false, false, false, false, false] rfl rfl (any_of HT_.out (by kernel_rfl)) (fun _ _ _ h => h) (Or.inl ⟨by rfl, ?_⟩) ?_ ?_
                                      rotate_left
                                      · intro w'
                                        go_simp
                                        with_reducible rfl
                                      rotate_left
                                      · simp only [Act.put, List.setIfInBounds_toArray, List.set_cons_zero, List.set_cons_succ, i64_w, i32_w]
                                        rfl
                                      refine pure_ (i := 28) (N := some 85) (v := ?_) (a' := ?_) #[true, true, true, true, true, true, true, true, true, true, true, true, true, true, true, true, true, true, true, true, true, true, true, true, true, true, true, true, true, false, false, false, false, false, false, false, false, false, false, false, false, false, false, false, false, false, false, false, false, false, false, false] rfl rfl (any_of HT_.out (by kernel_rfl)) (fun _ _ _ h => h) (Or.inl ⟨by rfl, ?_⟩) ?_ ?_
                                      rotate_left
                                      · intro w'
                                        go_simp
                                        with_reducible rfl
                                      rotate_left
                                      · simp only [Act.put, List.setIfInBounds_toArray, List.set_cons_zero, List.set_cons_succ, i64_w, i32_w]
                                        rfl
                                      refine pure_ (i := 29) (N := some 86) (v := ?_) (a' := ?_) #[true, true, true, true, true, true, true, true, true, true, true, true, true, true, true, true, true, true, true, true, true, true, true, true, true, true, true, true, true, true, false, false, false, false, false, false, false, false, false, false, false, false, false, false, false, false, false, false, false, false, false, false] rfl rfl (any_of HT_.out (by kernel_rfl)) (fun _ _ _ h => h) (Or.inl ⟨by rfl, ?_⟩) ?_ ?_
                                      rotate_left
                                      · intro w'
                                        go_simp
                                        with_reducible rfl
                                      rotate_left
                                      · simp only [Act.put, List.setIfInBounds_toArray, List.set_cons_zero, List.set_cons_succ, i64_w, i32_w]
                                        rfl
                                      refine pure_ (i := 30) (N := some 87) (v := ?_) (a' := ?_) #[true, true, true, true, true, true, true, true, true, true, true, true, true, true, true, true, true, true, true, true, true, true, true, true, true, true, true, true, true, true, true, false, false, false, false, false, false, false, false, false, false, false, false, false, false, false, false, false, false, false, false, false] rfl rfl (any_of HT_.out (by kernel_rfl)) (fun _ _ _ h => h) (Or.inl ⟨by rfl, ?_⟩) ?_ ?_
                                      rotate_left
                                      · intro w'
                                        go_simp
                                        with_reducible rfl
                                      rotate_left
                                      · simp only [Act.put, List.setIfInBounds_toArray, List.set_cons_zero, List.set_cons_succ, i64_w, i32_w]
                                        rfl
                                      refine one_ (i := 31) (N := some 88) #[true, true, true, true, true, true, true, true, true, true, true, true, true, true, true, true, true, true, true, true, true, true, true, true, true, true, true, true, true, true, true, true, false, false, false, false, false, false, false, false, false, false, false, false, false, false, false, false, false, false, false, false] rfl rfl (one_of HT_.out (by kernel_rfl)) (by decide) (fun K hK => ?_)
                                      refine goes_ Try.func14 (by kernel_rfl) rfl #[.slice Ao65 y188.length co65, .slice Ao64 y192.length co64] (by rfl) rfl rfl (by (try simp only [List.map_toArray, List.map_cons, List.map_nil]); first | done | rfl | (simp only [List.length_drop, List.length_take]; rfl)) ?_
                                      with_reducible refine (cellplaneref01_SameBytes.calls _ _ y188 _ _ y192 true _ ?side1 ?side2 ?side3 ?side4 A35.out).mono ?_
                                      (case side1 => repeat (first | exact (by repeat (first | (with_reducible exact HR191.out) | (with_reducible refine Kd.C_alloc ?_ _) | (with_reducible refine Kd.C_drewN ?_ _) | (with_reducible refine Kd.C_drew ?_) | exact HR191.out)) | (with_reducible refine Kd.C_alloc ?_ _) | (with_reducible refine Kd.C_drewN ?_ _) | (with_reducible refine Kd.C_drew ?_)))
                                      (case side2 => exact HC191.out)
                                      (case side3 => repeat (first | exact (by repeat (first | (with_reducible exact HR195.out) | (with_reducible refine Kd.C_alloc ?_ _) | (with_reducible refine Kd.C_drewN ?_ _) | (with_reducible refine Kd.C_drew ?_) | exact HR195.out)) | (with_reducible refine Kd.C_alloc ?_ _) | (with_reducible refine Kd.C_drewN ?_ _) | (with_reducible refine Kd.C_drew ?_)))
                                      (case side4 => exact HC195.out)
                                      rintro e w' ⟨rfl, ⟨nd, rfl⟩⟩
                                      refine ⟨_, rfl, ?_⟩
                                      have q70 : ((ji14) : Int) ≤ ((t176.length : Int) : Int) := of_decide_eq_true (by first | (with_reducible assumption) | assumption)
                                      obtain ⟨i070, hi070, _, hsz70, _⟩ := info_parts info5
                                      have hroom70 : t176.length ≤ co66 := (Kd.R_reads' HO178.out).2.1
                                      have hC70 : Kd.C (Kd.int .u8) _ Ao66 t176.length t176 := (Kd.R_reads' HO178.out).2.2
                                      have hcut70 := cut_to (P := Try.prog) 22 5 .i64 Try.underlying22 hi070 Ao66 t176.length co66 (ji14) (of_decide_eq_true (by first | (with_reducible assumption) | assumption)) q70 hroom70
                                      have hr70 := Kd.C_take (m := ((ji14) : Int).toNat) hC70 (by omega)
                                      have hy70 : y197.length = ((ji14) : Int).toNat := (by rw [Ny197.out, List.length_take]; omega)
                                      rw [← Ny197.out] at hr70
                                      rw [← hy70] at hcut70
                                      have HR200 := Aside0.mk hr70
                                      have HC200 := Aside0.mk (show y197.length ≤ co66 from by omega)
                                      clear hr70 hC70 hroom70 hi070 hsz70
                                      have KY70 := Aside0.mk hy70
                                      clear hy70
                                      have KL70 := Aside0.mk (show ((ji14) : Int).toNat ≤ t176.length from by omega)
                                      replace q70 := eq_true q70
                                      have q71 : ((ji14) : Int) ≤ ((y168.length : Int) : Int) := of_decide_eq_true (by first | (with_reducible assumption) | assumption)
                                      obtain ⟨i071, hi071, _, hsz71, _⟩ := info_parts info5
                                      have hroom71 : y168.length ≤ co64 := (Kd.R_reads' HO170.out).2.1
                                      have hC71 : Kd.C (Kd.int .u8) _ Ao64 y168.length y168 := (Kd.R_reads' HO170.out).2.2
                                      clear hcut69
                                      have hcut71 := cut_to (P := Try.prog) 22 5 .i64 Try.underlying22 hi071 Ao64 y168.length co64 (ji14) (of_decide_eq_true (by first | (with_reducible assumption) | assumption)) q71 hroom71
                                      have hr71 := Kd.C_take (m := ((ji14) : Int).toNat) hC71 (by omega)
                                      have hy71 : y201.length = ((ji14) : Int).toNat := (by rw [Ny201.out, List.length_take]; omega)
                                      rw [← Ny201.out] at hr71
                                      rw [← hy71] at hcut71
                                      have HR204 := Aside0.mk hr71
                                      have HC204 := Aside0.mk (show y201.length ≤ co64 from by omega)
                                      clear hr71 hC71 hroom71 hi071 hsz71
                                      have KY71 := Aside0.mk hy71
                                      clear hy71
                                      have KL71 := Aside0.mk (show ((ji14) : Int).toNat ≤ y168.length from by omega)
                                      replace q71 := eq_true q71
                                      refine hK.out _ _ trivial (fun hHeld => ?_)
                                      clear hK K
                                      refine norm_ (a' := ?_) ?_ ?_
                                      rotate_left
                                      · show Act.put _ (some 88) _ = _
                                        simp only [Act.put, List.setIfInBounds_toArray, List.set_cons_zero, List.set_cons_succ, i64_w, i32_w]
                                        rfl
                                      refine pure_ (i := 32) (N := some 89) (v := ?_) (a' := ?_) #[true, true, true, true, true, true, true, true, true, true, true, true, true, true, true, true, true, true, true, true, true, true, true, true, true, true, true, true, true, true, true, true, true, false, false, false, false, false, false, false, false, false, false, false, false, false, false, false, false, false, false, false] rfl rfl (any_of HT_.out (by kernel_rfl)) (fun _ _ _ h => h) (Or.inl ⟨by rfl, ?_⟩) ?_ ?_
                                      rotate_left
                                      · intro w'
                                        go_simp
                                        with_reducible rfl
                                      rotate_left
                                      · simp only [Act.put, List.setIfInBounds_toArray, List.set_cons_zero, List.set_cons_succ, i64_w, i32_w]
                                        rfl
                                      refine pure_ (i := 33) (N := some 90) (v := ?_) (a' := ?_) #[true, true, true, true, true, true, true, true, true, true, true, true, true, true, true, true, true, true, true, true, true, true, true, true, true, true, true, true, true, true, true, true, true, true, false, false, false, false, false, false, false, false, false, false, false, false, false, false, false, false, false, false] rfl rfl (any_of HT_.out (by kernel_rfl)) (fun _ _ _ h => h) (Or.inl ⟨by rfl, ?_⟩) ?_ ?_
                                      rotate_left
                                      · intro w'
                                        go_simp
                                        with_reducible rfl
                                      rotate_left
                                      · simp only [Act.put, List.setIfInBounds_toArray, List.set_cons_zero, List.set_cons_succ, i64_w, i32_w]
                                        rfl
                                      refine pure_ (i := 34) (N := some 91) (v := ?_) (a' := ?_) #[true, true, true, true, true, true, true, true, true, true, true, true, true, true, true, true, true, true, true, true, true, true, true, true, true, true, true, true, true, true, true, true, true, true, true, false, false, false, false, false, false, false, false, false, false, false, false, false, false, false, false, false] rfl rfl (any_of HT_.out (by kernel_rfl)) (fun _ _ _ h => h) (Or.inl ⟨by rfl, ?_⟩) ?_ ?_
                                      rotate_left
                                      · intro w'
                                        go_simp
                                        with_reducible rfl
                                      rotate_left
                                      · simp only [Act.put, List.setIfInBounds_toArray, List.set_cons_zero, List.set_cons_succ, i64_w, i32_w]
                                        rfl
                                      refine pure_ (i := 35) (N := some 92) (v := ?_) (a' := ?_) #[true, true, true, true, true, true, true, true, true, true, true, true, true, true, true, true, true, true, true, true, true, true, true, true, true, true, true, true, true, true, true, true, true, true, true, true, false, false, false, false, false, false, false, false, false, false, false, false, false, false, false, false] rfl rfl (any_of HT_.out (by kernel_rfl)) (fun _ _ _ h => h) (Or.inl ⟨by rfl, ?_⟩) ?_ ?_
                                      rotate_left
                                      · intro w'
                                        go_simp
                                        with_reducible rfl
                                      rotate_left
                                      · simp only [Act.put, List.setIfInBounds_toArray, List.set_cons_zero, List.set_cons_succ, i64_w, i32_w]
                                        rfl
                                      refine pure_ (i := 36) (N := some 93) (v := ?_) (a' := ?_) #[true, true, true, true, true, true, true, true, true, true, true, true, true, true, true, true, true, true, true, true, true, true, true, true, true, true, true, true, true, true, true, true, true, true, true, true, true, false, false, false, false, false, false, false, false, false, false, false, false, false, false, false] rfl rfl (any_of HT_.out (by kernel_rfl)) (fun _ _ _ h => h) (Or.inl ⟨by rfl, ?_⟩) ?_ ?_
                                      rotate_left
                                      · intro w'
                                        go_simp
                                        with_reducible rfl
                                      rotate_left
                                      · simp only [Act.put, List.setIfInBounds_toArray, List.set_cons_zero, List.set_cons_succ, i64_w, i32_w]
                                        rfl
                                      refine pure_ (i := 37) (N := some 94) (v := ?_) (a' := ?_) #[true, true, true, true, true, true, true, true, true, true, true, true, true, true, true, true, true, true, true, true, true, true, true, true, true, true, true, true, true, true, true, true, true, true, true, true, true, true, false, false, false, false, false, false, false, false, false, false, false, false, false, false] rfl rfl (any_of HT_.out (by kernel_rfl)) (fun _ _ _ h => h) (Or.inl ⟨by rfl, ?_⟩) ?_ ?_
                                      rotate_left
                                      · intro w'
                                        go_simp
                                        with_reducible rfl
                                      rotate_left
                                      · simp only [Act.put, List.setIfInBounds_toArray, List.set_cons_zero, List.set_cons_succ, i64_w, i32_w]
                                        rfl
                                      refine pure_ (i := 38) (N := some 95) (v := ?_) (a' := ?_) #[true, true, true, true, true, true, true, true, true, true, true, true, true, true, true, true, true, true, true, true, true, true, true, true, true, true, true, true, true, true, true, true, true, true, true, true, true, true, true, false, false, false, false, false, false, false, false, false, false, false, false, false] rfl rfl (any_of HT_.out (by kernel_rfl)) (fun _ _ _ h => h) (Or.inl ⟨by rfl, ?_⟩) ?_ ?_
                                      rotate_left
                                      · intro w'
                                        go_simp
                                        with_reducible rfl
                                      rotate_left
                                      · simp only [Act.put, List.setIfInBounds_toArray, List.set_cons_zero, List.set_cons_succ, i64_w, i32_w]
                                        rfl
                                      refine pure_ (i := 39) (N := some 96) (v := ?_) (a' := ?_) #[true, true, true, true, true, true, true, true, true, true, true, true, true, true, true, true, true, true, true, true, true, true, true, true, true, true, true, true, true, true, true, true, true, true, true, true, true, true, true, true, false, false, false, false, false, false, false, false, false, false, false, false] rfl rfl (any_of HT_.out (by kernel_rfl)) (fun _ _ _ h => h) (Or.inl ⟨by rfl, ?_⟩) ?_ ?_
                                      rotate_left
                                      · intro w'
                                        go_simp
                                        with_reducible rfl
                                      rotate_left
                                      · simp only [Act.put, List.setIfInBounds_toArray, List.set_cons_zero, List.set_cons_succ, i64_w, i32_w]
                                        rfl
                                      refine one_ (i := 40) (N := some 97) #[true, true, true, true, true, true, true, true, true, true, true, true, true, true, true, true, true, true, true, true, true, true, true, true, true, true, true, true, true, true, true, true, true, true, true, true, true, true, true, true, true, false, false, false, false, false, false, false, false, false, false, false] rfl rfl (one_of HT_.out (by kernel_rfl)) (by decide) (fun K hK => ?_)
                                      refine goes_ Try.func14 (by kernel_rfl) rfl #[.slice Ao66 y197.length co66, .slice Ao64 y201.length co64] (by rfl) rfl rfl (by (try simp only [List.map_toArray, List.map_cons, List.map_nil]); first | done | rfl | (simp only [List.length_drop, List.length_take]; rfl)) ?_
                                      with_reducible refine (cellplaneref01_SameBytes.calls _ _ y197 _ _ y201 true _ ?side1 ?side2 ?side3 ?side4 A41.out).mono ?_
                                      (case side1 => repeat (first | exact (by repeat (first | (with_reducible exact HR200.out) | (with_reducible refine Kd.C_alloc ?_ _) | (with_reducible refine Kd.C_drewN ?_ _) | (with_reducible refine Kd.C_drew ?_) | exact HR200.out)) | (with_reducible refine Kd.C_alloc ?_ _) | (with_reducible refine Kd.C_drewN ?_ _) | (with_reducible refine Kd.C_drew ?_)))
                                      (case side2 => exact HC200.out)
                                      (case side3 => repeat (first | exact (by repeat (first | (with_reducible exact HR204.out) | (with_reducible refine Kd.C_alloc ?_ _) | (with_reducible refine Kd.C_drewN ?_ _) | (with_reducible refine Kd.C_drew ?_) | exact HR204.out)) | (with_reducible refine Kd.C_alloc ?_ _) | (with_reducible refine Kd.C_drewN ?_ _) | (with_reducible refine Kd.C_drew ?_)))
                                      (case side4 => exact HC204.out)
                                      rintro e w' ⟨rfl, ⟨nd, rfl⟩⟩
                                      refine ⟨_, rfl, ?_⟩
                                      have q72 : ((ji14) : Int) ≤ ((t183.length : Int) : Int) := of_decide_eq_true (by first | (with_reducible assumption) | assumption)
                                      obtain ⟨i072, hi072, _, hsz72, _⟩ := info_parts info5
                                      have hroom72 : t183.length ≤ co67 := (Kd.R_reads' HO185.out).2.1
                                      have hC72 : Kd.C (Kd.int .u8) _ Ao67 t183.length t183 := (Kd.R_reads' HO185.out).2.2
                                      have hcut72 := cut_to (P := Try.prog) 22 5 .i64 Try.underlying22 hi072 Ao67 t183.length co67 (ji14) (of_decide_eq_true (by first | (with_reducible assumption) | assumption)) q72 hroom72
                                      have hr72 := Kd.C_take (m := ((ji14) : Int).toNat) hC72 (by omega)
                                      have hy72 : y206.length = ((ji14) : Int).toNat := (by rw [Ny206.out, List.length_take]; omega)
                                      rw [← Ny206.out] at hr72
                                      rw [← hy72] at hcut72
                                      have HR209 := Aside0.mk hr72
                                      have HC209 := Aside0.mk (show y206.length ≤ co67 from by omega)
                                      clear hr72 hC72 hroom72 hi072 hsz72
                                      have KY72 := Aside0.mk hy72
                                      clear hy72
                                      have KL72 := Aside0.mk (show ((ji14) : Int).toNat ≤ t183.length from by omega)
                                      replace q72 := eq_true q72
                                      have q73 : ((ji14) : Int) ≤ ((y168.length : Int) : Int) := of_decide_eq_true (by first | (with_reducible assumption) | assumption)
                                      obtain ⟨i073, hi073, _, hsz73, _⟩ := info_parts info5
                                      have hroom73 : y168.length ≤ co64 := (Kd.R_reads' HO170.out).2.1
                                      have hC73 : Kd.C (Kd.int .u8) _ Ao64 y168.length y168 := (Kd.R_reads' HO170.out).2.2
                                      clear hcut71
                                      have hcut73 := cut_to (P := Try.prog) 22 5 .i64 Try.underlying22 hi073 Ao64 y168.length co64 (ji14) (of_decide_eq_true (by first | (with_reducible assumption) | assumption)) q73 hroom73
                                      have hr73 := Kd.C_take (m := ((ji14) : Int).toNat) hC73 (by omega)
                                      have hy73 : y210.length = ((ji14) : Int).toNat := (by rw [Ny210.out, List.length_take]; omega)
                                      rw [← Ny210.out] at hr73
                                      rw [← hy73] at hcut73
                                      have HR213 := Aside0.mk hr73
                                      have HC213 := Aside0.mk (show y210.length ≤ co64 from by omega)
                                      clear hr73 hC73 hroom73 hi073 hsz73
                                      have KY73 := Aside0.mk hy73
                                      clear hy73
                                      have KL73 := Aside0.mk (show ((ji14) : Int).toNat ≤ y168.length from by omega)
                                      replace q73 := eq_true q73
                                      refine hK.out _ _ trivial (fun hHeld => ?_)
                                      clear hK K
                                      refine norm_ (a' := ?_) ?_ ?_
                                      rotate_left
                                      · show Act.put _ (some 97) _ = _
                                        simp only [Act.put, List.setIfInBounds_toArray, List.set_cons_zero, List.set_cons_succ, i64_w, i32_w]
                                        rfl
                                      refine pure_ (i := 41) (N := some 98) (v := ?_) (a' := ?_) #[true, true, true, true, true, true, true, true, true, true, true, true, true, true, true, true, true, true, true, true, true, true, true, true, true, true, true, true, true, true, true, true, true, true, true, true, true, true, true, true, true, true, false, false, false, false, false, false, false, false, false, false] rfl rfl (any_of HT_.out (by kernel_rfl)) (fun _ _ _ h => h) (Or.inl ⟨by rfl, ?_⟩) ?_ ?_
                                      rotate_left
                                      · intro w'
                                        go_simp
                                        with_reducible rfl
                                      rotate_left
                                      · simp only [Act.put, List.setIfInBounds_toArray, List.set_cons_zero, List.set_cons_succ, i64_w, i32_w]
                                        rfl
                                      refine pure_ (i := 42) (N := some 99) (v := ?_) (a' := ?_) #[true, true, true, true, true, true, true, true, true, true, true, true, true, true, true, true, true, true, true, true, true, true, true, true, true, true, true, true, true, true, true, true, true, true, true, true, true, true, true, true, true, true, true, false, false, false, false, false, false, false, false, false] rfl rfl (any_of HT_.out (by kernel_rfl)) (fun _ _ _ h => h) (Or.inl ⟨by rfl, ?_⟩) ?_ ?_
                                      rotate_left
                                      · intro w'
                                        go_simp
                                        with_reducible rfl
                                      rotate_left
                                      · simp only [Act.put, List.setIfInBounds_toArray, List.set_cons_zero, List.set_cons_succ, i64_w, i32_w]
                                        rfl
                                      refine pure_ (i := 43) (N := some 100) (v := ?_) (a' := ?_) #[true, true, true, true, true, true, true, true, true, true, true, true, true, true, true, true, true, true, true, true, true, true, true, true, true, true, true, true, true, true, true, true, true, true, true, true, true, true, true, true, true, true, true, true, false, false, false, false, false, false, false, false] rfl rfl (any_of HT_.out (by kernel_rfl)) (fun _ _ _ h => h) (Or.inl ⟨by rfl, ?_⟩) ?_ ?_
                                      rotate_left
                                      · intro w'
                                        go_simp
                                        with_reducible rfl
                                      rotate_left
                                      · simp only [Act.put, List.setIfInBounds_toArray, List.set_cons_zero, List.set_cons_succ, i64_w, i32_w]
                                        rfl
                                      refine pure_ (i := 44) (N := some 101) (v := ?_) (a' := ?_) #[true, true, true, true, true, true, true, true, true, true, true, true, true, true, true, true, true, true, true, true, true, true, true, true, true, true, true, true, true, true, true, true, true, true, true, true, true, true, true, true, true, true, true, true, true, false, false, false, false, false, false, false] rfl rfl (any_of HT_.out (by kernel_rfl)) (fun _ _ _ h => h) (Or.inl ⟨by rfl, ?_⟩) ?_ ?_
                                      rotate_left
                                      · intro w'
                                        go_simp
                                        with_reducible rfl
                                      rotate_left
                                      · simp only [Act.put, List.setIfInBounds_toArray, List.set_cons_zero, List.set_cons_succ, i64_w, i32_w]
                                        rfl
                                      refine pure_ (i := 45) (N := some 102) (v := ?_) (a' := ?_) #[true, true, true, true, true, true, true, true, true, true, true, true, true, true, true, true, true, true, true, true, true, true, true, true, true, true, true, true, true, true, true, true, true, true, true, true, true, true, true, true, true, true, true, true, true, true, false, false, false, false, false, false] rfl rfl (any_of HT_.out (by kernel_rfl)) (fun _ _ _ h => h) (Or.inl ⟨by rfl, ?_⟩) ?_ ?_
                                      rotate_left
                                      · intro w'
                                        go_simp
                                        with_reducible rfl
                                      rotate_left
                                      · simp only [Act.put, List.setIfInBounds_toArray, List.set_cons_zero, List.set_cons_succ, i64_w, i32_w]
                                        rfl
                                      refine pure_ (i := 46) (N := some 103) (v := ?_) (a' := ?_) #[true, true, true, true, true, true, true, true, true, true, true, true, true, true, true, true, true, true, true, true, true, true, true, true, true, true, true, true, true, true, true, true, true, true, true, true, true, true, true, true, true, true, true, true, true, true, true, false, false, false, false, false] rfl rfl (any_of HT_.out (by kernel_rfl)) (fun _ _ _ h => h) (Or.inl ⟨by rfl, ?_⟩) ?_ ?_
                                      rotate_left
                                      · intro w'
                                        go_simp
                                        with_reducible rfl
                                      rotate_left
                                      · simp only [Act.put, List.setIfInBounds_toArray, List.set_cons_zero, List.set_cons_succ, i64_w, i32_w]
                                        rfl
                                      refine pure_ (i := 47) (N := some 104) (v := ?_) (a' := ?_) #[true, true, true, true, true, true, true, true, true, true, true, true, true, true, true, true, true, true, true, true, true, true, true, true, true, true, true, true, true, true, true, true, true, true, true, true, true, true, true, true, true, true, true, true, true, true, true, true, false, false, false, false] rfl rfl (any_of HT_.out (by kernel_rfl)) (fun _ _ _ h => h) (Or.inl ⟨by rfl, ?_⟩) ?_ ?_
                                      rotate_left
                                      · intro w'
                                        go_simp
                                        with_reducible rfl
                                      rotate_left
                                      · simp only [Act.put, List.setIfInBounds_toArray, List.set_cons_zero, List.set_cons_succ, i64_w, i32_w]
                                        rfl
                                      refine pure_ (i := 48) (N := some 105) (v := ?_) (a' := ?_) #[true, true, true, true, true, true, true, true, true, true, true, true, true, true, true, true, true, true, true, true, true, true, true, true, true, true, true, true, true, true, true, true, true, true, true, true, true, true, true, true, true, true, true, true, true, true, true, true, true, false, false, false] rfl rfl (any_of HT_.out (by kernel_rfl)) (fun _ _ _ h => h) (Or.inl ⟨by rfl, ?_⟩) ?_ ?_
                                      rotate_left
                                      · intro w'
                                        go_simp
                                        with_reducible rfl
                                      rotate_left
                                      · simp only [Act.put, List.setIfInBounds_toArray, List.set_cons_zero, List.set_cons_succ, i64_w, i32_w]
                                        rfl
                                      refine one_ (i := 49) (N := some 106) #[true, true, true, true, true, true, true, true, true, true, true, true, true, true, true, true, true, true, true, true, true, true, true, true, true, true, true, true, true, true, true, true, true, true, true, true, true, true, true, true, true, true, true, true, true, true, true, true, true, true, false, false] rfl rfl (one_of HT_.out (by kernel_rfl)) (by decide) (fun K hK => ?_)
                                      refine goes_ Try.func14 (by kernel_rfl) rfl #[.slice Ao67 y206.length co67, .slice Ao64 y210.length co64] (by rfl) rfl rfl (by (try simp only [List.map_toArray, List.map_cons, List.map_nil]); first | done | rfl | (simp only [List.length_drop, List.length_take]; rfl)) ?_
                                      with_reducible refine (cellplaneref01_SameBytes.calls _ _ y206 _ _ y210 t214 _ ?side1 ?side2 ?side3 ?side4 A47.out).mono ?_
                                      (case side1 => repeat (first | exact (by repeat (first | (with_reducible exact HR209.out) | (with_reducible refine Kd.C_alloc ?_ _) | (with_reducible refine Kd.C_drewN ?_ _) | (with_reducible refine Kd.C_drew ?_) | exact HR209.out)) | (with_reducible refine Kd.C_alloc ?_ _) | (with_reducible refine Kd.C_drewN ?_ _) | (with_reducible refine Kd.C_drew ?_)))
                                      (case side2 => exact HC209.out)
                                      (case side3 => repeat (first | exact (by repeat (first | (with_reducible exact HR213.out) | (with_reducible refine Kd.C_alloc ?_ _) | (with_reducible refine Kd.C_drewN ?_ _) | (with_reducible refine Kd.C_drew ?_) | exact HR213.out)) | (with_reducible refine Kd.C_alloc ?_ _) | (with_reducible refine Kd.C_drewN ?_ _) | (with_reducible refine Kd.C_drew ?_)))
                                      (case side4 => exact HC213.out)
                                      rintro e w' ⟨rfl, ⟨nd, rfl⟩⟩
                                      refine ⟨_, rfl, ?_⟩
                                      refine hK.out _ _ trivial (fun hHeld => ?_)
                                      clear hK K
                                      refine norm_ (a' := ?_) ?_ ?_
                                      rotate_left
                                      · show Act.put _ (some 106) _ = _
                                        simp only [Act.put, List.setIfInBounds_toArray, List.set_cons_zero, List.set_cons_succ, i64_w, i32_w]
                                        rfl
                                      refine pure_ (i := 50) (N := some 107) (v := ?_) (a' := ?_) #[true, true, true, true, true, true, true, true, true, true, true, true, true, true, true, true, true, true, true, true, true, true, true, true, true, true, true, true, true, true, true, true, true, true, true, true, true, true, true, true, true, true, true, true, true, true, true, true, true, true, true, false] rfl rfl (any_of HT_.out (by kernel_rfl)) (fun _ _ _ h => h) (Or.inl ⟨by rfl, ?_⟩) ?_ ?_
                                      rotate_left
                                      · intro w'
                                        go_simp
                                        with_reducible rfl
                                      rotate_left
                                      · simp only [Act.put, List.setIfInBounds_toArray, List.set_cons_zero, List.set_cons_succ, i64_w, i32_w]
                                        rfl
                                      refine pure_ (i := 51) (N := some 8) (v := ?_) (a' := ?_) #[true, true, true, true, true, true, true, true, true, true, true, true, true, true, true, true, true, true, true, true, true, true, true, true, true, true, true, true, true, true, true, true, true, true, true, true, true, true, true, true, true, true, true, true, true, true, true, true, true, true, true, true] rfl rfl (any_of HT_.out (by kernel_rfl)) (fun _ _ _ h => h) (Or.inl ⟨by rfl, ?_⟩) ?_ ?_
                                      rotate_left
                                      · intro w'
                                        go_simp
                                        with_reducible rfl
                                      rotate_left
                                      · simp only [Act.put, List.setIfInBounds_toArray, List.set_cons_zero, List.set_cons_succ, i64_w, i32_w]
                                        rfl
                                      refine done_ (done_of HT_.out (by kernel_rfl)) ?_
                                      try go_wp2
                                      go_ret
                                      exact ⟨by first | rfl | (simp [errW_none, errW_some] <;> rfl) | (simp only [← hji14]; first | rfl | (simp [errW_none, errW_some] <;> rfl)) | (simp [*, errW_none, errW_some] <;> rfl), by repeat (first | (with_reducible first | exact HB.out | apply below_alloc | apply pw_below_drewN | apply below_drew1) | exact HB.out)⟩
                                    · rw [if_neg c44] at H
                                      exact absurd H (by simp)
                                  · replace c42 := Bool.eq_false_iff.mpr c42
                                    subst c42
                                    have H1 : (some false) = some r := by rw [if_neg (show ¬ (false = true) by decide)] at H; exact H
                                    clear H
                                    have H := H1
                                    clear H1
                                    rw [hT] at H
                                    exact absurd H (by simp)
                                · rw [if_neg c38] at H
                                  exact absurd H (by simp)
                              · replace c36 := Bool.eq_false_iff.mpr c36
                                subst c36
                                have H1 : (some false) = some r := by rw [if_neg (show ¬ (false = true) by decide)] at H; exact H
                                clear H
                                have H := H1
                                clear H1
                                rw [hT] at H
                                exact absurd H (by simp)
                            · rw [if_neg c34] at H
                              exact absurd H (by simp)
                          · rw [if_neg c32] at H
                            exact absurd H (by simp)
                        · rw [if_neg c30] at H
                          have c30b0 : decide ((ji14) < (t183.length : Int)) = false := decide_eq_false c30
                          clear c30
                          rw [hT] at H
                          exact absurd H (by simp)
                      · rw [if_neg c29] at H
                        have c29b0 : decide ((ji14) < (t176.length : Int)) = false := decide_eq_false c29
                        clear c29
                        rw [hT] at H
                        exact absurd H (by simp)
                    · rw [if_neg c28] at H
                      have c28b0 : decide ((ji14) < (t172.length : Int)) = false := decide_eq_false c28
                      clear c28
                      rw [hT] at H
                      exact absurd H (by simp)
                  · replace c27 := Bool.eq_false_iff.mpr c27
                    subst c27
                    have H1 : (some false) = some r := by rw [if_neg (show ¬ (false = true) by decide)] at H; exact H
                    clear H
                    have H := H1
                    clear H1
                    rw [hT] at H
                    exact absurd H (by simp)
                · replace c25 := Bool.eq_false_iff.mpr c25
                  subst c25
                  have H1 : (some false) = some r := by rw [if_neg (show ¬ (false = true) by decide)] at H; exact H
                  clear H
                  have H := H1
                  clear H1
                  rw [hT] at H
                  exact absurd H (by simp)
              · rw [if_neg c16] at H
                exact absurd H (by simp)
            · rw [if_neg c15] at H
              exact absurd H (by simp)
        · rw [if_neg c12] at H
          exact absurd H (by simp)

/-- THE ONE PURE STATEMENT of cellplanelaw01_WireAppends: yours. -/
def cellplanelaw01_WireAppends.Pure : Prop := ∀ (l0 : List Int) (a1 : Int) (a2 : Int) (a3 : ByteArray), l0.length ≤ maxLen → l0.length * 1 ≤ 140737488351232 → (∀ x ∈ l0, (Lit.int .u8 x).wf = true) → (Lit.int .i64 a1).wf = true → (Lit.int .i64 a2).wf = true → a3.size ≤ 140737488351232 → ∃ k, cellplanelaw01_WireAppends.f k l0 a1 a2 a3 = some true
theorem cellplanelaw01_WireAppends.walk (P : cellplanelaw01_WireAppends.Pure) (a0 : Option Addr) (len0 cap0 : Nat) (z0 : List Int) (a1 : Int) (a2 : Int) (a3 : ByteArray) (w : World) (w0 : (a0 = none ∧ len0 = 0 ∧ cap0 = 0 ∧ z0 = []) ∨ ∃ x, a0 = some x ∧ len0 ≤ cap0 ∧ cap0 ≤ maxLen ∧ z0.length = cap0 ∧ (∀ i, i < z0.length → w.cell? (x.add i) = some (.int .u8 (z0.getD i 0))) ∧ ∀ n ∈ z0, (Lit.int .u8 n).wf = true) (y0 : len0 * 1 ≤ 140737488351232) (w1 : (Lit.int .i64 a1).wf = true) (w2 : (Lit.int .i64 a2).wf = true) (w3 : a3.size ≤ 140737488351232) :
    Calls Try.prog 10 #[.slice a0 len0 cap0, .int .i64 a1, .int .i64 a2, .string a3] w fun e w' => e = .returned (.bool true) ∧ Below w.heap.size w w' := by
  obtain ⟨l0, rfl, hr0, hm0, hw0, hc0⟩ := ReadsInt.ofRowC w0
  obtain ⟨k, h⟩ := P l0 a1 a2 a3 hm0 y0 hw0 w1 w2 w3
  refine (cellplanelaw01_WireAppends.calls k _ _ l0 a1 a2 a3 true w (Kd.C_of_reads (d := (0 : Int)) (h1 := fun _ => rfl) hr0) hc0 rfl h).mono ?_
  rintro e w' ⟨rfl, hd⟩
  exact ⟨rfl, hd⟩

end Go.Proofs.Ytgbdabhjcimbbaa.QWireAppends
