-- Written by a program of this session's own (wip/myprint.sh). Lean checks it.
import Derived.Test.YtfoaaglcanogpaaQProbeHoldsx0
import Derived.Test.YtfoaaglcanogpaaQProbeHoldsx1
namespace Go.Proofs.Ytfoaaglcanogpaa.QProbeHolds
open Go.RowKit Go.Proofs.YtfoaaglcanogpaaW.PrintWords Go.Proofs.YtfoaaglcanogpaaW.PrintLast Go.Proofs.YtfoaaglcanogpaaW.PrintMore
attribute [local go_sem] max2_int min2_int max_two min_two max_three min_three max_four min_four   -- for this text's walks alone
set_option linter.unusedVariables false
set_option linter.unusedSimpArgs false

/-! ### cellplanelaw22_near: function 13 -/
def cellplanelaw22_near.f (a0_0 : Int) (a0_1 : Int) : Option (Int × Int) := (cellplanemake_Between.f a0_0 1 4).bind fun t134 => ((cellplanemake_Between.f a0_1 1 4).bind fun t135 => (some (t134, t135)))
def cellplanelaw22_near.T1 : Bool × List (List Nat × List Nat) := (true, [([], []), ([0], [0]), ([1], [1]), ([], []), ([3], [3]), ([4, 2], [4]), ([2, 5], [2, 5]), ([6, 5, 0, 1, 2, 3, 4, 5, 6], [6])])
def cellplanelaw22_near.B1 : List Nat := [0, 1, 3, 0, 8, 31, 63, 127]
theorem cellplanelaw22_near.tab1 : rtab .any (opsOf Try.f13 1) = cellplanelaw22_near.T1 := by kernel_rfl
theorem cellplanelaw22_near.bits1 : waitsOk cellplanelaw22_near.T1.2 cellplanelaw22_near.B1 = true := by kernel_rfl
set_option maxHeartbeats 8000000 in
set_option maxRecDepth 100000 in
theorem cellplanelaw22_near.calls (a0_0 : Int) (a0_1 : Int) (r1 : Int) (r2 : Int) (w : World) (h : cellplanelaw22_near.f a0_0 a0_1 = some (r1, r2)) :
    Calls Try.prog 13 #[.agg #[.int .i64 a0_0, .int .i64 a0_1]] w fun e w' => e = .returned (.agg #[.int .i64 r1, .int .i64 r2]) ∧ Below w.heap.size w w' := by
  have hu23 := Try.underlying23
  have HB := Aside0.mk (Below.refl w.heap.size w)
  have H : ((cellplanemake_Between.f a0_0 1 4).bind fun t134 => ((cellplanemake_Between.f a0_1 1 4).bind fun t135 => (some (t134, t135)))) = some (r1, r2) := h
  clear h
  replace H := Option.bind_eq_some_iff.mp H
  obtain ⟨t134, A20, H⟩ := H
  replace H : ((cellplanemake_Between.f a0_1 1 4).bind fun t135 => (some (t134, t135))) = some (r1, r2) := H
  have A2 := Aside0.mk A20
  clear A20
  replace H := Option.bind_eq_some_iff.mp H
  obtain ⟨t135, A30, H⟩ := H
  replace H : (some (t134, t135)) = some (r1, r2) := H
  have A3 := Aside0.mk A30
  clear A30
  simp only [Option.some.injEq, Prod.mk.injEq] at H
  obtain ⟨rfl, rfl⟩ := H
  go_enter Try.func13, Try.ntmps13
  try go_wp2_with (first | ((with_reducible refine gate_dst (N := 1) rfl ?_); refine box_event ?hg (N := 1) ?hd (cs := #[.int .i64 a0_0, .int .i64 a0_1]) (t := 23) ?hr ?_; (case hd => rfl); (case hg => rfl); (case hr => first | (go_simp; done) | (go_simp; rfl)); intro gb132 hg w4 hbox hb; have n0_ := Aside0.mk (below_step (by repeat (first | (with_reducible first | exact HB.out | apply below_alloc | apply pw_below_drewN | apply below_drew1) | exact HB.out)) hb); have n1_ := Aside0.mk (hbox); have n2_ := Aside0.mk ((by rw [hg]; exact (below_size (by repeat (first | (with_reducible first | exact HB.out | apply below_alloc | apply pw_below_drewN | apply below_drew1) | exact HB.out))) : w.heap.size ≤ gb132)); have n3_ := Aside0.mk ((by rw [hg]; exact (below_size (by repeat (first | (with_reducible first | exact HB.out | apply below_alloc | apply pw_below_drewN | apply below_drew1) | exact HB.out))) : w.heap.size ≤ gb132)); clear HB; have HB := n0_; have BK132 := n1_; have GW132 := n2_; have GE132 := n3_; clear n0_ n1_ n2_ n3_; clear hb hbox hg) | ((with_reducible refine gate_dst (N := 2) rfl ?_); refine box_event ?hg (N := 2) ?hd (cs := #[.int .i64 0, .int .i64 0]) (t := 23) ?hr ?_; (case hd => rfl); (case hg => rfl); (case hr => first | (go_simp; done) | (go_simp; rfl)); intro gb133 hg w5 hbox hb; have n0_ := Aside0.mk (blk_below (g := gb132) (o := .cells #[.int .i64 a0_0, .int .i64 a0_1] 23 (0, 0)) (by (with_reducible repeat (first | refine blk_drewN ?_ _ | refine blk_drew ?_ | refine blk_alloc ?_ _)); exact BK132.out) hb); have n1_ := Aside0.mk (below_step (by repeat (first | (with_reducible first | exact HB.out | apply below_alloc | apply pw_below_drewN | apply below_drew1 | refine below_set ?_ GE132.out) | exact HB.out)) hb); have n2_ := Aside0.mk (hbox); have n3_ := Aside0.mk ((by rw [hg]; exact (below_size (by repeat (first | (with_reducible first | exact HB.out | apply below_alloc | apply pw_below_drewN | apply below_drew1 | refine below_set ?_ GE132.out) | exact HB.out))) : w.heap.size ≤ gb133)); have n4_ := Aside0.mk ((by rw [hg]; exact (below_size (by repeat (first | (with_reducible first | exact HB.out | apply below_alloc | apply pw_below_drewN | apply below_drew1 | refine below_set ?_ GE132.out) | exact HB.out))) : w.heap.size ≤ gb133)); have n5_ := Aside0.mk ((by rw [hg]; exact Nat.ne_of_lt (blk_lt (g := gb132) (o := .cells #[.int .i64 a0_0, .int .i64 a0_1] 23 (0, 0)) (by (with_reducible repeat (first | refine blk_drewN ?_ _ | refine blk_drew ?_ | refine blk_alloc ?_ _)); exact BK132.out)) : gb132 ≠ gb133)); have n6_ := Aside0.mk ((by rw [hg]; exact Nat.ne_of_gt (blk_lt (g := gb132) (o := .cells #[.int .i64 a0_0, .int .i64 a0_1] 23 (0, 0)) (by (with_reducible repeat (first | refine blk_drewN ?_ _ | refine blk_drew ?_ | refine blk_alloc ?_ _)); exact BK132.out)) : gb133 ≠ gb132)); clear BK132; clear HB; have BK132 := n0_; have HB := n1_; have BK133 := n2_; have GW133 := n3_; have GE133 := n4_; have NB132_133 := n5_; have NB133_132 := n6_; clear n0_ n1_ n2_ n3_ n4_ n5_ n6_; clear hb hbox hg))
  have n0_ := Aside0.mk (blk_drew BK132.out)
  have n1_ := Aside0.mk (blk_drew BK133.out)
  have n2_ := Aside0.mk (below_drew1 HB.out)
  clear BK132
  clear BK133
  clear HB
  have BK132 := n0_
  have BK133 := n1_
  have HB := n2_
  clear n0_ n1_ n2_
  refine start_ (n := 8) (S := fun w' => w'.cell? ⟨gb132, 0, none⟩ = some (.int .i64 a0_0) ∧ w'.cell? ⟨gb132, 1, none⟩ = some (.int .i64 a0_1)) (ds := []) #[false, false, false, false, false, false, false, false] (by kernel_rfl) rfl rfl ⟨(blk_cell BK132.out 0).trans rfl, (blk_cell BK132.out 1).trans rfl⟩ (fun hHeld => ?_); refine with_tabW cellplanelaw22_near.tab1 cellplanelaw22_near.bits1 (fun HT_ HW_ => ?_)
  generalize w5.drew = w6 at BK132 BK133 HB hHeld ⊢
  refine pure_ (i := 0) (N := some 3) (v := ?_) (a' := ?_) #[true, false, false, false, false, false, false, false] rfl rfl (any_of HT_.out (by kernel_rfl)) (fun _ _ _ h => h) (Or.inl ⟨by rfl, ?_⟩) ?_ ?_
  rotate_left
  · intro w'
    go_simp
    with_reducible rfl
  rotate_left
  · simp only [Act.put, List.setIfInBounds_toArray, List.set_cons_zero, List.set_cons_succ, i64_w, i32_w]
    rfl
  refine pure_ (i := 3) (N := some 6) (v := ?_) (a' := ?_) #[true, false, false, true, false, false, false, false] rfl rfl (any_of HT_.out (by kernel_rfl)) (fun _ _ _ h => h) (Or.inl ⟨by rfl, ?_⟩) ?_ ?_
  rotate_left
  · intro w'
    go_simp
    with_reducible rfl
  rotate_left
  · simp only [Act.put, List.setIfInBounds_toArray, List.set_cons_zero, List.set_cons_succ, i64_w, i32_w]
    rfl
  refine take_ (i := 1) (N := some 4) (v := ?_) (a' := ?_) #[true, true, false, true, false, false, false, false] rfl rfl (take_ofW HT_.out HW_.out (by kernel_rfl)) (fun _ _ _ h => h) (Or.inl ⟨by rfl, ?_⟩) hHeld ?_ ?_
  rotate_left
  · rintro w' ⟨s0, s1⟩
    go_simp
    with_reducible rfl
  rotate_left
  · simp only [Act.put, List.setIfInBounds_toArray, List.set_cons_zero, List.set_cons_succ, i64_w, i32_w]
    rfl
  refine take_ (i := 4) (N := some 7) (v := ?_) (a' := ?_) #[true, true, false, true, true, false, false, false] rfl rfl (take_ofW HT_.out HW_.out (by kernel_rfl)) (fun _ _ _ h => h) (Or.inl ⟨by rfl, ?_⟩) hHeld ?_ ?_
  rotate_left
  · rintro w' ⟨s0, s1⟩
    go_simp
    with_reducible rfl
  rotate_left
  · simp only [Act.put, List.setIfInBounds_toArray, List.set_cons_zero, List.set_cons_succ, i64_w, i32_w]
    rfl
  refine one_ (i := 2) (N := some 5) #[true, true, true, true, true, false, false, false] rfl rfl (one_of HT_.out (by kernel_rfl)) (by decide) (fun K hK => ?_)
  refine goes_ Try.func23 (by kernel_rfl) rfl #[.int .i64 a0_0, .int .i64 1, .int .i64 4] (by rfl) rfl rfl (by (try simp only [List.map_toArray, List.map_cons, List.map_nil]); first | done | rfl | (simp only [List.length_drop, List.length_take]; rfl)) ?_
  with_reducible refine (cellplanemake_Between.calls a0_0 1 4 t134 _ A2.out).mono ?_
  rintro e w' ⟨rfl, ⟨nd, rfl⟩⟩
  refine ⟨_, rfl, ?_⟩
  refine hK.out _ _ ⟨(blk_cell BK132.out 0).trans rfl, (blk_cell BK132.out 1).trans rfl⟩ (fun hHeld => ?_)
  clear hK K
  refine norm_ (a' := ?_) ?_ ?_
  rotate_left
  · show Act.put _ (some 5) _ = _
    simp only [Act.put, List.setIfInBounds_toArray, List.set_cons_zero, List.set_cons_succ, i64_w, i32_w]
    rfl
  refine one_ (i := 5) (N := some 8) #[true, true, true, true, true, true, false, false] rfl rfl (one_of HT_.out (by kernel_rfl)) (by decide) (fun K hK => ?_)
  refine goes_ Try.func23 (by kernel_rfl) rfl #[.int .i64 a0_1, .int .i64 1, .int .i64 4] (by rfl) rfl rfl (by (try simp only [List.map_toArray, List.map_cons, List.map_nil]); first | done | rfl | (simp only [List.length_drop, List.length_take]; rfl)) ?_
  with_reducible refine (cellplanemake_Between.calls a0_1 1 4 t135 _ A3.out).mono ?_
  rintro e w' ⟨rfl, ⟨nd, rfl⟩⟩
  refine ⟨_, rfl, ?_⟩
  refine hK.out _ _ ⟨(blk_cell BK132.out 0).trans rfl, (blk_cell BK132.out 1).trans rfl⟩ (fun hHeld => ?_)
  clear hK K
  refine norm_ (a' := ?_) ?_ ?_
  rotate_left
  · show Act.put _ (some 8) _ = _
    simp only [Act.put, List.setIfInBounds_toArray, List.set_cons_zero, List.set_cons_succ, i64_w, i32_w]
    rfl
  refine pure_ (i := 6) (N := some 9) (v := ?_) (a' := ?_) #[true, true, true, true, true, true, true, false] rfl rfl (any_of HT_.out (by kernel_rfl)) (fun _ _ _ h => h) (Or.inl ⟨by rfl, ?_⟩) ?_ ?_
  rotate_left
  · intro w'
    go_simp
    with_reducible rfl
  rotate_left
  · simp only [Act.put, List.setIfInBounds_toArray, List.set_cons_zero, List.set_cons_succ, i64_w, i32_w]
    rfl
  refine one_ (i := 7) (N := none) #[true, true, true, true, true, true, true, true] rfl rfl (one_of HT_.out (by kernel_rfl)) (by decide) (fun K hK => ?_)
  have hs7 : w6.cell? ⟨gb133, 0, none⟩ = some (.int .i64 0) := (blk_cell BK133.out 0).trans rfl
  have hfs7 := blk_frozen BK133.out 0
  have hns7_0 := NB132_133.out
  have hms7_0 := NB133_132.out
  have hs8 : w6.cell? ⟨gb133, 1, none⟩ = some (.int .i64 0) := (blk_cell BK133.out 1).trans rfl
  have hfs8 := blk_frozen BK133.out 1
  have hns8_0 := NB132_133.out
  have hms8_0 := NB133_132.out
  refine skip_ (w1 := ?_) (by rfl) rfl ?_ ?_
  rotate_left
  · go_simp
    rfl
  refine hK.out _ _ ⟨((cell_far (p := ⟨gb133, _, none⟩) NB132_133.out _).trans (((cell_far (p := ⟨gb133, _, none⟩) NB132_133.out _).trans (hHeld.1)))), ((cell_far (p := ⟨gb133, _, none⟩) NB132_133.out _).trans (((cell_far (p := ⟨gb133, _, none⟩) NB132_133.out _).trans (hHeld.2))))⟩ (fun hHeld => ?_)
  clear hK K
  refine done_ (done_of HT_.out (by kernel_rfl)) ?_
  try go_wp2
  refine bodyPost_ret (results_cell_row rfl _ _ gb133 23 #[.int .i64 t134, .int .i64 t135] (0, 0) _ rfl (by (with_reducible repeat (first | refine blk_drewN ?_ _ | refine blk_drew ?_ | refine blk_alloc ?_ _)); refine blk_put (cs := #[.int .i64 t134, .int .i64 0]) ?_ 1 _ rfl; (with_reducible repeat (first | refine blk_drewN ?_ _ | refine blk_drew ?_ | refine blk_alloc ?_ _)); refine blk_put (cs := #[.int .i64 0, .int .i64 0]) ?_ 0 _ rfl; (with_reducible repeat (first | refine blk_drewN ?_ _ | refine blk_drew ?_ | refine blk_alloc ?_ _)); exact BK133.out) Try.underlying23 rfl (by kernel_rfl)) rfl ?_
  exact ⟨by first | rfl | (simp [errW_none, errW_some] <;> rfl) | (simp [*, errW_none, errW_some] <;> rfl), by repeat (first | (with_reducible first | exact HB.out | apply below_alloc | apply pw_below_drewN | apply below_drew1 | refine below_set ?_ GE132.out | refine below_set ?_ GE133.out) | exact HB.out)⟩

/-! ### cellplanelaw22_ProbeHolds: function 6 -/
mutual
def cellplanelaw22_ProbeHolds.j0 : Nat → List Bool → List Bool → Bool → Int → Int → Option (Bool)
  | 0, _, _, _, _, _ => none
  | k + 1, x1, x5, x35, x137000, x137001 => if x35 = true then (some false) else (cellplanelaw22_ProbeHolds.l0 k x1 x5 false 0 x137000 x137001)
def cellplanelaw22_ProbeHolds.l0 : Nat → List Bool → List Bool → Bool → Int → Int → Int → Option (Bool)
  | 0, _, _, _, _, _, _ => none
  | k + 1, x1, x5, x7, x8, x137000, x137001 => if x8 < (x5.length : Int) then (if 0 ≤ x8 then (if ((rdOf false x5 x8) == x7) = true then (cellplanelaw22_ProbeHolds.l0 k x1 x5 x7 (wrap64 (x8 + 1)) x137000 x137001) else (if x7 = true then (cellplanelaw22_ProbeHolds.j2 k x1 x5 x7 x8 x137001 x137000 x137001) else (cellplanelaw22_ProbeHolds.j2 k x1 x5 x7 x8 x137000 x137000 x137001))) else (none)) else (some true)
def cellplanelaw22_ProbeHolds.j2 : Nat → List Bool → List Bool → Bool → Int → Int → Int → Int → Option (Bool)
  | 0, _, _, _, _, _, _, _ => none
  | k + 1, x1, x5, x7, x8, x9, x137000, x137001 => cellplanelaw22_ProbeHolds.l1 k x1 x5 x7 x8 x9 0 x137000 x137001
def cellplanelaw22_ProbeHolds.l1 : Nat → List Bool → List Bool → Bool → Int → Int → Int → Int → Int → Option (Bool)
  | 0, _, _, _, _, _, _, _, _ => none
  | k + 1, x1, x5, x7, x8, x9, x10, x137000, x137001 => if x10 < x9 then (if (wrap64 (x8 - x10)) < 0 then (some false) else (if 0 ≤ (wrap64 (x8 - x10)) then (if (wrap64 (x8 - x10)) < (x1.length : Int) then (if ((rdOf false x1 (wrap64 (x8 - x10))) != x7) = true then (some false) else (cellplanelaw22_ProbeHolds.l1 k x1 x5 x7 x8 x9 (wrap64 (x10 + 1)) x137000 x137001)) else (none)) else (none))) else (if 0 ≤ x8 then (if x8 < (x5.length : Int) then (cellplanelaw22_ProbeHolds.l0 k x1 x5 (rdOf false x5 x8) (wrap64 (x8 + 1)) x137000 x137001) else (none)) else (none))
end
def cellplanelaw22_ProbeHolds.f (k : Nat) (a0_0 : Int) (a0_1 : Int) (l1 : List Bool) : Option (Bool) := if (l1.length : Int) > 500 then ((cellplanelaw22_awake.f k).bind fun t137 => (some t137)) else ((cellplanelaw22_near.f a0_0 a0_1).bind fun bt138 => ((probe_Verdicts.f bt138.1 bt138.2 l1).bind fun bt140 => ((cellplanelaw22_awake.f k).bind fun t144 => (if t144 = true then (if bt140.2 = 0 then (cellplanelaw22_ProbeHolds.j0 k l1 bt140.1 ((bt140.1.length : Int) != (l1.length : Int)) bt138.1 bt138.2) else (cellplanelaw22_ProbeHolds.j0 k l1 bt140.1 true bt138.1 bt138.2)) else (cellplanelaw22_ProbeHolds.j0 k l1 bt140.1 true bt138.1 bt138.2)))))
theorem cellplanelaw22_ProbeHolds.mono_l : ∀ k, (∀ y0 y1 y2 y3 y4, LeO (cellplanelaw22_ProbeHolds.j0 k y0 y1 y2 y3 y4) (cellplanelaw22_ProbeHolds.j0 (k + 1) y0 y1 y2 y3 y4)) ∧ (∀ y0 y1 y2 y3 y4 y5, LeO (cellplanelaw22_ProbeHolds.l0 k y0 y1 y2 y3 y4 y5) (cellplanelaw22_ProbeHolds.l0 (k + 1) y0 y1 y2 y3 y4 y5)) ∧ (∀ y0 y1 y2 y3 y4 y5 y6, LeO (cellplanelaw22_ProbeHolds.j2 k y0 y1 y2 y3 y4 y5 y6) (cellplanelaw22_ProbeHolds.j2 (k + 1) y0 y1 y2 y3 y4 y5 y6)) ∧ (∀ y0 y1 y2 y3 y4 y5 y6 y7, LeO (cellplanelaw22_ProbeHolds.l1 k y0 y1 y2 y3 y4 y5 y6 y7) (cellplanelaw22_ProbeHolds.l1 (k + 1) y0 y1 y2 y3 y4 y5 y6 y7))
  | 0 => ⟨fun _ _ _ _ _ r h => by simp [cellplanelaw22_ProbeHolds.j0] at h, fun _ _ _ _ _ _ r h => by simp [cellplanelaw22_ProbeHolds.l0] at h, fun _ _ _ _ _ _ _ r h => by simp [cellplanelaw22_ProbeHolds.j2] at h, fun _ _ _ _ _ _ _ _ r h => by simp [cellplanelaw22_ProbeHolds.l1] at h⟩
  | k + 1 => by
    obtain ⟨ih0, ih1, ih2, ih3⟩ := cellplanelaw22_ProbeHolds.mono_l k
    refine ⟨?_, ?_, ?_, ?_⟩
    · intro y0 y1 y2 y3 y4
      unfold cellplanelaw22_ProbeHolds.j0
      repeat' first
      | (with_reducible exact ih0 _ _ _ _ _)
      | (with_reducible exact ih1 _ _ _ _ _ _)
      | (with_reducible exact ih2 _ _ _ _ _ _ _)
      | (with_reducible exact ih3 _ _ _ _ _ _ _ _)
      | (with_reducible exact cellplanelaw22_awake.mono _)
      | (with_reducible exact LeO.refl _)
      | (with_reducible exact LeO.none _)
      | (with_reducible refine LeO.ite ?_ ?_)
      | (with_reducible refine LeO.bind ?_ (fun _ => ?_))
      | exact ih0 _ _ _ _ _
      | exact ih1 _ _ _ _ _ _
      | exact ih2 _ _ _ _ _ _ _
      | exact ih3 _ _ _ _ _ _ _ _
      | exact cellplanelaw22_awake.mono _
      | exact LeO.none _
      | refine LeO.ite ?_ ?_
      | refine LeO.bind ?_ (fun _ => ?_)
    · intro y0 y1 y2 y3 y4 y5
      unfold cellplanelaw22_ProbeHolds.l0
      repeat' first
      | (with_reducible exact ih0 _ _ _ _ _)
      | (with_reducible exact ih1 _ _ _ _ _ _)
      | (with_reducible exact ih2 _ _ _ _ _ _ _)
      | (with_reducible exact ih3 _ _ _ _ _ _ _ _)
      | (with_reducible exact cellplanelaw22_awake.mono _)
      | (with_reducible exact LeO.refl _)
      | (with_reducible exact LeO.none _)
      | (with_reducible refine LeO.ite ?_ ?_)
      | (with_reducible refine LeO.bind ?_ (fun _ => ?_))
      | exact ih0 _ _ _ _ _
      | exact ih1 _ _ _ _ _ _
      | exact ih2 _ _ _ _ _ _ _
      | exact ih3 _ _ _ _ _ _ _ _
      | exact cellplanelaw22_awake.mono _
      | exact LeO.none _
      | refine LeO.ite ?_ ?_
      | refine LeO.bind ?_ (fun _ => ?_)
    · intro y0 y1 y2 y3 y4 y5 y6
      unfold cellplanelaw22_ProbeHolds.j2
      repeat' first
      | (with_reducible exact ih0 _ _ _ _ _)
      | (with_reducible exact ih1 _ _ _ _ _ _)
      | (with_reducible exact ih2 _ _ _ _ _ _ _)
      | (with_reducible exact ih3 _ _ _ _ _ _ _ _)
      | (with_reducible exact cellplanelaw22_awake.mono _)
      | (with_reducible exact LeO.refl _)
      | (with_reducible exact LeO.none _)
      | (with_reducible refine LeO.ite ?_ ?_)
      | (with_reducible refine LeO.bind ?_ (fun _ => ?_))
      | exact ih0 _ _ _ _ _
      | exact ih1 _ _ _ _ _ _
      | exact ih2 _ _ _ _ _ _ _
      | exact ih3 _ _ _ _ _ _ _ _
      | exact cellplanelaw22_awake.mono _
      | exact LeO.none _
      | refine LeO.ite ?_ ?_
      | refine LeO.bind ?_ (fun _ => ?_)
    · intro y0 y1 y2 y3 y4 y5 y6 y7
      unfold cellplanelaw22_ProbeHolds.l1
      repeat' first
      | (with_reducible exact ih0 _ _ _ _ _)
      | (with_reducible exact ih1 _ _ _ _ _ _)
      | (with_reducible exact ih2 _ _ _ _ _ _ _)
      | (with_reducible exact ih3 _ _ _ _ _ _ _ _)
      | (with_reducible exact cellplanelaw22_awake.mono _)
      | (with_reducible exact LeO.refl _)
      | (with_reducible exact LeO.none _)
      | (with_reducible refine LeO.ite ?_ ?_)
      | (with_reducible refine LeO.bind ?_ (fun _ => ?_))
      | exact ih0 _ _ _ _ _
      | exact ih1 _ _ _ _ _ _
      | exact ih2 _ _ _ _ _ _ _
      | exact ih3 _ _ _ _ _ _ _ _
      | exact cellplanelaw22_awake.mono _
      | exact LeO.none _
      | refine LeO.ite ?_ ?_
      | refine LeO.bind ?_ (fun _ => ?_)
theorem cellplanelaw22_ProbeHolds.mono : ∀ a0 a1 a2 k, LeO (cellplanelaw22_ProbeHolds.f k a0 a1 a2) (cellplanelaw22_ProbeHolds.f (k + 1) a0 a1 a2) := by
  intro a0 a1 a2 k
  obtain ⟨ih0, ih1, ih2, ih3⟩ := cellplanelaw22_ProbeHolds.mono_l k
  unfold cellplanelaw22_ProbeHolds.f
  repeat' first
      | (with_reducible exact ih0 _ _ _ _ _)
      | (with_reducible exact ih1 _ _ _ _ _ _)
      | (with_reducible exact ih2 _ _ _ _ _ _ _)
      | (with_reducible exact ih3 _ _ _ _ _ _ _ _)
      | (with_reducible exact cellplanelaw22_awake.mono _)
      | (with_reducible exact LeO.refl _)
      | (with_reducible exact LeO.none _)
      | (with_reducible refine LeO.ite ?_ ?_)
      | (with_reducible refine LeO.bind ?_ (fun _ => ?_))
      | exact ih0 _ _ _ _ _
      | exact ih1 _ _ _ _ _ _
      | exact ih2 _ _ _ _ _ _ _
      | exact ih3 _ _ _ _ _ _ _ _
      | exact cellplanelaw22_awake.mono _
      | exact LeO.none _
      | refine LeO.ite ?_ ?_
      | refine LeO.bind ?_ (fun _ => ?_)
set_option maxHeartbeats 8000000 in
set_option maxRecDepth 100000 in
theorem cellplanelaw22_ProbeHolds.calls (k : Nat) (a0_0 : Int) (a0_1 : Int) (A1 : Option Addr) (c1 : Nat) (l1 : List Bool) (r : Bool) (w : World) (hr1 : Kd.C Kd.bool w A1 l1.length l1) (hc1 : l1.length ≤ c1) (h : cellplanelaw22_ProbeHolds.f k a0_0 a0_1 l1 = some r) :
    Calls Try.prog 6 #[.agg #[.int .i64 a0_0, .int .i64 a0_1], .slice A1 l1.length c1] w fun e w' => e = .returned (.bool r) ∧ Below w.heap.size w w' := by
  have hu23 := Try.underlying23
  have HR1 := Aside0.mk hr1
  have HC1 := Aside0.mk hc1
  clear hr1 hc1
  have HB := Aside0.mk (Below.refl w.heap.size w)
  have H : (if (l1.length : Int) > 500 then ((cellplanelaw22_awake.f k).bind fun t137 => (some t137)) else ((cellplanelaw22_near.f a0_0 a0_1).bind fun bt138 => ((probe_Verdicts.f bt138.1 bt138.2 l1).bind fun bt140 => ((cellplanelaw22_awake.f k).bind fun t144 => (if t144 = true then (if bt140.2 = 0 then (cellplanelaw22_ProbeHolds.j0 k l1 bt140.1 ((bt140.1.length : Int) != (l1.length : Int)) bt138.1 bt138.2) else (cellplanelaw22_ProbeHolds.j0 k l1 bt140.1 true bt138.1 bt138.2)) else (cellplanelaw22_ProbeHolds.j0 k l1 bt140.1 true bt138.1 bt138.2)))))) = some r := h
  clear h
  by_cases c3 : (l1.length : Int) > 500
  · rw [if_pos c3] at H
    have c3b0 : decide (500 < (l1.length : Int)) = true := decide_eq_true c3
    have c3b1 : decide (500 < l1.length) = true := decide_eq_true (by omega)
    clear c3
    replace H := Option.bind_eq_some_iff.mp H
    obtain ⟨t137, A40, H⟩ := H
    replace H : (some t137) = some r := H
    have A4 := Aside0.mk A40
    clear A40
    obtain rfl := Option.some.inj H
    go_enter Try.func6, Try.ntmps6
    go_wp2_with (first | ((with_reducible refine gate_dst (N := 2) rfl ?_); (try (refine gate_guard (by rfl) ?_; dsimp only)); refine box_event ?hg (N := 2) ?hd (cs := #[.int .i64 a0_0, .int .i64 a0_1]) (t := 23) ?hr ?_; (case hd => rfl); (case hg => rfl); (case hr => first | (go_simp; done) | (go_simp; rfl)); intro gb136 hg w5 hbox hb; have n0_ := Aside0.mk (below_step (by repeat (first | (with_reducible first | exact HB.out | apply below_alloc | apply pw_below_drewN | apply below_drew1) | exact HB.out)) hb); have n1_ := Aside0.mk (hbox); have n2_ := Aside0.mk ((by rw [hg]; exact (below_size (by repeat (first | (with_reducible first | exact HB.out | apply below_alloc | apply pw_below_drewN | apply below_drew1) | exact HB.out))) : w.heap.size ≤ gb136)); have n3_ := Aside0.mk ((by rw [hg]; exact (below_size (by repeat (first | (with_reducible first | exact HB.out | apply below_alloc | apply pw_below_drewN | apply below_drew1) | exact HB.out))) : w.heap.size ≤ gb136)); clear HB; have HB := n0_; have BK136 := n1_; have GW136 := n2_; have GE136 := n3_; clear n0_ n1_ n2_ n3_; clear hb hbox hg) | ((with_reducible refine gate_callee (f := 9) rfl ?_); refine goesL_ (some 14) rfl rfl Try.func9 (by kernel_rfl) rfl #[] rfl (by (try simp only [List.map_toArray, List.map_cons, List.map_nil]); first | done | rfl | (simp only [List.length_drop, List.length_take]; rfl)) ?_; (with_reducible refine (cellplanelaw22_awake.calls k  t137 _ A4.out).mono ?_); rintro e w6 ⟨rfl, hb⟩; refine ⟨_, rfl, ?_⟩; have n0_ := Aside0.mk (blk_below (g := gb136) (o := .cells #[.int .i64 a0_0, .int .i64 a0_1] 23 (0, 0)) (by (with_reducible repeat (first | refine blk_drewN ?_ _ | refine blk_drew ?_ | refine blk_alloc ?_ _)); exact BK136.out) hb); have n1_ := Aside0.mk (below_step (by repeat (first | (with_reducible first | exact HB.out | apply below_alloc | apply pw_below_drewN | apply below_drew1 | refine below_set ?_ GE136.out) | exact HB.out)) hb); clear BK136; clear HB; have BK136 := n0_; have HB := n1_; clear n0_ n1_; (try clear hb); (try clear hb2); (try clear hk); (try clear hi)))
    go_ret
    exact ⟨by first | rfl | (simp [errW_none, errW_some] <;> rfl) | (simp [*, errW_none, errW_some] <;> rfl), by repeat (first | (with_reducible first | exact HB.out | apply below_alloc | apply pw_below_drewN | apply below_drew1 | refine below_set ?_ GE136.out) | exact HB.out)⟩
  · rw [if_neg c3] at H
    have c3b0 : decide (500 < (l1.length : Int)) = false := decide_eq_false c3
    have c3b1 : decide (500 < l1.length) = false := decide_eq_false (by omega)
    clear c3
    replace H := Option.bind_eq_some_iff.mp H
    obtain ⟨⟨t138, t139⟩, A70, H⟩ := H
    replace H : ((probe_Verdicts.f t138 t139 l1).bind fun bt140 => ((cellplanelaw22_awake.f k).bind fun t144 => (if t144 = true then (if bt140.2 = 0 then (cellplanelaw22_ProbeHolds.j0 k l1 bt140.1 ((bt140.1.length : Int) != (l1.length : Int)) t138 t139) else (cellplanelaw22_ProbeHolds.j0 k l1 bt140.1 true t138 t139)) else (cellplanelaw22_ProbeHolds.j0 k l1 bt140.1 true t138 t139)))) = some r := H
    have A7 := Aside0.mk A70
    clear A70
    replace H := Option.bind_eq_some_iff.mp H
    obtain ⟨⟨t140, t143⟩, A80, H⟩ := H
    replace H : ((cellplanelaw22_awake.f k).bind fun t144 => (if t144 = true then (if t143 = 0 then (cellplanelaw22_ProbeHolds.j0 k l1 t140 ((t140.length : Int) != (l1.length : Int)) t138 t139) else (cellplanelaw22_ProbeHolds.j0 k l1 t140 true t138 t139)) else (cellplanelaw22_ProbeHolds.j0 k l1 t140 true t138 t139))) = some r := H
    have A8 := Aside0.mk A80
    clear A80
    have HC9 := Aside0.mk H
    clear H
    go_enter Try.func6, Try.ntmps6
    go_upto_region 5 with (first | ((with_reducible refine gate_dst (N := 2) rfl ?_); (try (refine gate_guard (by rfl) ?_; dsimp only)); refine box_event ?hg (N := 2) ?hd (cs := #[.int .i64 a0_0, .int .i64 a0_1]) (t := 23) ?hr ?_; (case hd => rfl); (case hg => rfl); (case hr => first | (go_simp; done) | (go_simp; rfl)); intro gb136 hg w10 hbox hb; have n0_ := Aside0.mk (below_step (by repeat (first | (with_reducible first | exact HB.out | apply below_alloc | apply pw_below_drewN | apply below_drew1) | exact HB.out)) hb); have n1_ := Aside0.mk (hbox); have n2_ := Aside0.mk ((by rw [hg]; exact (below_size (by repeat (first | (with_reducible first | exact HB.out | apply below_alloc | apply pw_below_drewN | apply below_drew1) | exact HB.out))) : w.heap.size ≤ gb136)); have n3_ := Aside0.mk ((by rw [hg]; exact (below_size (by repeat (first | (with_reducible first | exact HB.out | apply below_alloc | apply pw_below_drewN | apply below_drew1) | exact HB.out))) : w.heap.size ≤ gb136)); clear HB; have HB := n0_; have BK136 := n1_; have GW136 := n2_; have GE136 := n3_; clear n0_ n1_ n2_ n3_; clear hb hbox hg; have hcz11_0 : w10.cell? ⟨gb136, 0, none⟩ = some (.int .i64 a0_0) := (blk_cell BK136.out 0).trans rfl; have hcz11_1 : w10.cell? ⟨gb136, 1, none⟩ = some (.int .i64 a0_1) := (blk_cell BK136.out 1).trans rfl; have hfz11_0 := blk_frozen BK136.out 0; have hfz11_1 := blk_frozen BK136.out 1) | ((with_reducible refine gate_callee (f := 13) rfl ?_); refine goesL_ (some 16) rfl rfl Try.func13 (by kernel_rfl) rfl #[.agg #[.int .i64 a0_0, .int .i64 a0_1]] rfl (by (try simp only [List.map_toArray, List.map_cons, List.map_nil]); first | done | rfl | (simp only [List.length_drop, List.length_take]; rfl)) ?_; (with_reducible refine (cellplanelaw22_near.calls a0_0 a0_1 t138 t139 _ A7.out).mono ?_); rintro e w12 ⟨rfl, hb⟩; refine ⟨_, rfl, ?_⟩; have n0_ := Aside0.mk (blk_below (g := gb136) (o := .cells #[.int .i64 a0_0, .int .i64 a0_1] 23 (0, 0)) (by (with_reducible repeat (first | refine blk_drewN ?_ _ | refine blk_drew ?_ | refine blk_alloc ?_ _)); exact BK136.out) hb); have n1_ := Aside0.mk (below_step (by repeat (first | (with_reducible first | exact HB.out | apply below_alloc | apply pw_below_drewN | apply below_drew1 | refine below_set ?_ GE136.out) | exact HB.out)) hb); clear BK136; clear HB; have BK136 := n0_; have HB := n1_; clear n0_ n1_; (try clear hb); (try clear hb2); (try clear hk); (try clear hi); have hcz13_0 : w12.cell? ⟨gb136, 0, none⟩ = some (.int .i64 a0_0) := (blk_cell BK136.out 0).trans rfl; have hcz13_1 : w12.cell? ⟨gb136, 1, none⟩ = some (.int .i64 a0_1) := (blk_cell BK136.out 1).trans rfl; have hfz13_0 := blk_frozen BK136.out 0; have hfz13_1 := blk_frozen BK136.out 1) | ((with_reducible refine gate_callee (f := 10) rfl ?_); refine goesL_ (some 20) rfl rfl Try.func10 (by kernel_rfl) rfl #[.agg #[.int .i64 t138, .int .i64 t139], .slice A1 l1.length c1] rfl (by (try simp only [List.map_toArray, List.map_cons, List.map_nil]); first | done | rfl | (simp only [List.length_drop, List.length_take]; rfl)) ?_; (with_reducible refine (probe_Verdicts.calls t138 t139 _ _ l1 t140 t143 _ ?side1 ?side2 A8.out).mono ?_); (case side1 => exact Kd.C_below HR1.out (by repeat (first | (with_reducible first | exact HB.out | apply below_alloc | apply pw_below_drewN | apply below_drew1 | refine below_set ?_ GE136.out) | exact HB.out))); (case side2 => exact HC1.out); rintro e w14 ⟨v141, rfl, ho0, hb⟩; refine ⟨_, rfl, ?_⟩; have n0_ := Aside0.mk (Kd.R_lower ho0 (below_size (by repeat (first | (with_reducible first | exact HB.out | apply below_alloc | apply pw_below_drewN | apply below_drew1 | refine below_set ?_ GE136.out) | exact HB.out)))); have n1_ := Aside0.mk (blk_below (g := gb136) (o := .cells #[.int .i64 t138, .int .i64 t139] 23 (0, 0)) (by (with_reducible repeat (first | refine blk_drewN ?_ _ | refine blk_drew ?_ | refine blk_alloc ?_ _)); refine blk_put (cs := #[.int .i64 t138, .int .i64 a0_1]) ?_ 1 _ rfl; (with_reducible repeat (first | refine blk_drewN ?_ _ | refine blk_drew ?_ | refine blk_alloc ?_ _)); refine blk_put (cs := #[.int .i64 a0_0, .int .i64 a0_1]) ?_ 0 _ rfl; (with_reducible repeat (first | refine blk_drewN ?_ _ | refine blk_drew ?_ | refine blk_alloc ?_ _)); exact BK136.out) hb); have n2_ := Aside0.mk (below_step (by repeat (first | (with_reducible first | exact HB.out | apply below_alloc | apply pw_below_drewN | apply below_drew1 | refine below_set ?_ GE136.out) | exact HB.out)) hb); clear BK136; clear HB; have HO142 := n0_; have BK136 := n1_; have HB := n2_; clear n0_ n1_ n2_; (try clear hb); (try clear hb2); (try clear hk); (try clear hi); (try clear ho0)))
    (try simp only [Act.put, List.setIfInBounds_toArray, List.set_cons_zero, List.set_cons_succ])
    go_cut [35] (fun v35 wc => ∃ (kq : Nat) (x35_8 : Bool), v35 = .bool x35_8 ∧ Aside0 (cellplanelaw22_ProbeHolds.j0 kq l1 t140 x35_8 t138 t139 = some r) ∧ Aside0 (kq ≤ k) ∧ Aside0 (Kd.R Kd.bool 4 wc w.heap.size (fun _ => True) v141 t140) ∧ Aside0 (wc.heap[gb136]? = some (.cells #[.int .i64 t138, .int .i64 t139] 23 (0, 0))) ∧ Aside0 (Below w.heap.size w wc))
    case first =>
      have H := HC9.out
      clear HC9
      replace H := Option.bind_eq_some_iff.mp H
      obtain ⟨t144, A150, H⟩ := H
      replace H : (if t144 = true then (if t143 = 0 then (cellplanelaw22_ProbeHolds.j0 k l1 t140 ((t140.length : Int) != (l1.length : Int)) t138 t139) else (cellplanelaw22_ProbeHolds.j0 k l1 t140 true t138 t139)) else (cellplanelaw22_ProbeHolds.j0 k l1 t140 true t138 t139)) = some r := H
      have A15 := Aside0.mk A150
      clear A150
      by_cases c16 : t144 = true
      · subst c16
        have H1 : (if t143 = 0 then (cellplanelaw22_ProbeHolds.j0 k l1 t140 ((t140.length : Int) != (l1.length : Int)) t138 t139) else (cellplanelaw22_ProbeHolds.j0 k l1 t140 true t138 t139)) = some r := by rw [if_pos rfl] at H; exact H
        clear H
        have H := H1
        clear H1
        by_cases c17 : t143 = 0
        · rw [if_pos c17] at H
          have c17b0 : (t143 == 0) = true := beq_iff_eq.mpr c17
          have c17b1 : (t143 != 0) = false := bne_eq_false_iff_eq.mpr c17
          clear c17
          (first | rw [c17b0] | (simp only [i64_w, i32_w]; rw [c17b0]) | skip)
          have H' := Aside0.mk H
          clear H
          go_wp2_with (first | ((with_reducible refine gate_callee (f := 9) rfl ?_); refine goesL_ (some 23) rfl rfl Try.func9 (by kernel_rfl) rfl #[] rfl (by (try simp only [List.map_toArray, List.map_cons, List.map_nil]); first | done | rfl | (simp only [List.length_drop, List.length_take]; rfl)) ?_; (with_reducible refine (cellplanelaw22_awake.calls k  true _ A15.out).mono ?_); rintro e w18 ⟨rfl, hb⟩; refine ⟨_, rfl, ?_⟩; have n0_ := Aside0.mk (Kd.R_below (by (with_reducible repeat (first | apply Kd.R_alloc | apply Kd.R_drewN | apply Kd.R_drew)); exact HO142.out) hb); have n1_ := Aside0.mk (blk_below (g := gb136) (o := .cells #[.int .i64 t138, .int .i64 t139] 23 (0, 0)) (by (with_reducible repeat (first | refine blk_drewN ?_ _ | refine blk_drew ?_ | refine blk_alloc ?_ _)); exact BK136.out) hb); have n2_ := Aside0.mk (below_step (by repeat (first | (with_reducible first | exact HB.out | apply below_alloc | apply pw_below_drewN | apply below_drew1 | refine below_set ?_ GE136.out) | exact HB.out)) hb); clear HO142; clear BK136; clear HB; have HO142 := n0_; have BK136 := n1_; have HB := n2_; clear n0_ n1_ n2_; (try clear hb); (try clear hb2); (try clear hk); (try clear hi); obtain ⟨Ao19, co19, eo19⟩ := Kd.R_slice HO142.out; subst eo19))
          go_meet
          case rel => exact ⟨_, (((t140.length : Int) != (l1.length : Int))), (by first | rfl | (simp; done) | (simp [*]; done)), H', ⟨by first | omega | exact Nat.le_refl _⟩, ⟨by (with_reducible repeat (first | apply Kd.R_alloc | apply Kd.R_drewN | apply Kd.R_drew)); exact HO142.out⟩, ⟨by (with_reducible repeat (first | refine blk_drewN ?_ _ | refine blk_drew ?_ | refine blk_alloc ?_ _)); exact BK136.out⟩, ⟨by repeat (first | (with_reducible first | exact HB.out | apply below_alloc | apply pw_below_drewN | apply below_drew1 | refine below_set ?_ GE136.out) | exact HB.out)⟩⟩
        · rw [if_neg c17] at H
          have c17b0 : (t143 == 0) = false := beq_eq_false_iff_ne.mpr c17
          have c17b1 : (t143 != 0) = true := bne_iff_ne.mpr c17
          (first | rw [c17b0] | (simp only [i64_w, i32_w]; rw [c17b0]) | skip)
          have H' := Aside0.mk H
          clear H
          go_wp2_with (first | ((with_reducible refine gate_callee (f := 9) rfl ?_); refine goesL_ (some 23) rfl rfl Try.func9 (by kernel_rfl) rfl #[] rfl (by (try simp only [List.map_toArray, List.map_cons, List.map_nil]); first | done | rfl | (simp only [List.length_drop, List.length_take]; rfl)) ?_; (with_reducible refine (cellplanelaw22_awake.calls k  true _ A15.out).mono ?_); rintro e w20 ⟨rfl, hb⟩; refine ⟨_, rfl, ?_⟩; have n0_ := Aside0.mk (Kd.R_below (by (with_reducible repeat (first | apply Kd.R_alloc | apply Kd.R_drewN | apply Kd.R_drew)); exact HO142.out) hb); have n1_ := Aside0.mk (blk_below (g := gb136) (o := .cells #[.int .i64 t138, .int .i64 t139] 23 (0, 0)) (by (with_reducible repeat (first | refine blk_drewN ?_ _ | refine blk_drew ?_ | refine blk_alloc ?_ _)); exact BK136.out) hb); have n2_ := Aside0.mk (below_step (by repeat (first | (with_reducible first | exact HB.out | apply below_alloc | apply pw_below_drewN | apply below_drew1 | refine below_set ?_ GE136.out) | exact HB.out)) hb); clear HO142; clear BK136; clear HB; have HO142 := n0_; have BK136 := n1_; have HB := n2_; clear n0_ n1_ n2_; (try clear hb); (try clear hb2); (try clear hk); (try clear hi)))
          go_meet
          case rel => exact ⟨_, (true), (by first | rfl | (simp; done) | (simp [*]; done)), H', ⟨by first | omega | exact Nat.le_refl _⟩, ⟨by (with_reducible repeat (first | apply Kd.R_alloc | apply Kd.R_drewN | apply Kd.R_drew)); exact HO142.out⟩, ⟨by (with_reducible repeat (first | refine blk_drewN ?_ _ | refine blk_drew ?_ | refine blk_alloc ?_ _)); exact BK136.out⟩, ⟨by repeat (first | (with_reducible first | exact HB.out | apply below_alloc | apply pw_below_drewN | apply below_drew1 | refine below_set ?_ GE136.out) | exact HB.out)⟩⟩
      · replace c16 := Bool.eq_false_iff.mpr c16
        subst c16
        have H1 : (cellplanelaw22_ProbeHolds.j0 k l1 t140 true t138 t139) = some r := by rw [if_neg (show ¬ (false = true) by decide)] at H; exact H
        clear H
        have H := H1
        clear H1
        have H' := Aside0.mk H
        clear H
        go_wp2_with (first | ((with_reducible refine gate_callee (f := 9) rfl ?_); refine goesL_ (some 23) rfl rfl Try.func9 (by kernel_rfl) rfl #[] rfl (by (try simp only [List.map_toArray, List.map_cons, List.map_nil]); first | done | rfl | (simp only [List.length_drop, List.length_take]; rfl)) ?_; (with_reducible refine (cellplanelaw22_awake.calls k  false _ A15.out).mono ?_); rintro e w21 ⟨rfl, hb⟩; refine ⟨_, rfl, ?_⟩; have n0_ := Aside0.mk (Kd.R_below (by (with_reducible repeat (first | apply Kd.R_alloc | apply Kd.R_drewN | apply Kd.R_drew)); exact HO142.out) hb); have n1_ := Aside0.mk (blk_below (g := gb136) (o := .cells #[.int .i64 t138, .int .i64 t139] 23 (0, 0)) (by (with_reducible repeat (first | refine blk_drewN ?_ _ | refine blk_drew ?_ | refine blk_alloc ?_ _)); exact BK136.out) hb); have n2_ := Aside0.mk (below_step (by repeat (first | (with_reducible first | exact HB.out | apply below_alloc | apply pw_below_drewN | apply below_drew1 | refine below_set ?_ GE136.out) | exact HB.out)) hb); clear HO142; clear BK136; clear HB; have HO142 := n0_; have BK136 := n1_; have HB := n2_; clear n0_ n1_ n2_; (try clear hb); (try clear hb2); (try clear hk); (try clear hi)))
        go_meet
        case rel => exact ⟨_, (true), (by first | rfl | (simp; done) | (simp [*]; done)), H', ⟨by first | omega | exact Nat.le_refl _⟩, ⟨by (with_reducible repeat (first | apply Kd.R_alloc | apply Kd.R_drewN | apply Kd.R_drew)); exact HO142.out⟩, ⟨by (with_reducible repeat (first | refine blk_drewN ?_ _ | refine blk_drew ?_ | refine blk_alloc ?_ _)); exact BK136.out⟩, ⟨by repeat (first | (with_reducible first | exact HB.out | apply below_alloc | apply pw_below_drewN | apply below_drew1 | refine below_set ?_ GE136.out) | exact HB.out)⟩⟩
    case rest =>
      clear HC9
      try clear c1
      try clear p2
      try clear c3
      try clear c3b0
      try clear c3b1
      try clear c6
      try clear c9
      try clear c10
      try clear c13
      try clear c16
      try clear c17
      try clear c17b0
      try clear c17b1
      try clear hcz11_0
      try clear hcz11_1
      try clear hcz13_0
      try clear hcz13_1
      try clear hfz11_0
      try clear hfz11_1
      try clear hfz13_0
      try clear hfz13_1
      obtain ⟨kq, x35_8, rfl, HA, HJ8, HO_5, BK136, HB⟩ := hcut
      cases kq with
      | zero => exact absurd HA.out (by simp [cellplanelaw22_ProbeHolds.j0])
      | succ kj8 =>
        have H := HA.out
        clear HA
        simp only [cellplanelaw22_ProbeHolds.j0] at H
        by_cases c22 : x35_8 = true
        · subst c22
          have H1 : (some false) = some r := by rw [if_pos rfl] at H; exact H
          clear H
          have H := H1
          clear H1
          obtain rfl := Option.some.inj H
          go_wp2
          go_ret
          exact ⟨by first | rfl | (simp [errW_none, errW_some] <;> rfl) | (simp [*, errW_none, errW_some] <;> rfl), by repeat (first | (with_reducible first | exact HB.out | apply below_alloc | apply pw_below_drewN | apply below_drew1 | refine below_set ?_ GE136.out) | exact HB.out)⟩
        · replace c22 := Bool.eq_false_iff.mpr c22
          subst c22
          have H1 : (cellplanelaw22_ProbeHolds.l0 kj8 l1 t140 false 0 t138 t139) = some r := by rw [if_neg (show ¬ (false = true) by decide)] at H; exact H
          clear H
          have H := H1
          clear H1
          have H' := Aside0.mk H
          clear H
          go_wp2
          go_loopg [7, 8] kj8 (fun kq v7 v8 w' => ∃ (x7_2 : Bool) (x8_2 : Int), v7 = .bool x7_2 ∧ v8 = .int .i64 x8_2 ∧ Aside0 (cellplanelaw22_ProbeHolds.l0 kq l1 t140 x7_2 x8_2 t138 t139 = some r) ∧ Aside0 (kq ≤ kj8) ∧ Aside0 (Kd.R Kd.bool 4 w' w.heap.size (fun _ => True) v141 t140) ∧ Aside0 (w'.heap[gb136]? = some (.cells #[.int .i64 t138, .int .i64 t139] 23 (0, 0))) ∧ Aside0 (Below w.heap.size w w'))
          case atStart => exact ⟨(false), (0), (by first | rfl | (simp; done) | (simp [*]; done)), (by first | rfl | (simp; done) | (simp [*]; done)), H', ⟨Nat.le_refl _⟩, ⟨by (with_reducible repeat (first | apply Kd.R_alloc | apply Kd.R_drewN | apply Kd.R_drew)); exact HO_5.out⟩, ⟨by (with_reducible repeat (first | refine blk_drewN ?_ _ | refine blk_drew ?_ | refine blk_alloc ?_ _)); exact BK136.out⟩, ⟨by repeat (first | (with_reducible first | exact HB.out | apply below_alloc | apply pw_below_drewN | apply below_drew1 | refine below_set ?_ GE136.out) | exact HB.out)⟩⟩
          case round =>
            clear H'
            try clear c1
            try clear c2
            try clear p2
            try clear c3
            try clear c3b0
            try clear c3b1
            try clear c6
            try clear c9
            try clear c10
            try clear c13
            try clear c16
            try clear c17
            try clear c17b0
            try clear c17b1
            try clear c22
            try clear hcz11_0
            try clear hcz11_1
            try clear hcz13_0
            try clear hcz13_1
            try clear hfz11_0
            try clear hfz11_1
            try clear hfz13_0
            try clear hfz13_1
            try clear p2
            obtain ⟨x7_2, x8_2, rfl, rfl, HA, HK2, HO_5, BK136, HB⟩ := hrel
            cases gk with
            | zero => exact absurd HA.out (by simp [cellplanelaw22_ProbeHolds.l0])
            | succ k2 =>
              have H := HA.out
              clear HA
              simp only [cellplanelaw22_ProbeHolds.l0] at H
              by_cases c23 : x8_2 < (t140.length : Int)
              · rw [if_pos c23] at H
                have c23b0 : decide (x8_2 < (t140.length : Int)) = true := decide_eq_true c23
                clear c23
                by_cases c24 : 0 ≤ x8_2
                · rw [if_pos c24] at H
                  have c24b0 : decide (0 ≤ x8_2) = true := decide_eq_true c24
                  clear c24
                  by_cases c25 : ((rdOf false t140 x8_2) == x7_2) = true
                  · rw [if_pos c25] at H
                    have c25b0 : ((rdOf false t140 x8_2) == x7_2) = true := c25
                    (try (have c25b1 : decide ((rdOf false t140 x8_2) = x7_2) = true := by simpa using c25))
                    (try (have c25b2 : ((rdOf false t140 x8_2) == x7_2) = true := by simpa using c25))
                    clear c25
                    have H' := Aside0.mk H
                    clear H
                    obtain ⟨Ao26, co26, eo26⟩ := Kd.R_slice HO_5.out
                    subst eo26
                    have p145 : 0 ≤ (x8_2 : Int) := of_decide_eq_true (by first | (with_reducible assumption) | assumption)
                    have q145 : x8_2 < (t140.length : Int) := of_decide_eq_true (by first | (with_reducible assumption) | assumption)
                    obtain ⟨ad145, e145, hx145_0⟩ := Kd.at_bool (Kd.R_reads' HO_5.out).2.2 x8_2 p145 q145
                    cases e145
                    replace p145 := eq_true p145
                    replace q145 := eq_true q145
                    go_wp2
                    go_roundg k2
                    case measure => have := HJ8.out; have := HK2.out; omega
                    case rel => exact ⟨(x7_2), (wrap64 (x8_2 + 1)), (by first | rfl | (simp; done) | (simp [*]; done)), (by first | rfl | (simp; done) | (simp [*]; done)), H', ⟨by have := HJ8.out; have := HK2.out; omega⟩, ⟨by (with_reducible repeat (first | apply Kd.R_alloc | apply Kd.R_drewN | apply Kd.R_drew)); exact HO_5.out⟩, ⟨by (with_reducible repeat (first | refine blk_drewN ?_ _ | refine blk_drew ?_ | refine blk_alloc ?_ _)); exact BK136.out⟩, ⟨by repeat (first | (with_reducible first | exact HB.out | apply below_alloc | apply pw_below_drewN | apply below_drew1 | refine below_set ?_ GE136.out) | exact HB.out)⟩⟩
                  · rw [if_neg c25] at H
                    have c25b0 : ((rdOf false t140 x8_2) == x7_2) = false := by simpa using c25
                    (try (have c25b1 : decide ((rdOf false t140 x8_2) = x7_2) = false := by simpa using c25))
                    (try (have c25b2 : ((rdOf false t140 x8_2) == x7_2) = false := by simpa using c25))
                    (try (have c25b3 : ¬ ((rdOf false t140 x8_2) = x7_2) := by simpa using c25))
                    clear c25
                    have HC27 := Aside0.mk H
                    clear H
                    obtain ⟨Ao28, co28, eo28⟩ := Kd.R_slice HO_5.out
                    subst eo28
                    have p145 : 0 ≤ (x8_2 : Int) := of_decide_eq_true (by first | (with_reducible assumption) | assumption)
                    have q145 : x8_2 < (t140.length : Int) := of_decide_eq_true (by first | (with_reducible assumption) | assumption)
                    obtain ⟨ad145, e145, hx145_0⟩ := Kd.at_bool (Kd.R_reads' HO_5.out).2.2 x8_2 p145 q145
                    cases e145
                    replace p145 := eq_true p145
                    replace q145 := eq_true q145
                    have hcz29_0 : wr.cell? ⟨gb136, 0, none⟩ = some (.int .i64 t138) := (blk_cell BK136.out 0).trans rfl
                    have hcz29_1 : wr.cell? ⟨gb136, 1, none⟩ = some (.int .i64 t139) := (blk_cell BK136.out 1).trans rfl
                    have hfz29_0 := blk_frozen BK136.out 0
                    have hfz29_1 := blk_frozen BK136.out 1
                    go_upto_if 50 with (fail)
                    go_cut [9] (fun v9 wc => ∃ (kq : Nat) (x9_26 : Int), v9 = .int .i64 x9_26 ∧ Aside0 (cellplanelaw22_ProbeHolds.j2 kq l1 t140 x7_2 x8_2 x9_26 t138 t139 = some r) ∧ Aside0 (kq ≤ k2) ∧ Aside0 (Kd.R Kd.bool 4 wc w.heap.size (fun _ => True) (.slice (some ad145) t140.length co28) t140) ∧ Aside0 (wc.heap[gb136]? = some (.cells #[.int .i64 t138, .int .i64 t139] 23 (0, 0))) ∧ Aside0 (Below w.heap.size w wc))
                    case first =>
                      have H := HC27.out
                      clear HC27
                      by_cases c30 : x7_2 = true
                      · subst c30
                        have H1 : (cellplanelaw22_ProbeHolds.j2 k2 l1 t140 true x8_2 t139 t138 t139) = some r := by rw [if_pos rfl] at H; exact H
                        clear H
                        have H := H1
                        clear H1
                        have H' := Aside0.mk H
                        clear H
                        have hcz31_0 : wr.cell? ⟨gb136, 0, none⟩ = some (.int .i64 t138) := (blk_cell BK136.out 0).trans rfl
                        have hcz31_1 : wr.cell? ⟨gb136, 1, none⟩ = some (.int .i64 t139) := (blk_cell BK136.out 1).trans rfl
                        have hfz31_0 := blk_frozen BK136.out 0
                        have hfz31_1 := blk_frozen BK136.out 1
                        go_wp2
                        go_meet
                        case rel => exact ⟨_, (t139), (by first | rfl | (simp; done) | (simp [*]; done)), H', ⟨by have := HJ8.out; have := HK2.out; first | omega | exact Nat.le_refl _⟩, ⟨by (with_reducible repeat (first | apply Kd.R_alloc | apply Kd.R_drewN | apply Kd.R_drew)); exact HO_5.out⟩, ⟨by (with_reducible repeat (first | refine blk_drewN ?_ _ | refine blk_drew ?_ | refine blk_alloc ?_ _)); exact BK136.out⟩, ⟨by repeat (first | (with_reducible first | exact HB.out | apply below_alloc | apply pw_below_drewN | apply below_drew1 | refine below_set ?_ GE136.out) | exact HB.out)⟩⟩
                      · replace c30 := Bool.eq_false_iff.mpr c30
                        subst c30
                        have H1 : (cellplanelaw22_ProbeHolds.j2 k2 l1 t140 false x8_2 t138 t138 t139) = some r := by rw [if_neg (show ¬ (false = true) by decide)] at H; exact H
                        clear H
                        have H := H1
                        clear H1
                        have H' := Aside0.mk H
                        clear H
                        go_wp2
                        go_meet
                        case rel => exact ⟨_, (t138), (by first | rfl | (simp; done) | (simp [*]; done)), H', ⟨by have := HJ8.out; have := HK2.out; first | omega | exact Nat.le_refl _⟩, ⟨by (with_reducible repeat (first | apply Kd.R_alloc | apply Kd.R_drewN | apply Kd.R_drew)); exact HO_5.out⟩, ⟨by (with_reducible repeat (first | refine blk_drewN ?_ _ | refine blk_drew ?_ | refine blk_alloc ?_ _)); exact BK136.out⟩, ⟨by repeat (first | (with_reducible first | exact HB.out | apply below_alloc | apply pw_below_drewN | apply below_drew1 | refine below_set ?_ GE136.out) | exact HB.out)⟩⟩
                    case rest =>
                      clear HC27
                      try clear c1
                      try clear p1
                      try clear q1
                      try clear hx1
                      try clear c2
                      try clear p2
                      try clear c3
                      try clear c3b0
                      try clear c3b1
                      try clear c6
                      try clear p6
                      try clear c9
                      try clear c10
                      try clear c13
                      try clear p14
                      try clear q14
                      try clear hx14
                      try clear c16
                      try clear c17
                      try clear c17b0
                      try clear c17b1
                      try clear c22
                      try clear c23
                      try clear c23b0
                      try clear c24
                      try clear c24b0
                      try clear c25
                      try clear c25b0
                      try clear c25b1
                      try clear c25b2
                      try clear c30
                      try clear hcz11_0
                      try clear hcz11_1
                      try clear hcz13_0
                      try clear hcz13_1
                      try clear hcz29_0
                      try clear hcz29_1
                      try clear hcz31_0
                      try clear hcz31_1
                      try clear hfz11_0
                      try clear hfz11_1
                      try clear hfz13_0
                      try clear hfz13_1
                      try clear hfz29_0
                      try clear hfz29_1
                      try clear hfz31_0
                      try clear hfz31_1
                      try clear hx145_0
                      try clear p145
                      try clear p2
                      try clear q145
                      obtain ⟨kq, x9_26, rfl, HA, HJ26, HO_5, BK136, HB⟩ := hcut
                      cases kq with
                      | zero => exact absurd HA.out (by simp [cellplanelaw22_ProbeHolds.j2])
                      | succ kj26 =>
                        have H := HA.out
                        clear HA
                        simp only [cellplanelaw22_ProbeHolds.j2] at H
                        have H' := Aside0.mk H
                        clear H
                        go_wp2
                        go_loopg [10] kj26 (fun kq v10 w' => ∃ (x10_4 : Int), v10 = .int .i64 x10_4 ∧ Aside0 (cellplanelaw22_ProbeHolds.l1 kq l1 t140 x7_2 x8_2 x9_26 x10_4 t138 t139 = some r) ∧ Aside0 (kq ≤ kj26) ∧ Aside0 (Kd.R Kd.bool 4 w' w.heap.size (fun _ => True) (.slice (some ad145) t140.length co28) t140) ∧ Aside0 (w'.heap[gb136]? = some (.cells #[.int .i64 t138, .int .i64 t139] 23 (0, 0))) ∧ Aside0 (Below w.heap.size w w'))
                        case atStart => exact ⟨(0), (by first | rfl | (simp; done) | (simp [*]; done)), H', ⟨Nat.le_refl _⟩, ⟨by (with_reducible repeat (first | apply Kd.R_alloc | apply Kd.R_drewN | apply Kd.R_drew)); exact HO_5.out⟩, ⟨by (with_reducible repeat (first | refine blk_drewN ?_ _ | refine blk_drew ?_ | refine blk_alloc ?_ _)); exact BK136.out⟩, ⟨by repeat (first | (with_reducible first | exact HB.out | apply below_alloc | apply pw_below_drewN | apply below_drew1 | refine below_set ?_ GE136.out) | exact HB.out)⟩⟩
                        case round =>
                          clear H'
                          try clear c1
                          try clear p1
                          try clear q1
                          try clear hx1
                          try clear c2
                          try clear p2
                          try clear c3
                          try clear c3b0
                          try clear c3b1
                          try clear c6
                          try clear p6
                          try clear c9
                          try clear c10
                          try clear c13
                          try clear p14
                          try clear q14
                          try clear hx14
                          try clear c16
                          try clear c17
                          try clear c17b0
                          try clear c17b1
                          try clear c22
                          try clear c23
                          try clear c23b0
                          try clear c24
                          try clear c24b0
                          try clear c25
                          try clear c25b0
                          try clear c25b1
                          try clear c25b2
                          try clear c30
                          try clear hcz11_0
                          try clear hcz11_1
                          try clear hcz13_0
                          try clear hcz13_1
                          try clear hcz29_0
                          try clear hcz29_1
                          try clear hcz31_0
                          try clear hcz31_1
                          try clear hfz11_0
                          try clear hfz11_1
                          try clear hfz13_0
                          try clear hfz13_1
                          try clear hfz29_0
                          try clear hfz29_1
                          try clear hfz31_0
                          try clear hfz31_1
                          try clear hx145_0
                          try clear p1
                          try clear p14
                          try clear p145
                          try clear p2
                          try clear p6
                          try clear q1
                          try clear q14
                          try clear q145
                          obtain ⟨x10_4, rfl, HA, HK4, HO_5, BK136, HB⟩ := hrel
                          cases gk with
                          | zero => exact absurd HA.out (by simp [cellplanelaw22_ProbeHolds.l1])
                          | succ k4 =>
                            have H := HA.out
                            clear HA
                            simp only [cellplanelaw22_ProbeHolds.l1] at H
                            by_cases c32 : x10_4 < x9_26
                            · rw [if_pos c32] at H
                              have c32b0 : decide (x10_4 < x9_26) = true := decide_eq_true c32
                              clear c32
                              by_cases c33 : (wrap64 (x8_2 - x10_4)) < 0
                              · rw [if_pos c33] at H
                                have c33b0 : decide ((wrap64 (x8_2 - x10_4)) < 0) = true := decide_eq_true c33
                                clear c33
                                obtain rfl := Option.some.inj H
                                go_wp2
                                go_ret
                                exact ⟨by first | rfl | (simp [errW_none, errW_some] <;> rfl) | (simp [*, errW_none, errW_some] <;> rfl), by repeat (first | (with_reducible first | exact HB.out | apply below_alloc | apply pw_below_drewN | apply below_drew1 | refine below_set ?_ GE136.out) | exact HB.out)⟩
                              · rw [if_neg c33] at H
                                have c33b0 : decide ((wrap64 (x8_2 - x10_4)) < 0) = false := decide_eq_false c33
                                clear c33
                                obtain ⟨ji34, hji34⟩ : ∃ j_ : Int, (wrap64 (x8_2 - x10_4)) = j_ := ⟨_, rfl⟩
                                replace H : (if 0 ≤ (ji34) then (if (ji34) < (l1.length : Int) then (if ((rdOf false l1 (ji34)) != x7_2) = true then (some false) else (cellplanelaw22_ProbeHolds.l1 k4 l1 t140 x7_2 x8_2 x9_26 (wrap64 (x10_4 + 1)) t138 t139)) else (none)) else (none)) = some r := by first | (rw [hji34] at H; exact H) | (simp only [hji34] at H ⊢; exact H)
                                (try rw [hji34] at c33b0)
                                have hji34w : (IntKind.i64.wrap (x8_2 - x10_4)) = ji34 := (i64_w _).trans hji34
                                by_cases c35 : 0 ≤ (ji34)
                                · rw [if_pos c35] at H
                                  have c35b0 : decide (0 ≤ (ji34)) = true := decide_eq_true c35
                                  clear c35
                                  by_cases c36 : (ji34) < (l1.length : Int)
                                  · rw [if_pos c36] at H
                                    have c36b0 : decide ((ji34) < (l1.length : Int)) = true := decide_eq_true c36
                                    clear c36
                                    by_cases c37 : ((rdOf false l1 (ji34)) != x7_2) = true
                                    · rw [if_pos c37] at H
                                      have c37b0 : ((rdOf false l1 (ji34)) != x7_2) = true := c37
                                      (try (have c37b1 : decide ((rdOf false l1 (ji34)) = x7_2) = false := by simpa using c37))
                                      (try (have c37b2 : ((rdOf false l1 (ji34)) == x7_2) = false := by simpa using c37))
                                      (try (have c37b3 : ¬ ((rdOf false l1 (ji34)) = x7_2) := by simpa using c37))
                                      clear c37
                                      obtain rfl := Option.some.inj H
                                      have p146 : 0 ≤ ((ji34) : Int) := of_decide_eq_true (by first | (with_reducible assumption) | assumption)
                                      have q146 : (ji34) < (l1.length : Int) := of_decide_eq_true (by first | (with_reducible assumption) | assumption)
                                      obtain ⟨ad146, e146, hx146_0⟩ := Kd.at_bool HR1.out (ji34) p146 q146
                                      cases e146
                                      replace hx146_0 := (HB.out.cell (World.block_lt_of_cell? w _ hx146_0)).trans hx146_0
                                      replace p146 := eq_true p146
                                      replace q146 := eq_true q146
                                      go_wp2
                                      go_ret
                                      exact ⟨by first | rfl | (simp [errW_none, errW_some] <;> rfl) | (simp only [← hji34]; first | rfl | (simp [errW_none, errW_some] <;> rfl)) | (simp [*, errW_none, errW_some] <;> rfl), by repeat (first | (with_reducible first | exact HB.out | apply below_alloc | apply pw_below_drewN | apply below_drew1 | refine below_set ?_ GE136.out) | exact HB.out)⟩
                                    · rw [if_neg c37] at H
                                      have c37b0 : ((rdOf false l1 (ji34)) != x7_2) = false := by simpa using c37
                                      (try (have c37b1 : decide ((rdOf false l1 (ji34)) = x7_2) = true := by simpa using c37))
                                      (try (have c37b2 : ((rdOf false l1 (ji34)) == x7_2) = true := by simpa using c37))
                                      clear c37
                                      have H' := Aside0.mk H
                                      clear H
                                      have p146 : 0 ≤ ((ji34) : Int) := of_decide_eq_true (by first | (with_reducible assumption) | assumption)
                                      have q146 : (ji34) < (l1.length : Int) := of_decide_eq_true (by first | (with_reducible assumption) | assumption)
                                      obtain ⟨ad146, e146, hx146_0⟩ := Kd.at_bool HR1.out (ji34) p146 q146
                                      cases e146
                                      replace hx146_0 := (HB.out.cell (World.block_lt_of_cell? w _ hx146_0)).trans hx146_0
                                      replace p146 := eq_true p146
                                      replace q146 := eq_true q146
                                      go_wp2
                                      go_roundg k4
                                      case measure => have := HJ8.out; have := HK2.out; have := HJ26.out; have := HK4.out; omega
                                      case rel => exact ⟨(wrap64 (x10_4 + 1)), (by first | rfl | (simp; done) | (simp [*]; done)), H', ⟨by have := HJ8.out; have := HK2.out; have := HJ26.out; have := HK4.out; omega⟩, ⟨by (with_reducible repeat (first | apply Kd.R_alloc | apply Kd.R_drewN | apply Kd.R_drew)); exact HO_5.out⟩, ⟨by (with_reducible repeat (first | refine blk_drewN ?_ _ | refine blk_drew ?_ | refine blk_alloc ?_ _)); exact BK136.out⟩, ⟨by repeat (first | (with_reducible first | exact HB.out | apply below_alloc | apply pw_below_drewN | apply below_drew1 | refine below_set ?_ GE136.out) | exact HB.out)⟩⟩
                                  · rw [if_neg c36] at H
                                    exact absurd H (by simp)
                                · rw [if_neg c35] at H
                                  exact absurd H (by simp)
                            · rw [if_neg c32] at H
                              have c32b0 : decide (x10_4 < x9_26) = false := decide_eq_false c32
                              clear c32
                              by_cases c38 : 0 ≤ x8_2
                              · rw [if_pos c38] at H
                                have c38b0 : decide (0 ≤ x8_2) = true := decide_eq_true c38
                                clear c38
                                by_cases c39 : x8_2 < (t140.length : Int)
                                · rw [if_pos c39] at H
                                  have c39b0 : decide (x8_2 < (t140.length : Int)) = true := decide_eq_true c39
                                  clear c39
                                  have H' := Aside0.mk H
                                  clear H
                                  have p147 : 0 ≤ (x8_2 : Int) := of_decide_eq_true (by first | (with_reducible assumption) | assumption)
                                  have q147 : x8_2 < (t140.length : Int) := of_decide_eq_true (by first | (with_reducible assumption) | assumption)
                                  obtain ⟨ad147, e147, hx147_0⟩ := Kd.at_bool (Kd.R_reads' HO_5.out).2.2 x8_2 p147 q147
                                  obtain rfl : ad145 = ad147 := (by injection e147)
                                  replace p147 := eq_true p147
                                  replace q147 := eq_true q147
                                  go_wp2
                                  go_roundg k4
                                  case measure => have := HJ8.out; have := HK2.out; have := HJ26.out; have := HK4.out; omega
                                  case rel => exact ⟨(rdOf false t140 x8_2), (wrap64 (x8_2 + 1)), (by first | rfl | (simp; done) | (simp [*]; done)), (by first | rfl | (simp; done) | (simp [*]; done)), H', ⟨by have := HJ8.out; have := HK2.out; have := HJ26.out; have := HK4.out; omega⟩, ⟨by (with_reducible repeat (first | apply Kd.R_alloc | apply Kd.R_drewN | apply Kd.R_drew)); exact HO_5.out⟩, ⟨by (with_reducible repeat (first | refine blk_drewN ?_ _ | refine blk_drew ?_ | refine blk_alloc ?_ _)); exact BK136.out⟩, ⟨by repeat (first | (with_reducible first | exact HB.out | apply below_alloc | apply pw_below_drewN | apply below_drew1 | refine below_set ?_ GE136.out) | exact HB.out)⟩⟩
                                · rw [if_neg c39] at H
                                  exact absurd H (by simp)
                              · rw [if_neg c38] at H
                                exact absurd H (by simp)
                · rw [if_neg c24] at H
                  exact absurd H (by simp)
              · rw [if_neg c23] at H
                have c23b0 : decide (x8_2 < (t140.length : Int)) = false := decide_eq_false c23
                clear c23
                obtain rfl := Option.some.inj H
                obtain ⟨Ao40, co40, eo40⟩ := Kd.R_slice HO_5.out
                subst eo40
                go_wp2
                go_ret
                exact ⟨by first | rfl | (simp [errW_none, errW_some] <;> rfl) | (simp [*, errW_none, errW_some] <;> rfl), by repeat (first | (with_reducible first | exact HB.out | apply below_alloc | apply pw_below_drewN | apply below_drew1 | refine below_set ?_ GE136.out) | exact HB.out)⟩

end Go.Proofs.Ytfoaaglcanogpaa.QProbeHolds
