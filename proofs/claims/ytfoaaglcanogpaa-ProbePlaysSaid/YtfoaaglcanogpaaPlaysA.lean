/- The walk of the law's own function, by hand. -/
import Derived.Test.YtfoaaglcanogpaaQProbePlaysx1
import Derived.Test.YtfoaaglcanogpaaQProbePlaysx2
namespace Go.Proofs.Ytfoaaglcanogpaa.QProbePlays
open Go.RowKit Go.Proofs.YtfoaaglcanogpaaW.PrintWords Go.Proofs.YtfoaaglcanogpaaW.PrintLast Go.Proofs.YtfoaaglcanogpaaW.PrintMore
attribute [local go_sem] max2_int min2_int max_two min_two max_three min_three max_four min_four
set_option linter.unusedVariables false
set_option linter.unusedSimpArgs false
theorem awake_10 : cellplanelaw22_awake.f 10 = some true := by decide +kernel
abbrev limOk (f r : Int) : Prop := 1 ≤ f ∧ f ≤ 100 ∧ 1 ≤ r ∧ r ≤ 100
theorem New_good (f r : Int) (w : World) (h : limOk f r) : Calls Try.prog 17 #[.agg #[.int .i64 f, .int .i64 r]] w fun e w' => ∃ g : Nat, e = .returned (.tuple #[.pointer (some ⟨g, 0, none⟩), .int .i64 0]) ∧ IsS51 w w' g f r false 0 ∧ Below w.heap.size w w' := probe_New.good f r w h.1 h.2.1 h.2.2.1 h.2.2.2
set_option maxHeartbeats 2000000 in
theorem cellplaneref22_New.good (f r : Int) (w : World) (f1 : 1 ≤ f) (f2 : f ≤ 100) (r1 : 1 ≤ r) (r2 : r ≤ 100) :
    Calls Try.prog 18 #[.agg #[.int .i64 f, .int .i64 r]] w fun e w' => ∃ g : Nat, e = .returned (.tuple #[.pointer (some ⟨g, 0, none⟩), .int .i64 0]) ∧ IsS46 w w' g f r false 0 ∧ Below w.heap.size w w' := by
  go_enter Try.func18, Try.ntmps18
  go_wp2
  all_goals (try (exfalso; omega))
  all_goals
    go_ret2
    exact ⟨w.heap.size + 1, rfl, by have h := IsS46.new w (w.alloc (.cells #[.int .i64 f, .int .i64 r] 23)) f r false 0 (below_alloc (Below.refl _ _) _); simpa using h, below_alloc (below_alloc (Below.refl _ _) _) _⟩
set_option maxHeartbeats 2000000 in
theorem cellplaneref22_New.poor (f r : Int) (w : World) (h : ¬ (1 ≤ f ∧ f ≤ 100 ∧ 1 ≤ r ∧ r ≤ 100)) :
    Calls Try.prog 18 #[.agg #[.int .i64 f, .int .i64 r]] w fun e w' => e = .returned (.tuple #[.pointer none, .int .i64 1]) ∧ Below w.heap.size w w' := by
  go_enter Try.func18, Try.ntmps18
  go_wp2
  all_goals (try (exfalso; omega))
  all_goals
    go_ret2
    exact ⟨rfl, below_alloc (Below.refl _ _) _⟩
theorem radd_f (f r : Int) (bad : Bool) (run : Int) (good : Bool) : cellplaneref22_Probe_Add.f 1 f r bad run good = some ((vstep f r bad run good).1, f, r, (vstep f r bad run good).1, (vstep f r bad run good).2) := by
  unfold cellplaneref22_Probe_Add.f vstep
  cases bad <;> cases good <;> simp [cellplaneref22_Probe_Add.j0] <;> split <;> simp
theorem RNew_good (f r : Int) (w : World) (h : limOk f r) : Calls Try.prog 18 #[.agg #[.int .i64 f, .int .i64 r]] w fun e w' => ∃ g : Nat, e = .returned (.tuple #[.pointer (some ⟨g, 0, none⟩), .int .i64 0]) ∧ IsS46 w w' g f r false 0 ∧ Below w.heap.size w w' := cellplaneref22_New.good f r w h.1 h.2.1 h.2.2.1 h.2.2.2
set_option maxHeartbeats 8000000 in
set_option maxRecDepth 100000 in
theorem plays_long (a b f r : Int) (A1 : Option Addr) (c1 : Nat) (l1 : List Bool) (w : World) (hr1 : Kd.C Kd.bool w A1 l1.length l1) (hc1 : l1.length ≤ c1) (sm : Bool) (hl : (l1.length : Int) > 500) : Calls Try.prog 8 #[.agg #[.int .i64 a, .int .i64 b], .slice A1 l1.length c1, .bool sm] w fun e w' => e = .returned (.bool true) ∧ Below w.heap.size w w' := by
  have hu23 := Try.underlying23
  have HR1 := Aside0.mk hr1
  have HC1 := Aside0.mk hc1
  clear hr1 hc1
  have HB := Aside0.mk (Below.refl w.heap.size w)
  have c3b0 : decide (500 < (l1.length : Int)) = true := decide_eq_true hl
  have c3b1 : decide (500 < l1.length) = true := decide_eq_true (by omega)
  clear hl
  go_enter Try.func8, Try.ntmps8
  go_wp2_with (first | ((with_reducible refine gate_dst (N := 3) rfl ?_); (try (refine gate_guard (by rfl) ?_; dsimp only)); refine box_event ?hg (N := 3) ?hd (cs := #[.int .i64 a, .int .i64 b]) (t := 23) ?hr ?_; (case hd => rfl); (case hg => rfl); (case hr => first | (go_simp; done) | (go_simp; rfl)); intro gb hg w1 hbox hb; have n0_ := Aside0.mk (below_step HB.out hb); have n1_ := Aside0.mk hbox; have n2_ := Aside0.mk (by rw [hg]; exact Nat.le_refl _ : w.heap.size ≤ gb); clear HB; have HB := n0_; have BK := n1_; have GE1 := n2_; clear n0_ n1_ n2_; clear hb hbox hg; have hcz1_0 : w1.cell? ⟨gb, 0, none⟩ = some (.int .i64 a) := (blk_cell BK.out 0).trans rfl; have hcz1_1 : w1.cell? ⟨gb, 1, none⟩ = some (.int .i64 b) := (blk_cell BK.out 1).trans rfl; have hfz1_0 := blk_frozen BK.out 0; have hfz1_1 := blk_frozen BK.out 1) | ((with_reducible refine gate_callee (f := 9) rfl ?_); refine goesL_ (some 17) rfl rfl Try.func9 (by kernel_rfl) rfl #[] rfl (by (try simp only [List.map_toArray, List.map_cons, List.map_nil]); first | done | rfl | (simp only [List.length_drop, List.length_take]; rfl)) ?_; (refine (cellplanelaw22_awake.calls 10 true _ awake_10).mono ?_); rintro e w9 ⟨rfl, hb⟩; refine ⟨_, rfl, ?_⟩; have n1_ := Aside0.mk (below_step (by repeat (first | (with_reducible first | exact HB.out | apply below_alloc | apply pw_below_drewN | apply below_drew1 | refine below_set ?_ GE1.out) | exact HB.out)) hb); clear HB; have HB := n1_; clear n1_ hb))
  go_ret
  exact ⟨rfl, (by repeat (first | (with_reducible first | exact HB.out | apply below_alloc | apply pw_below_drewN | apply below_drew1 | refine below_set ?_ GE1.out) | exact HB.out))⟩
set_option maxHeartbeats 8000000 in
set_option maxRecDepth 100000 in
theorem plays_poor (a b f r : Int) (A1 : Option Addr) (c1 : Nat) (l1 : List Bool) (w : World) (hr1 : Kd.C Kd.bool w A1 l1.length l1) (hc1 : l1.length ≤ c1) (hl : ¬ (l1.length : Int) > 500) (hlim : ¬ (limOk f r)) : Calls Try.prog 8 #[.agg #[.int .i64 f, .int .i64 r], .slice A1 l1.length c1, .bool false] w fun e w' => e = .returned (.bool true) ∧ Below w.heap.size w w' := by
  have hu23 := Try.underlying23
  have HR1 := Aside0.mk hr1
  have HC1 := Aside0.mk hc1
  clear hr1 hc1
  have HB := Aside0.mk (Below.refl w.heap.size w)
  have c3b0 : decide (500 < (l1.length : Int)) = false := decide_eq_false (by omega)
  have c3b1 : decide (500 < l1.length) = false := decide_eq_false (by omega)
  clear hl
  go_enter Try.func8, Try.ntmps8
  go_wp2_with (first | ((with_reducible refine gate_dst (N := 3) rfl ?_); (try (refine gate_guard (by rfl) ?_; dsimp only)); refine box_event ?hg (N := 3) ?hd (cs := #[.int .i64 f, .int .i64 r]) (t := 23) ?hr ?_; (case hd => rfl); (case hg => rfl); (case hr => first | (go_simp; done) | (go_simp; rfl)); intro gb hg w1 hbox hb; have n0_ := Aside0.mk (below_step HB.out hb); have n1_ := Aside0.mk hbox; have n2_ := Aside0.mk (by rw [hg]; exact Nat.le_refl _ : w.heap.size ≤ gb); clear HB; have HB := n0_; have BK := n1_; have GE1 := n2_; clear n0_ n1_ n2_; clear hb hbox hg; have hcz1_0 : w1.cell? ⟨gb, 0, none⟩ = some (.int .i64 f) := (blk_cell BK.out 0).trans rfl; have hcz1_1 : w1.cell? ⟨gb, 1, none⟩ = some (.int .i64 r) := (blk_cell BK.out 1).trans rfl; have hfz1_0 := blk_frozen BK.out 0; have hfz1_1 := blk_frozen BK.out 1) | ((with_reducible refine gate_callee (f := 17) rfl ?_); refine goesL_ (some 23) rfl rfl Try.func17 (by kernel_rfl) rfl #[.agg #[.int .i64 f, .int .i64 r]] rfl (by (try simp only [List.map_toArray, List.map_cons, List.map_nil]); first | done | rfl | (simp only [List.length_drop, List.length_take]; rfl)) ?_; (refine (probe_New.poor f r _ hlim).mono ?_); rintro e w3 ⟨rfl, hb⟩; refine ⟨_, rfl, ?_⟩; have n1_ := Aside0.mk (below_step (by repeat (first | (with_reducible first | exact HB.out | apply below_alloc | apply pw_below_drewN | apply below_drew1 | refine below_set ?_ GE1.out) | exact HB.out)) hb); have n0_ := Aside0.mk (blk_below (g := gb) (o := .cells #[.int .i64 f, .int .i64 r] 23 (0, 0)) (by (with_reducible repeat (first | refine blk_drewN ?_ _ | refine blk_drew ?_ | refine blk_alloc ?_ _)); exact BK.out) hb); clear BK; clear HB; have HB := n1_; have BK := n0_; clear n0_ n1_ hb; have hczw3_0 : w3.cell? ⟨gb, 0, none⟩ = some (.int .i64 f) := (blk_cell BK.out 0).trans rfl; have hczw3_1 : w3.cell? ⟨gb, 1, none⟩ = some (.int .i64 r) := (blk_cell BK.out 1).trans rfl) | ((with_reducible refine gate_callee (f := 18) rfl ?_); refine goesL_ (some 28) rfl rfl Try.func18 (by kernel_rfl) rfl #[.agg #[.int .i64 f, .int .i64 r]] rfl (by (try simp only [List.map_toArray, List.map_cons, List.map_nil]); first | done | rfl | (simp only [List.length_drop, List.length_take]; rfl)) ?_; (refine (cellplaneref22_New.poor f r _ hlim).mono ?_); rintro e w4 ⟨rfl, hb⟩; refine ⟨_, rfl, ?_⟩; have n1_ := Aside0.mk (below_step (by repeat (first | (with_reducible first | exact HB.out | apply below_alloc | apply pw_below_drewN | apply below_drew1 | refine below_set ?_ GE1.out) | exact HB.out)) hb); have n0_ := Aside0.mk (blk_below (g := gb) (o := .cells #[.int .i64 f, .int .i64 r] 23 (0, 0)) (by (with_reducible repeat (first | refine blk_drewN ?_ _ | refine blk_drew ?_ | refine blk_alloc ?_ _)); exact BK.out) hb); clear BK; clear HB; have HB := n1_; have BK := n0_; clear n0_ n1_ hb; have hczw4_0 : w4.cell? ⟨gb, 0, none⟩ = some (.int .i64 f) := (blk_cell BK.out 0).trans rfl; have hczw4_1 : w4.cell? ⟨gb, 1, none⟩ = some (.int .i64 r) := (blk_cell BK.out 1).trans rfl))
  go_loopg [11] 1 (fun kq v11 w' => v11 = .int .i64 0 ∧ Aside0 (Below w.heap.size w w'))
  case atStart => exact ⟨rfl, HB⟩
  case round =>
    clear HB BK
    obtain ⟨rfl, HB⟩ := hrel
    by_cases c5 : (0 : Int) < (l1.length : Int)
    · have c5b0 : decide ((0 : Int) < (l1.length : Int)) = true := decide_eq_true c5
      go_wp2_with (first | ((with_reducible refine gate_callee (f := 9) rfl ?_); refine goesL_ (some 84) rfl rfl Try.func9 (by kernel_rfl) rfl #[] rfl (by (try simp only [List.map_toArray, List.map_cons, List.map_nil]); first | done | rfl | (simp only [List.length_drop, List.length_take]; rfl)) ?_; (refine (cellplanelaw22_awake.calls 10 true _ awake_10).mono ?_); rintro e w9 ⟨rfl, hb⟩; refine ⟨_, rfl, ?_⟩; have n1_ := Aside0.mk (below_step (by repeat (first | (with_reducible first | exact HB.out | apply below_alloc | apply pw_below_drewN | apply below_drew1 | refine below_set ?_ GE1.out) | exact HB.out)) hb); clear HB; have HB := n1_; clear n1_ hb))
      go_ret
      exact ⟨rfl, (by repeat (first | (with_reducible first | exact HB.out | apply below_alloc | apply pw_below_drewN | apply below_drew1 | refine below_set ?_ GE1.out) | exact HB.out))⟩
    · have c5b0 : decide ((0 : Int) < (l1.length : Int)) = false := decide_eq_false c5
      go_wp2_with (first | ((with_reducible refine gate_callee (f := 9) rfl ?_); refine goesL_ (some 84) rfl rfl Try.func9 (by kernel_rfl) rfl #[] rfl (by (try simp only [List.map_toArray, List.map_cons, List.map_nil]); first | done | rfl | (simp only [List.length_drop, List.length_take]; rfl)) ?_; (refine (cellplanelaw22_awake.calls 10 true _ awake_10).mono ?_); rintro e w9 ⟨rfl, hb⟩; refine ⟨_, rfl, ?_⟩; have n1_ := Aside0.mk (below_step (by repeat (first | (with_reducible first | exact HB.out | apply below_alloc | apply pw_below_drewN | apply below_drew1 | refine below_set ?_ GE1.out) | exact HB.out)) hb); clear HB; have HB := n1_; clear n1_ hb))
      go_ret
      exact ⟨rfl, (by repeat (first | (with_reducible first | exact HB.out | apply below_alloc | apply pw_below_drewN | apply below_drew1 | refine below_set ?_ GE1.out) | exact HB.out))⟩
def Plays.T12 : Bool × List (List Nat × List Nat) := (true, [([], []), ([], []), ([], []), ([1, 2], [1, 2]), ([3], [3]), ([0, 4], [0, 4]), ([], []), ([], []), ([], []), ([7, 8], [7, 8]), ([9], [9]), ([6, 10, 5], [6, 10]), ([5, 11, 0, 1, 2, 3, 4, 5], [5]), ([11, 12, 0, 1, 2, 3, 4, 5, 6, 7, 8, 9, 10, 11, 12], [11])])
def Plays.B12 : List Nat := [0, 0, 0, 6, 14, 31, 0, 0, 0, 384, 896, 2047, 4095, 8191]
theorem Plays.tab12 : rtab .any (opsOf Try.f8 12) = Plays.T12 := by kernel_rfl
theorem Plays.bits12 : waitsOk Plays.T12.2 Plays.B12 = true := by kernel_rfl
def Plays.T13 : Bool × List (List Nat × List Nat) := (true, [([], []), ([], []), ([0, 1], [0, 1]), ([2], [2]), ([3], [3]), ([4, 3, 3], [3, 4]), ([3], [3]), ([6, 3], [3, 6]), ([7, 3], [3, 7]), ([8, 3], [3, 8]), ([5, 9, 3], [3, 5, 9]), ([3, 10], [3, 10]), ([11, 5], [11]), ([12], [12]), ([13, 12, 12], [12, 13]), ([12], [12]), ([15, 12], [12, 15]), ([16, 12], [12, 16]), ([17, 12], [12, 17]), ([14, 18, 12], [12, 14, 18]), ([12, 19], [12, 19])])
def Plays.B13 : List Nat := [0, 0, 3, 7, 15, 31, 15, 79, 207, 463, 1023, 2047, 4095, 8191, 16383, 8191, 40959, 106495, 237567, 524287, 1048575]
theorem Plays.tab13 : rtab .any (opsOf Try.f8 13) = Plays.T13 := by kernel_rfl
theorem Plays.bits13 : waitsOk Plays.T13.2 Plays.B13 = true := by kernel_rfl
end Go.Proofs.Ytfoaaglcanogpaa.QProbePlays
