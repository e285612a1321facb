/- The walk of FrameAll's own function, by hand: it returns true, for any records, keys, cuts and any bytes behind them. No condition. -/
import Derived.Test.YtjmbcdbnglconaaFApure
namespace Go.Proofs.Ytjmbcdbnglconaa.QFrameAll
open Go.RowKit Go.Proofs.Ytjmbcdbnglconaa.QFrameAll Go.Proofs.YtjmbcdbnglconaaW.PrintWords Go.Proofs.YtjmbcdbnglconaaW.PrintLast Go.Proofs.YtjmbcdbnglconaaW.PrintMore Go.Proofs.Ytjmbcdbnglconaa.WM Go.Proofs.Ytjmbcdbnglconaa.FM
set_option linter.unusedVariables false
set_option linter.unusedSimpArgs false
open Go.Proofs.Ytjmbcdbnglconaa.Pure
attribute [local go_sem] max2_int min2_int max_two min_two max_three min_three max_four min_four
theorem c_few (A : Option Addr) (c : Nat) (l : List (List Int)) (r : Bool) (w : World) (hr : Kd.C (Kd.slice 5 (Kd.int .u8)) w A l.length l) (hc : l.length ≤ c) (h : cellplanelaw03_few.f 100 l = some r) : Calls Try.prog 17 #[.slice A l.length c] w fun e' w' => e' = .returned (.bool r) ∧ Below w.heap.size w w' :=
  (cellplanelaw03_few.calls 100 A c l r w hr hc h).mono fun _ _ ⟨he, n, hw⟩ => ⟨he, by rw [hw]; exact pw_below_drewN (Below.refl _ _) _⟩
theorem c_same (m : List (List Int)) (A B : Option Addr) (c d : Nat) (w : World) (hr : Kd.C (Kd.slice 5 (Kd.int .u8)) w A m.length m) (hc : m.length ≤ c) (hr1 : Kd.C (Kd.slice 5 (Kd.int .u8)) w B m.length m) (hc1 : m.length ≤ d) (h : cellplaneref03_Same.f 2000000 m m = some true) : Calls Try.prog 21 #[.slice A m.length c, .slice B m.length d] w fun e' w' => e' = .returned (.bool true) ∧ Below w.heap.size w w' :=
  (cellplaneref03_Same.calls 2000000 A c m B d m true w hr hc hr1 hc1 h).mono fun _ _ ⟨he, n, hw⟩ => ⟨he, by rw [hw]; exact pw_below_drewN (Below.refl _ _) _⟩
theorem c_awake (w : World) : Calls Try.prog 11 #[] w fun e w' => e = .returned (.bool true) ∧ Below w.heap.size w w' := cellplanelaw03_awake.calls 70000 true w (awake_f (by omega))
set_option maxHeartbeats 8000000 in
set_option maxRecDepth 100000 in
theorem many_ (A0 : Option Addr) (c0 : Nat) (l0 : List (List Int)) (key cut : Int) (A3 : Option Addr) (c3 : Nat) (l3 : List Int) (w : World) (hr0 : Kd.C (Kd.slice 5 (Kd.int .u8)) w A0 l0.length l0) (hc0 : l0.length ≤ c0) (hr3 : Kd.C (Kd.int .u8) w A3 l3.length l3) (hc3 : l3.length ≤ c3) (hf : cellplanelaw03_few.f 100 l0 = some false) : Calls Try.prog 9 #[.slice A0 l0.length c0, .int .i64 key, .int .i64 cut, .slice A3 l3.length c3] w fun e w' => e = .returned (.bool true) ∧ Below w.heap.size w w' := by
  have HB := Aside0.mk (Below.refl w.heap.size w)
  have HR0 := Aside0.mk hr0
  have HC0 := Aside0.mk hc0
  have HR3 := Aside0.mk hr3
  have HC3 := Aside0.mk hc3
  have HF := Aside0.mk hf
  clear hr0 hc0 hr3 hc3 hf
  go_enter Try.func9, Try.ntmps9
  go_wp2_with (first | ((with_reducible refine gate_callee (f := 17) rfl ?_); refine goesL_ (some 18) rfl rfl Try.func17 (by kernel_rfl) rfl #[.slice A0 l0.length c0] rfl (by (try simp only [List.map_toArray, List.map_cons, List.map_nil]); first | done | rfl | (simp only [List.length_drop, List.length_take]; rfl)) ?_; (refine (c_few A0 c0 l0 _ _ HR0.out HC0.out HF.out).mono ?_); rintro e w1 ⟨rfl, hb⟩; refine ⟨_, rfl, ?_⟩; have n0_ := Aside0.mk (below_step (by repeat (first | (with_reducible first | exact HB.out | apply below_alloc | apply pw_below_drewN | apply below_drew1) | exact HB.out)) hb); have n1_ := Aside0.mk (Kd.C_below (by (with_reducible repeat (first | refine Kd.C_alloc ?_ _ | refine Kd.C_drewN ?_ _ | refine Kd.C_drew ?_)); exact HR0.out) hb); have n2_ := Aside0.mk (Kd.C_below (by (with_reducible repeat (first | refine Kd.C_alloc ?_ _ | refine Kd.C_drewN ?_ _ | refine Kd.C_drew ?_)); exact HR3.out) hb); (try clear HB); (try clear HR0); (try clear HR3); have HB := n0_; have HR0 := n1_; have HR3 := n2_; clear n0_ n1_ n2_; clear hb) | ((with_reducible refine gate_callee (f := 11) rfl ?_); refine goesL_ (some 25) rfl rfl Try.func11 (by kernel_rfl) rfl #[] rfl (by (try simp only [List.map_toArray, List.map_cons, List.map_nil]); first | done | rfl | (simp only [List.length_drop, List.length_take]; rfl)) ?_; (refine (c_awake _).mono ?_); rintro e w1 ⟨rfl, hb⟩; refine ⟨_, rfl, ?_⟩; have n0_ := Aside0.mk (below_step (by repeat (first | (with_reducible first | exact HB.out | apply below_alloc | apply pw_below_drewN | apply below_drew1) | exact HB.out)) hb); (try clear HB); have HB := n0_; clear n0_; clear hb))
  go_ret
  exact ⟨rfl, (by repeat (first | (with_reducible first | exact HB.out | apply below_alloc | apply pw_below_drewN | apply below_drew1) | exact HB.out))⟩
set_option maxHeartbeats 8000000 in
set_option maxRecDepth 100000 in
theorem long_ (A0 : Option Addr) (c0 : Nat) (l0 : List (List Int)) (key cut : Int) (A3 : Option Addr) (c3 : Nat) (l3 : List Int) (w : World) (hr0 : Kd.C (Kd.slice 5 (Kd.int .u8)) w A0 l0.length l0) (hc0 : l0.length ≤ c0) (hr3 : Kd.C (Kd.int .u8) w A3 l3.length l3) (hc3 : l3.length ≤ c3) (hf : cellplanelaw03_few.f 100 l0 = some true) (hl : ¬ l3.length ≤ 300) : Calls Try.prog 9 #[.slice A0 l0.length c0, .int .i64 key, .int .i64 cut, .slice A3 l3.length c3] w fun e w' => e = .returned (.bool true) ∧ Below w.heap.size w w' := by
  have HB := Aside0.mk (Below.refl w.heap.size w)
  have HR0 := Aside0.mk hr0
  have HC0 := Aside0.mk hc0
  have HR3 := Aside0.mk hr3
  have HC3 := Aside0.mk hc3
  have HF := Aside0.mk hf
  clear hr0 hc0 hr3 hc3 hf
  have ci0 : decide (300 < (l3.length : Int)) = true := decide_eq_true (by omega)
  have ci1 : decide (300 < l3.length) = true := decide_eq_true (by omega)
  clear hl
  go_enter Try.func9, Try.ntmps9
  go_wp2_with (first | ((with_reducible refine gate_callee (f := 17) rfl ?_); refine goesL_ (some 18) rfl rfl Try.func17 (by kernel_rfl) rfl #[.slice A0 l0.length c0] rfl (by (try simp only [List.map_toArray, List.map_cons, List.map_nil]); first | done | rfl | (simp only [List.length_drop, List.length_take]; rfl)) ?_; (refine (c_few A0 c0 l0 _ _ HR0.out HC0.out HF.out).mono ?_); rintro e w1 ⟨rfl, hb⟩; refine ⟨_, rfl, ?_⟩; have n0_ := Aside0.mk (below_step (by repeat (first | (with_reducible first | exact HB.out | apply below_alloc | apply pw_below_drewN | apply below_drew1) | exact HB.out)) hb); have n1_ := Aside0.mk (Kd.C_below (by (with_reducible repeat (first | refine Kd.C_alloc ?_ _ | refine Kd.C_drewN ?_ _ | refine Kd.C_drew ?_)); exact HR0.out) hb); have n2_ := Aside0.mk (Kd.C_below (by (with_reducible repeat (first | refine Kd.C_alloc ?_ _ | refine Kd.C_drewN ?_ _ | refine Kd.C_drew ?_)); exact HR3.out) hb); (try clear HB); (try clear HR0); (try clear HR3); have HB := n0_; have HR0 := n1_; have HR3 := n2_; clear n0_ n1_ n2_; clear hb) | ((with_reducible refine gate_callee (f := 11) rfl ?_); refine goesL_ (some 25) rfl rfl Try.func11 (by kernel_rfl) rfl #[] rfl (by (try simp only [List.map_toArray, List.map_cons, List.map_nil]); first | done | rfl | (simp only [List.length_drop, List.length_take]; rfl)) ?_; (refine (c_awake _).mono ?_); rintro e w1 ⟨rfl, hb⟩; refine ⟨_, rfl, ?_⟩; have n0_ := Aside0.mk (below_step (by repeat (first | (with_reducible first | exact HB.out | apply below_alloc | apply pw_below_drewN | apply below_drew1) | exact HB.out)) hb); (try clear HB); have HB := n0_; clear n0_; clear hb))
  go_ret
  exact ⟨rfl, (by repeat (first | (with_reducible first | exact HB.out | apply below_alloc | apply pw_below_drewN | apply below_drew1) | exact HB.out))⟩
def All.T5 : Bool × List (List Nat × List Nat) := (true, [([], []), ([], []), ([], []), ([1, 2], [1, 2]), ([], []), ([], []), ([], []), ([5, 6], [5, 6]), ([4, 7], [4, 7]), ([], []), ([8, 9, 8], [8, 9]), ([], []), ([0, 3, 10, 11], [0, 3, 10, 11]), ([12, 10, 0, 1, 2, 3, 4, 5, 6, 7, 8, 9, 10, 11, 12], [12])])
def All.B5 : List Nat := [0, 0, 0, 6, 0, 0, 0, 96, 240, 0, 1008, 0, 4095, 8191]
theorem All.tab5 : rtab .any (opsOf Try.f9 5) = All.T5 := by kernel_rfl
theorem All.bits5 : waitsOk All.T5.2 All.B5 = true := by kernel_rfl
theorem row_step {P : Program} {ops : Array Oper} {o : Oper} {a : Act} {Q : Exit → Act → World → Prop} {Kc : Act → World → Prop} {W : World} (hw : Region.wanted o (yielded ops a.tmps) = true) {cs : Array Value} {t : TypeId} {n c : Nat}
    (hrun : (execOp a.eval o).run P W = .ok (.value (.slice (some ⟨W.heap.size, 0, none⟩) n c)) (W.alloc (.cells cs t (0, 0))))
    (h : ∀ g, ∀ w1, w1.heap[g]? = some (.cells cs t (0, 0)) → Below W.heap.size W w1 → g < w1.heap.size → Kc (a.put o.dst (.slice (some ⟨g, 0, none⟩) n c)) w1) : if Region.wanted o (yielded ops a.tmps) = true then Oper.wp P o a W Kc Q else Kc (a.put o.dst undef) W :=
  event_step hw hrun (h _ _ (blk_new W _) (below_alloc (Below.refl _ _) _) (by simp))
set_option maxHeartbeats 8000000 in
set_option maxRecDepth 100000 in
theorem short_ (A0 : Option Addr) (c0 : Nat) (l0 : List (List Int)) (key cut : Int) (A3 : Option Addr) (c3 : Nat) (l3 : List Int) (w : World) (hr0 : Kd.C (Kd.slice 5 (Kd.int .u8)) w A0 l0.length l0) (hc0 : l0.length ≤ c0) (hr3 : Kd.C (Kd.int .u8) w A3 l3.length l3) (hc3 : l3.length ≤ c3) (hf : cellplanelaw03_few.f 100 l0 = some true) (hl : l3.length ≤ 300) (b : List Int) (hw : cellplanelaw03_whole.f 70000 l0 key = some b) (hb0 : Bytes b) (hbl : b.length ≤ 6360) (hb3 : Bytes l3) : Calls Try.prog 9 #[.slice A0 l0.length c0, .int .i64 key, .int .i64 cut, .slice A3 l3.length c3] w fun e w' => e = .returned (.bool true) ∧ Below w.heap.size w w' := by
  have HB := Aside0.mk (Below.refl w.heap.size w)
  have HR0 := Aside0.mk hr0
  have HC0 := Aside0.mk hc0
  have HR3 := Aside0.mk hr3
  have HC3 := Aside0.mk hc3
  have HF := Aside0.mk hf
  clear hr0 hc0 hr3 hc3 hf
  have ci0 : decide (300 < (l3.length : Int)) = false := decide_eq_false (by omega)
  have ci1 : decide (300 < l3.length) = false := decide_eq_false (by omega)
  have HL3 := Aside0.mk hl
  have HW := Aside0.mk hw
  have HBB := Aside0.mk hb0
  have HB3 := Aside0.mk hb3
  have HBL := Aside0.mk hbl
  have hz0 : ¬ wrap64 ((b.length : Int) + 1) = 0 := by unfold wrap64; omega
  clear hl hw hb0 hb3 hbl
  go_enter Try.func9, Try.ntmps9
  go_wp2_with (first | ((with_reducible refine gate_callee (f := 17) rfl ?_); refine goesL_ (some 18) rfl rfl Try.func17 (by kernel_rfl) rfl #[.slice A0 l0.length c0] rfl (by (try simp only [List.map_toArray, List.map_cons, List.map_nil]); first | done | rfl | (simp only [List.length_drop, List.length_take]; rfl)) ?_; (refine (c_few A0 c0 l0 _ _ HR0.out HC0.out HF.out).mono ?_); rintro e w1 ⟨rfl, hb⟩; refine ⟨_, rfl, ?_⟩; have n0_ := Aside0.mk (below_step (by repeat (first | (with_reducible first | exact HB.out | apply below_alloc | apply pw_below_drewN | apply below_drew1) | exact HB.out)) hb); have n1_ := Aside0.mk (Kd.C_below (by (with_reducible repeat (first | refine Kd.C_alloc ?_ _ | refine Kd.C_drewN ?_ _ | refine Kd.C_drew ?_)); exact HR0.out) hb); have n2_ := Aside0.mk (Kd.C_below (by (with_reducible repeat (first | refine Kd.C_alloc ?_ _ | refine Kd.C_drewN ?_ _ | refine Kd.C_drew ?_)); exact HR3.out) hb); (try clear HB); (try clear HR0); (try clear HR3); have HB := n0_; have HR0 := n1_; have HR3 := n2_; clear n0_ n1_ n2_; clear hb) | ((with_reducible refine gate_callee (f := 18) rfl ?_); refine goesL_ (some 28) rfl rfl Try.func18 (by kernel_rfl) rfl #[.slice A0 l0.length c0, .int .i64 key] rfl (by (try simp only [List.map_toArray, List.map_cons, List.map_nil]); first | done | rfl | (simp only [List.length_drop, List.length_take]; rfl)) ?_; (refine (cellplanelaw03_whole.calls 70000 A0 c0 l0 key b _ HR0.out HC0.out HW.out).mono ?_); rintro e w1 ⟨v9, rfl, ho, hb⟩; refine ⟨_, rfl, ?_⟩; obtain ⟨A9, c9, rfl, hd9, hm9⟩ := Kd.R_reads ho; have HR9 := Aside0.mk hm9; have HC9 := Aside0.mk hd9; clear hm9 hd9 ho; have n0_ := Aside0.mk (below_step (by repeat (first | (with_reducible first | exact HB.out | apply below_alloc | apply pw_below_drewN | apply below_drew1) | exact HB.out)) hb); have n1_ := Aside0.mk (Kd.C_below (by (with_reducible repeat (first | refine Kd.C_alloc ?_ _ | refine Kd.C_drewN ?_ _ | refine Kd.C_drew ?_)); exact HR3.out) hb); (try clear HB); (try clear HR3); have HB := n0_; have HR3 := n1_; clear n0_ n1_; clear hb HR0))
  have hj := place2 (a := cut) (L := b.length) (by have := HBL.out; omega)
  clear hz0
  generalize (wrap64 (wrap64 (cut.tmod (wrap64 (↑b.length + 1)) + ↑b.length) + 1)).tmod (wrap64 (↑b.length + 1)) = j at hj ⊢
  obtain ⟨i0, hi0, _, hsz0, _⟩ := info_parts info5
  have hcut := cut_to (P := Try.prog) 22 5 .i64 Try.underlying22 hi0 A9 b.length c9 j hj.1 hj.2 HC9.out
  obtain ⟨y, hy⟩ : ∃ y : List Int, y = b.take j.toNat := ⟨_, rfl⟩
  have hyl : y.length = j.toNat := by rw [hy, List.length_take]; have := hj.1; have := hj.2; omega
  rw [← hyl] at hcut
  have HYL := Aside0.mk (show y.length ≤ b.length from by rw [hyl]; have := hj.1; have := hj.2; omega)
  have HYB : Aside0 (Bytes y) := ⟨by rw [hy]; exact HBB.out.take _⟩
  have HCY := Aside0.mk (Nat.le_trans HYL.out HC9.out)
  have HRY : Aside0 (Kd.C (Kd.int .u8) w1 A9 y.length y) := ⟨by rw [hy]; exact Kd.C_take HR9.out (by have := hj.1; have := hj.2; omega)⟩
  clear hj hy hyl hi0 hsz0
  have n0_ := Aside0.mk (Kd.C_drew HR9.out)
  have n1_ := Aside0.mk (Kd.C_drew HRY.out)
  have n2_ := Aside0.mk (Kd.C_drew HR3.out)
  have n3_ := Aside0.mk (below_drew1 HB.out)
  (try clear HR9)
  (try clear HRY)
  (try clear HR3)
  (try clear HB)
  have HR9 := n0_
  have HRY := n1_
  have HR3 := n2_
  have HB := n3_
  clear n0_ n1_ n2_ n3_
  refine start_ (n := 14) (S := fun w' => True) (ds := []) #[false, false, false, false, false, false, false, false, false, false, false, false, false, false] (by kernel_rfl) rfl rfl trivial (fun hHeld => ?_); refine with_tabW All.tab5 All.bits5 (fun HT_ HW_ => ?_)
  generalize World.drew _ = w5 at HR9 HRY HR3 HB hHeld ⊢
  have HB5 := Aside0.mk (Below.refl w5.heap.size w5)
  refine pure_ (i := 0) (N := some 42) (v := ?_) (a' := ?_) #[true, false, false, false, false, false, false, false, false, false, false, false, false, false] rfl rfl (any_of HT_.out (by kernel_rfl)) (fun _ _ _ h => h) (Or.inl ⟨by rfl, ?_⟩) ?_ ?_
  rotate_left
  · intro w'
    go_simp
    with_reducible rfl
  rotate_left
  · simp only [Act.put, List.setIfInBounds_toArray, List.set_cons_zero, List.set_cons_succ, i64_w, i32_w]
    rfl
  refine pure_ (i := 1) (N := some 43) (v := ?_) (a' := ?_) #[true, true, false, false, false, false, false, false, false, false, false, false, false, false] rfl rfl (any_of HT_.out (by kernel_rfl)) (fun _ _ _ h => h) (Or.inl ⟨by rfl, ?_⟩) ?_ ?_
  rotate_left
  · intro w'
    go_simp
    with_reducible rfl
  rotate_left
  · simp only [Act.put, List.setIfInBounds_toArray, List.set_cons_zero, List.set_cons_succ, i64_w, i32_w]
    rfl
  refine pure_ (i := 2) (N := some 44) (v := ?_) (a' := ?_) #[true, true, true, false, false, false, false, false, false, false, false, false, false, false] rfl rfl (any_of HT_.out (by kernel_rfl)) (fun _ _ _ h => h) (Or.inl ⟨by rfl, ?_⟩) ?_ ?_
  rotate_left
  · intro w'
    go_simp
    with_reducible rfl
  rotate_left
  · simp only [Act.put, List.setIfInBounds_toArray, List.set_cons_zero, List.set_cons_succ, i64_w, i32_w]
    rfl
  refine pure_ (i := 3) (N := some 45) (v := ?_) (a' := ?_) #[true, true, true, true, false, false, false, false, false, false, false, false, false, false] rfl rfl (any_of HT_.out (by kernel_rfl)) (fun _ _ _ h => h) (Or.inl ⟨by rfl, ?_⟩) ?_ ?_
  rotate_left
  · intro w'
    go_simp
    with_reducible rfl
  rotate_left
  · simp only [Act.put, List.setIfInBounds_toArray, List.set_cons_zero, List.set_cons_succ, i64_w, i32_w]
    rfl
  refine pure_ (i := 5) (N := some 47) (v := ?_) (a' := ?_) #[true, true, true, true, false, true, false, false, false, false, false, false, false, false] rfl rfl (any_of HT_.out (by kernel_rfl)) (fun _ _ _ h => h) (Or.inl ⟨by rfl, ?_⟩) ?_ ?_
  rotate_left
  · intro w'
    go_simp
    with_reducible rfl
  rotate_left
  · simp only [Act.put, List.setIfInBounds_toArray, List.set_cons_zero, List.set_cons_succ, i64_w, i32_w]
    rfl
  refine pure_ (i := 6) (N := some 48) (v := ?_) (a' := ?_) #[true, true, true, true, false, true, true, false, false, false, false, false, false, false] rfl rfl (any_of HT_.out (by kernel_rfl)) (fun _ _ _ h => h) (Or.inl ⟨by rfl, ?_⟩) ?_ ?_
  rotate_left
  · intro w'
    go_simp
    with_reducible rfl
  rotate_left
  · simp only [Act.put, List.setIfInBounds_toArray, List.set_cons_zero, List.set_cons_succ, i64_w, i32_w]
    rfl
  refine pure_ (i := 7) (N := some 49) (v := ?_) (a' := ?_) #[true, true, true, true, false, true, true, true, false, false, false, false, false, false] rfl rfl (any_of HT_.out (by kernel_rfl)) (fun _ _ _ h => h) (Or.inl ⟨by rfl, ?_⟩) ?_ ?_
  rotate_left
  · intro w'
    go_simp
    with_reducible rfl
  rotate_left
  · simp only [Act.put, List.setIfInBounds_toArray, List.set_cons_zero, List.set_cons_succ, i64_w, i32_w]
    rfl
  refine pure_ (i := 9) (N := some 51) (v := ?_) (a' := ?_) #[true, true, true, true, false, true, true, true, false, true, false, false, false, false] rfl rfl (any_of HT_.out (by kernel_rfl)) (fun _ _ _ h => h) (Or.inl ⟨by rfl, ?_⟩) ?_ ?_
  rotate_left
  · intro w'
    go_simp
    with_reducible rfl
  rotate_left
  · simp only [Act.put, List.setIfInBounds_toArray, List.set_cons_zero, List.set_cons_succ, i64_w, i32_w]
    rfl
  refine pure_ (i := 11) (N := some 53) (v := ?_) (a' := ?_) #[true, true, true, true, false, true, true, true, false, true, false, true, false, false] rfl rfl (any_of HT_.out (by kernel_rfl)) (fun _ _ _ h => h) (Or.inl ⟨by rfl, ?_⟩) ?_ ?_
  rotate_left
  · intro w'
    go_simp
    with_reducible rfl
  rotate_left
  · simp only [Act.put, List.setIfInBounds_toArray, List.set_cons_zero, List.set_cons_succ, i64_w, i32_w]
    rfl
  refine one_ (i := 4) (N := some 46) #[true, true, true, true, true, true, true, true, false, true, false, true, false, false] rfl rfl (one_of HT_.out (by kernel_rfl)) (by decide) (fun K hK => ?_)
  refine Kd.R_lit_step (Kd.int .u8) (w0 := w5) w5.heap.size 5 ?hg (N := 46) ?hd (xs := ([] : List Int)) (inner := []) (ok := fun _ => True) (okp := fun _ => True) ?hr ?hp (fun _ hk => hk) trivial HB5.out (Nat.le_refl _) (by simp) ?_; (case hd => rfl); (case hg => rfl); (case hr => first | (go_simp; done) | (go_simp; rfl)); (case hp => exact (Reps.none _ _))
  intro v6 w6 ho hb hg_ hnew_
  have n0_ := Aside0.mk (ho)
  have n1_ := Aside0.mk (hb)
  (try clear HO)
  (try clear HB5)
  have HO := n0_
  have HB5 := n1_
  clear n0_ n1_
  clear ho hb hg_ hnew_
  refine hK.out _ _ trivial (fun hHeld => ?_)
  clear hK K
  refine norm_ (a' := ?_) ?_ ?_
  rotate_left
  · show Act.put _ (some 46) _ = _
    simp only [Act.put, List.setIfInBounds_toArray, List.set_cons_zero, List.set_cons_succ, i64_w, i32_w]
    rfl
  refine one_ (i := 8) (N := some 50) #[true, true, true, true, true, true, true, true, true, true, false, true, false, false] rfl rfl (one_of HT_.out (by kernel_rfl)) (by decide) (fun K hK => ?_)
  refine Kd.R_append_rows_step (Kd.int .u8) (w0 := w5) w5.heap.size (by rfl) (.tmp 46) (.tmp 49) 22 5 (.int .u8 0) 1 rfl Try.underlying22 info5 rfl (by decide) (by omega) v6 ([]) y _ _ _ (fun _ => True) (fun _ => False) rfl rfl ?aO ?aR (fun _ _ h => h) (fun _ h => h.elim) (fun _ _ => trivial) ?aB ?aS ?aL ?_
  (case aO => exact HO.out)
  (case aR => exact Kd.C_below HRY.out HB5.out)
  (case aB => exact HB5.out)
  (case aS => exact below_size HB5.out)
  (case aL => have := HYL.out; have := HBL.out; have := HL3.out; simp only [List.length_nil, List.length_append]; omega)
  intro v7 w7 ho hb hg hat
  have n0_ := Aside0.mk (ho)
  have n1_ := Aside0.mk (hb)
  (try clear HO)
  (try clear HB5)
  have HO := n0_
  have HB5 := n1_
  clear n0_ n1_
  clear ho hb hg hat
  refine hK.out _ _ trivial (fun hHeld => ?_)
  clear hK K
  refine norm_ (a' := ?_) ?_ ?_
  rotate_left
  · show Act.put _ (some 50) _ = _
    simp only [Act.put, List.setIfInBounds_toArray, List.set_cons_zero, List.set_cons_succ, i64_w, i32_w]
    rfl
  refine one_ (i := 10) (N := some 52) #[true, true, true, true, true, true, true, true, true, true, true, true, false, false] rfl rfl (one_of HT_.out (by kernel_rfl)) (by decide) (fun K hK => ?_)
  refine Kd.R_append_rows_step (Kd.int .u8) (w0 := w5) w5.heap.size (by rfl) (.tmp 50) (.tmp 51) 22 5 (.int .u8 0) 1 rfl Try.underlying22 info5 rfl (by decide) (by omega) v7 ([] ++ y) l3 _ _ _ (fun _ => True) (fun _ => False) rfl rfl ?aO ?aR (fun _ _ h => h) (fun _ h => h.elim) (fun _ _ => trivial) ?aB ?aS ?aL ?_
  (case aO => exact HO.out)
  (case aR => exact Kd.C_below HR3.out HB5.out)
  (case aB => exact HB5.out)
  (case aS => exact below_size HB5.out)
  (case aL => have := HYL.out; have := HBL.out; have := HL3.out; simp only [List.length_nil, List.length_append]; omega)
  intro v8 w8 ho hb hg hat
  have n0_ := Aside0.mk (ho)
  have n1_ := Aside0.mk (hb)
  (try clear HO)
  (try clear HB5)
  have HO := n0_
  have HB5 := n1_
  clear n0_ n1_
  clear ho hb hg hat
  obtain ⟨m8, e8⟩ : ∃ m : List Int, m = [] ++ y ++ l3 := ⟨_, rfl⟩
  have ho8 := HO.out
  rw [← e8] at ho8
  have HE8 := Aside0.mk e8
  clear e8
  obtain ⟨A8, c8, rfl, hd8, hm8⟩ := Kd.R_reads ho8
  clear ho8
  have HR8 := Aside0.mk hm8
  have HC8 := Aside0.mk hd8
  clear hm8 hd8 HO
  refine hK.out _ _ trivial (fun hHeld => ?_)
  clear hK K
  refine norm_ (a' := ?_) ?_ ?_
  rotate_left
  · show Act.put _ (some 52) _ = _
    simp only [Act.put, List.setIfInBounds_toArray, List.set_cons_zero, List.set_cons_succ, i64_w, i32_w]
    rfl
  refine one_ (i := 12) (N := some 54) #[true, true, true, true, true, true, true, true, true, true, true, true, true, false] rfl rfl (one_of HT_.out (by kernel_rfl)) (by decide) (fun K hK => ?_)
  refine row_step (cs := #[.slice A9 b.length c9, .slice A9 y.length c9, .slice A8 m8.length c8, .slice A3 l3.length c3]) (t := 22) (n := 4) (c := 4) ?hg ?hr ?_; (case hg => rfl); (case hr => first | (go_simp; done) | (go_simp; rfl))
  intro g w9 hbk hb hlt
  have HBK := Aside0.mk hbk
  have HGL := Aside0.mk hlt
  have n0_ := Aside0.mk (Kd.C_below (Kd.C_below HR9.out HB5.out) hb)
  have n1_ := Aside0.mk (Kd.C_below (Kd.C_below HRY.out HB5.out) hb)
  have n2_ := Aside0.mk (Kd.C_below (Kd.C_below HR3.out HB5.out) hb)
  have n3_ := Aside0.mk (Kd.C_below HR8.out hb)
  have n4_ := Aside0.mk (below_step (below_step HB.out HB5.out) hb)
  (try clear HR9)
  (try clear HRY)
  (try clear HR3)
  (try clear HR8)
  (try clear HB)
  have HR9 := n0_
  have HRY := n1_
  have HR3 := n2_
  have HR8 := n3_
  have HB := n4_
  clear n0_ n1_ n2_ n3_ n4_
  clear HB5 hbk hb hlt
  refine hK.out _ _ trivial (fun hHeld => ?_)
  clear hK K
  refine norm_ (a' := ?_) ?_ ?_
  rotate_left
  · show Act.put _ (some 54) _ = _
    simp only [Act.put, List.setIfInBounds_toArray, List.set_cons_zero, List.set_cons_succ, i64_w, i32_w]
    rfl
  refine pure_ (i := 13) (N := some 11) (v := ?_) (a' := ?_) #[true, true, true, true, true, true, true, true, true, true, true, true, true, true] rfl rfl (any_of HT_.out (by kernel_rfl)) (fun _ _ _ h => h) (Or.inl ⟨by rfl, ?_⟩) ?_ ?_
  rotate_left
  · intro w'
    go_simp
    with_reducible rfl
  rotate_left
  · simp only [Act.put, List.setIfInBounds_toArray, List.set_cons_zero, List.set_cons_succ, i64_w, i32_w]
    rfl
  refine done_ (done_of HT_.out (by kernel_rfl)) ?_
  have T0 := Aside0.mk (alls (key := key) HBB.out (by have := HBL.out; omega))
  have TY := Aside0.mk (alls (key := key) HYB.out (by have := HYL.out; have := HBL.out; omega))
  have TM := Aside0.mk (alls (key := key) (b := m8) (by rw [HE8.out]; exact (Bytes.nil.append HYB.out).append HB3.out) (by rw [HE8.out]; have := HYL.out; have := HBL.out; have := HL3.out; simp only [List.length_nil, List.length_append]; omega))
  have T33 := Aside0.mk (alls (key := key) HB3.out (by have := HL3.out; omega))
  have HBL9 := Aside0.mk (Below.refl w9.heap.size w9)
  go_wp2
  go_loopg [12] 5 (fun kq v12 w' => ∃ i : Nat, v12 = .int .i64 (i : Int) ∧ Aside0 (i + kq = 5 ∧ i ≤ 4) ∧ Aside0 (Below w9.heap.size w9 w'))
  case atStart => exact ⟨0, rfl, ⟨by omega, by omega⟩, HBL9⟩
  case round =>
    clear HBL9
    obtain ⟨i, rfl, HN, HBL9⟩ := hrel
    obtain rfl | rfl | rfl | rfl | rfl : i = 0 ∨ i = 1 ∨ i = 2 ∨ i = 3 ∨ i = 4 := by have := HN.out.2; omega
    · obtain ⟨ls, n, ht1, ht2, ht3⟩ := T0.out
      have T1 := Aside0.mk ht1
      have T2 := Aside0.mk ht2
      have T3 := Aside0.mk ht3
      clear ht1 ht2 ht3
      have hcz : wr.cell? ⟨g, 0, none⟩ = some (.slice A9 (b).length c9) := (blk_cell (blk_below HBK.out HBL9.out) 0).trans rfl
      go_wp2_with (first | ((with_reducible refine gate_callee (f := 19) rfl ?_); refine goesL_ (some 67) rfl rfl Try.func19 (by kernel_rfl) rfl #[.slice A9 (b).length c9, .int .i64 key] rfl (by (try simp only [List.map_toArray, List.map_cons, List.map_nil]); first | done | rfl | (simp only [List.length_drop, List.length_take]; rfl)) ?_; (refine (frame_All.calls 2000000 A9 c9 (b) key ls n _ (Kd.C_below HR9.out HBL9.out) HC9.out T1.out).mono ?_); rintro e w1 ⟨v1, rfl, ho, hb⟩; refine ⟨_, rfl, ?_⟩; obtain ⟨A1, d1, rfl, hd1, hm1⟩ := Kd.S_reads ho; have HM1 := Aside0.mk hm1; have HD1 := Aside0.mk hd1; clear hm1 hd1 ho; have hcz2 := (hb.cell (World.block_lt_of_cell? _ _ hcz)).trans hcz; clear hcz; have hcz := hcz2; clear hcz2; have n0_ := Aside0.mk (below_step HBL9.out hb); (try clear HBL9); have HBL9 := n0_; clear n0_; clear hb) | ((with_reducible refine gate_callee (f := 20) rfl ?_); refine goesL_ (some 76) rfl rfl Try.func20 (by kernel_rfl) rfl #[.slice A9 (b).length c9, .int .i64 key] rfl (by (try simp only [List.map_toArray, List.map_cons, List.map_nil]); first | done | rfl | (simp only [List.length_drop, List.length_take]; rfl)) ?_; (refine (cellplaneref03_All.calls 2000000 A9 c9 (b) key ls n _ (Kd.C_below HR9.out HBL9.out) HC9.out T2.out).mono ?_); rintro e w1 ⟨v2, rfl, ho, hb⟩; refine ⟨_, rfl, ?_⟩; obtain ⟨A2, d2, rfl, hd2, hm2⟩ := Kd.S_reads ho; have HM2 := Aside0.mk hm2; have HD2 := Aside0.mk hd2; clear hm2 hd2 ho; have n0_ := Aside0.mk (below_step HBL9.out hb); have n1_ := Aside0.mk (Kd.C_below HM1.out hb); (try clear HBL9); (try clear HM1); have HBL9 := n0_; have HM1 := n1_; clear n0_ n1_; clear hb) | ((with_reducible refine gate_callee (f := 21) rfl ?_); refine goesL_ (some 81) rfl rfl Try.func21 (by kernel_rfl) rfl #[.slice A1 ls.length d1, .slice A2 ls.length d2] rfl (by (try simp only [List.map_toArray, List.map_cons, List.map_nil]); first | done | rfl | (simp only [List.length_drop, List.length_take]; rfl)) ?_; (refine (c_same ls A1 A2 d1 d2 _ HM1.out HD1.out HM2.out HD2.out T3.out).mono ?_); rintro e w1 ⟨rfl, hb⟩; refine ⟨_, rfl, ?_⟩; have n0_ := Aside0.mk (below_step HBL9.out hb); (try clear HBL9); have HBL9 := n0_; clear n0_; clear hb))
      have HW : wrap64 ((0 : Int) + 1) = ((0 + 1 : Nat) : Int) := by decide +kernel
      go_roundg (gk - 1)
      case measure => have := HN.out; omega
      case rel => exact ⟨0 + 1, by first | rw [HW] | rfl, ⟨by have := HN.out; omega, by omega⟩, HBL9⟩
    · obtain ⟨ls, n, ht1, ht2, ht3⟩ := TY.out
      have T1 := Aside0.mk ht1
      have T2 := Aside0.mk ht2
      have T3 := Aside0.mk ht3
      clear ht1 ht2 ht3
      have hcz : wr.cell? ⟨g, 1, none⟩ = some (.slice A9 (y).length c9) := (blk_cell (blk_below HBK.out HBL9.out) 1).trans rfl
      go_wp2_with (first | ((with_reducible refine gate_callee (f := 19) rfl ?_); refine goesL_ (some 67) rfl rfl Try.func19 (by kernel_rfl) rfl #[.slice A9 (y).length c9, .int .i64 key] rfl (by (try simp only [List.map_toArray, List.map_cons, List.map_nil]); first | done | rfl | (simp only [List.length_drop, List.length_take]; rfl)) ?_; (refine (frame_All.calls 2000000 A9 c9 (y) key ls n _ (Kd.C_below HRY.out HBL9.out) HCY.out T1.out).mono ?_); rintro e w1 ⟨v1, rfl, ho, hb⟩; refine ⟨_, rfl, ?_⟩; obtain ⟨A1, d1, rfl, hd1, hm1⟩ := Kd.S_reads ho; have HM1 := Aside0.mk hm1; have HD1 := Aside0.mk hd1; clear hm1 hd1 ho; have hcz2 := (hb.cell (World.block_lt_of_cell? _ _ hcz)).trans hcz; clear hcz; have hcz := hcz2; clear hcz2; have n0_ := Aside0.mk (below_step HBL9.out hb); (try clear HBL9); have HBL9 := n0_; clear n0_; clear hb) | ((with_reducible refine gate_callee (f := 20) rfl ?_); refine goesL_ (some 76) rfl rfl Try.func20 (by kernel_rfl) rfl #[.slice A9 (y).length c9, .int .i64 key] rfl (by (try simp only [List.map_toArray, List.map_cons, List.map_nil]); first | done | rfl | (simp only [List.length_drop, List.length_take]; rfl)) ?_; (refine (cellplaneref03_All.calls 2000000 A9 c9 (y) key ls n _ (Kd.C_below HRY.out HBL9.out) HCY.out T2.out).mono ?_); rintro e w1 ⟨v2, rfl, ho, hb⟩; refine ⟨_, rfl, ?_⟩; obtain ⟨A2, d2, rfl, hd2, hm2⟩ := Kd.S_reads ho; have HM2 := Aside0.mk hm2; have HD2 := Aside0.mk hd2; clear hm2 hd2 ho; have n0_ := Aside0.mk (below_step HBL9.out hb); have n1_ := Aside0.mk (Kd.C_below HM1.out hb); (try clear HBL9); (try clear HM1); have HBL9 := n0_; have HM1 := n1_; clear n0_ n1_; clear hb) | ((with_reducible refine gate_callee (f := 21) rfl ?_); refine goesL_ (some 81) rfl rfl Try.func21 (by kernel_rfl) rfl #[.slice A1 ls.length d1, .slice A2 ls.length d2] rfl (by (try simp only [List.map_toArray, List.map_cons, List.map_nil]); first | done | rfl | (simp only [List.length_drop, List.length_take]; rfl)) ?_; (refine (c_same ls A1 A2 d1 d2 _ HM1.out HD1.out HM2.out HD2.out T3.out).mono ?_); rintro e w1 ⟨rfl, hb⟩; refine ⟨_, rfl, ?_⟩; have n0_ := Aside0.mk (below_step HBL9.out hb); (try clear HBL9); have HBL9 := n0_; clear n0_; clear hb))
      have HW : wrap64 ((1 : Int) + 1) = ((1 + 1 : Nat) : Int) := by decide +kernel
      go_roundg (gk - 1)
      case measure => have := HN.out; omega
      case rel => exact ⟨1 + 1, by first | rw [HW] | rfl, ⟨by have := HN.out; omega, by omega⟩, HBL9⟩
    · obtain ⟨ls, n, ht1, ht2, ht3⟩ := TM.out
      have T1 := Aside0.mk ht1
      have T2 := Aside0.mk ht2
      have T3 := Aside0.mk ht3
      clear ht1 ht2 ht3
      have hcz : wr.cell? ⟨g, 2, none⟩ = some (.slice A8 (m8).length c8) := (blk_cell (blk_below HBK.out HBL9.out) 2).trans rfl
      go_wp2_with (first | ((with_reducible refine gate_callee (f := 19) rfl ?_); refine goesL_ (some 67) rfl rfl Try.func19 (by kernel_rfl) rfl #[.slice A8 (m8).length c8, .int .i64 key] rfl (by (try simp only [List.map_toArray, List.map_cons, List.map_nil]); first | done | rfl | (simp only [List.length_drop, List.length_take]; rfl)) ?_; (refine (frame_All.calls 2000000 A8 c8 (m8) key ls n _ (Kd.C_below HR8.out HBL9.out) HC8.out T1.out).mono ?_); rintro e w1 ⟨v1, rfl, ho, hb⟩; refine ⟨_, rfl, ?_⟩; obtain ⟨A1, d1, rfl, hd1, hm1⟩ := Kd.S_reads ho; have HM1 := Aside0.mk hm1; have HD1 := Aside0.mk hd1; clear hm1 hd1 ho; have hcz2 := (hb.cell (World.block_lt_of_cell? _ _ hcz)).trans hcz; clear hcz; have hcz := hcz2; clear hcz2; have n0_ := Aside0.mk (below_step HBL9.out hb); (try clear HBL9); have HBL9 := n0_; clear n0_; clear hb) | ((with_reducible refine gate_callee (f := 20) rfl ?_); refine goesL_ (some 76) rfl rfl Try.func20 (by kernel_rfl) rfl #[.slice A8 (m8).length c8, .int .i64 key] rfl (by (try simp only [List.map_toArray, List.map_cons, List.map_nil]); first | done | rfl | (simp only [List.length_drop, List.length_take]; rfl)) ?_; (refine (cellplaneref03_All.calls 2000000 A8 c8 (m8) key ls n _ (Kd.C_below HR8.out HBL9.out) HC8.out T2.out).mono ?_); rintro e w1 ⟨v2, rfl, ho, hb⟩; refine ⟨_, rfl, ?_⟩; obtain ⟨A2, d2, rfl, hd2, hm2⟩ := Kd.S_reads ho; have HM2 := Aside0.mk hm2; have HD2 := Aside0.mk hd2; clear hm2 hd2 ho; have n0_ := Aside0.mk (below_step HBL9.out hb); have n1_ := Aside0.mk (Kd.C_below HM1.out hb); (try clear HBL9); (try clear HM1); have HBL9 := n0_; have HM1 := n1_; clear n0_ n1_; clear hb) | ((with_reducible refine gate_callee (f := 21) rfl ?_); refine goesL_ (some 81) rfl rfl Try.func21 (by kernel_rfl) rfl #[.slice A1 ls.length d1, .slice A2 ls.length d2] rfl (by (try simp only [List.map_toArray, List.map_cons, List.map_nil]); first | done | rfl | (simp only [List.length_drop, List.length_take]; rfl)) ?_; (refine (c_same ls A1 A2 d1 d2 _ HM1.out HD1.out HM2.out HD2.out T3.out).mono ?_); rintro e w1 ⟨rfl, hb⟩; refine ⟨_, rfl, ?_⟩; have n0_ := Aside0.mk (below_step HBL9.out hb); (try clear HBL9); have HBL9 := n0_; clear n0_; clear hb))
      have HW : wrap64 ((2 : Int) + 1) = ((2 + 1 : Nat) : Int) := by decide +kernel
      go_roundg (gk - 1)
      case measure => have := HN.out; omega
      case rel => exact ⟨2 + 1, by first | rw [HW] | rfl, ⟨by have := HN.out; omega, by omega⟩, HBL9⟩
    · obtain ⟨ls, n, ht1, ht2, ht3⟩ := T33.out
      have T1 := Aside0.mk ht1
      have T2 := Aside0.mk ht2
      have T3 := Aside0.mk ht3
      clear ht1 ht2 ht3
      have hcz : wr.cell? ⟨g, 3, none⟩ = some (.slice A3 (l3).length c3) := (blk_cell (blk_below HBK.out HBL9.out) 3).trans rfl
      go_wp2_with (first | ((with_reducible refine gate_callee (f := 19) rfl ?_); refine goesL_ (some 67) rfl rfl Try.func19 (by kernel_rfl) rfl #[.slice A3 (l3).length c3, .int .i64 key] rfl (by (try simp only [List.map_toArray, List.map_cons, List.map_nil]); first | done | rfl | (simp only [List.length_drop, List.length_take]; rfl)) ?_; (refine (frame_All.calls 2000000 A3 c3 (l3) key ls n _ (Kd.C_below HR3.out HBL9.out) HC3.out T1.out).mono ?_); rintro e w1 ⟨v1, rfl, ho, hb⟩; refine ⟨_, rfl, ?_⟩; obtain ⟨A1, d1, rfl, hd1, hm1⟩ := Kd.S_reads ho; have HM1 := Aside0.mk hm1; have HD1 := Aside0.mk hd1; clear hm1 hd1 ho; have hcz2 := (hb.cell (World.block_lt_of_cell? _ _ hcz)).trans hcz; clear hcz; have hcz := hcz2; clear hcz2; have n0_ := Aside0.mk (below_step HBL9.out hb); (try clear HBL9); have HBL9 := n0_; clear n0_; clear hb) | ((with_reducible refine gate_callee (f := 20) rfl ?_); refine goesL_ (some 76) rfl rfl Try.func20 (by kernel_rfl) rfl #[.slice A3 (l3).length c3, .int .i64 key] rfl (by (try simp only [List.map_toArray, List.map_cons, List.map_nil]); first | done | rfl | (simp only [List.length_drop, List.length_take]; rfl)) ?_; (refine (cellplaneref03_All.calls 2000000 A3 c3 (l3) key ls n _ (Kd.C_below HR3.out HBL9.out) HC3.out T2.out).mono ?_); rintro e w1 ⟨v2, rfl, ho, hb⟩; refine ⟨_, rfl, ?_⟩; obtain ⟨A2, d2, rfl, hd2, hm2⟩ := Kd.S_reads ho; have HM2 := Aside0.mk hm2; have HD2 := Aside0.mk hd2; clear hm2 hd2 ho; have n0_ := Aside0.mk (below_step HBL9.out hb); have n1_ := Aside0.mk (Kd.C_below HM1.out hb); (try clear HBL9); (try clear HM1); have HBL9 := n0_; have HM1 := n1_; clear n0_ n1_; clear hb) | ((with_reducible refine gate_callee (f := 21) rfl ?_); refine goesL_ (some 81) rfl rfl Try.func21 (by kernel_rfl) rfl #[.slice A1 ls.length d1, .slice A2 ls.length d2] rfl (by (try simp only [List.map_toArray, List.map_cons, List.map_nil]); first | done | rfl | (simp only [List.length_drop, List.length_take]; rfl)) ?_; (refine (c_same ls A1 A2 d1 d2 _ HM1.out HD1.out HM2.out HD2.out T3.out).mono ?_); rintro e w1 ⟨rfl, hb⟩; refine ⟨_, rfl, ?_⟩; have n0_ := Aside0.mk (below_step HBL9.out hb); (try clear HBL9); have HBL9 := n0_; clear n0_; clear hb))
      have HW : wrap64 ((3 : Int) + 1) = ((3 + 1 : Nat) : Int) := by decide +kernel
      go_roundg (gk - 1)
      case measure => have := HN.out; omega
      case rel => exact ⟨3 + 1, by first | rw [HW] | rfl, ⟨by have := HN.out; omega, by omega⟩, HBL9⟩
    · have HB_ := Aside0.mk (below_step HB.out HBL9.out)
      clear HB
      have HB := HB_
      clear HB_
      go_wp2_with (first | ((with_reducible refine gate_callee (f := 11) rfl ?_); refine goesL_ (some 88) rfl rfl Try.func11 (by kernel_rfl) rfl #[] rfl (by (try simp only [List.map_toArray, List.map_cons, List.map_nil]); first | done | rfl | (simp only [List.length_drop, List.length_take]; rfl)) ?_; (refine (c_awake _).mono ?_); rintro e w1 ⟨rfl, hb⟩; refine ⟨_, rfl, ?_⟩; have n0_ := Aside0.mk (below_step (by repeat (first | (with_reducible first | exact HB.out | apply below_alloc | apply pw_below_drewN | apply below_drew1) | exact HB.out)) hb); (try clear HB); have HB := n0_; clear n0_; clear hb))
      go_ret
      exact ⟨rfl, (by repeat (first | (with_reducible first | exact HB.out | apply below_alloc | apply pw_below_drewN | apply below_drew1) | exact HB.out))⟩
theorem cellplanelaw03_FrameAll.all (A0 : Option Addr) (c0 : Nat) (l0 : List (List Int)) (key cut : Int) (A3 : Option Addr) (c3 : Nat) (l3 : List Int) (w : World) (hr0 : Kd.C (Kd.slice 5 (Kd.int .u8)) w A0 l0.length l0) (hc0 : l0.length ≤ c0) (hr3 : Kd.C (Kd.int .u8) w A3 l3.length l3) (hc3 : l3.length ≤ c3) (hb0 : AllBytes l0) (hb3 : Bytes l3) : Calls Try.prog 9 #[.slice A0 l0.length c0, .int .i64 key, .int .i64 cut, .slice A3 l3.length c3] w fun e w' => e = .returned (.bool true) ∧ Below w.heap.size w w' := by
  rcases few_f (k := 100) (l := l0) (by omega) with ⟨hf, hfew⟩ | hf
  · by_cases hl : l3.length ≤ 300
    · have hlen := frs_len (key := key) hfew.2
      exact short_ A0 c0 l0 key cut A3 c3 l3 w hr0 hc0 hr3 hc3 hf hl (frs key l0) (whole_f hb0 hfew (by omega)) (frs_bytes hb0 hfew.2) (by have := hfew.1; omega) hb3
    · exact long_ A0 c0 l0 key cut A3 c3 l3 w hr0 hc0 hr3 hc3 hf hl
  · exact many_ A0 c0 l0 key cut A3 c3 l3 w hr0 hc0 hr3 hc3 hf
end Go.Proofs.Ytjmbcdbnglconaa.QFrameAll
