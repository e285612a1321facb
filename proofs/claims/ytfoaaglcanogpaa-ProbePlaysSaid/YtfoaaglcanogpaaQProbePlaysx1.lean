-- Written by a program of this session's own (wip/myprint.sh). Lean checks it.
import Derived.Test.YtfoaaglcanogpaaQProbePlaysx0
namespace Go.Proofs.Ytfoaaglcanogpaa.QProbePlays
open Go.RowKit Go.Proofs.YtfoaaglcanogpaaW.PrintWords Go.Proofs.YtfoaaglcanogpaaW.PrintLast Go.Proofs.YtfoaaglcanogpaaW.PrintMore
attribute [local go_sem] max2_int min2_int max_two min_two max_three min_three max_four min_four   -- for this text's walks alone
set_option linter.unusedVariables false
set_option linter.unusedSimpArgs false

-- NOT PRINTED: function 17 (probe_New)

/-- A state of type 51 at block g of W; what its slices lead to came in by w0. -/
def IsS51 (w0 W : World) (g : Nat) (f0 : Int) (f1 : Int) (f2 : Bool) (f3 : Int) : Prop := W.heap[g]? = some (.cells #[.int .i64 f0, .int .i64 f1, .bool f2, .int .i64 f3] 51 (0, 0)) ∧ w0.heap.size ≤ g
theorem IsS51.grown {w0 W : World} {g : Nat} {f0 : Int} {f1 : Int} {f2 : Bool} {f3 : Int} {W1 : World} {row : Option Nat} (h : IsS51 w0 W g f0 f1 f2 f3) (hw : W.grownBy W1 row) (hne : some g ≠ row) : IsS51 w0 W1 g f0 f1 f2 f3 := by
  obtain ⟨hb, hg⟩ := h
  exact ⟨blk_grown hb hw hne, hg⟩
theorem IsS51.own_neN {w0 W : World} {g : Nat} {f0 : Int} {f1 : Int} {f2 : Bool} {f3 : Int} {α : Type} {d : Kd α} {e : Nat} {base : Nat} {ok : Nat → Prop} {v : Value} {xs : List α} (h : IsS51 w0 W g f0 f1 f2 f3) (ho : Kd.N d e W base ok v xs) (ht : e ≠ 51) : some g ≠ v.ownBlock := by
  obtain ⟨hb, hg⟩ := h
  exact Kd.N_ne ho hb ht
theorem IsS51.fresh {w0 W : World} {g : Nat} {f0 : Int} {f1 : Int} {f2 : Bool} {f3 : Int} (h : IsS51 w0 W g f0 f1 f2 f3) : ∀ k, W.heap.size ≤ k → k ≠ g := by
  obtain ⟨hb, hg⟩ := h
  exact Kd.freshB hb
theorem IsS51.kept {w0 W : World} {g : Nat} {f0 : Int} {f1 : Int} {f2 : Bool} {f3 : Int} {W1 : World} {S : Nat → Prop} (h : IsS51 w0 W g f0 f1 f2 f3) (hk : Kept W W1 S) (hne : ¬ S g) : IsS51 w0 W1 g f0 f1 f2 f3 := by
  obtain ⟨hb, hg⟩ := h
  exact ⟨blk_kept hb hk hne, hg⟩
theorem IsS51.below {w0 W : World} {g : Nat} {f0 : Int} {f1 : Int} {f2 : Bool} {f3 : Int} {W1 : World} (h : IsS51 w0 W g f0 f1 f2 f3) (hw : Below W.heap.size W W1) : IsS51 w0 W1 g f0 f1 f2 f3 := h.grown (grown_of_below hw none) (by simp)
theorem IsS51.alloc {w0 W : World} {g : Nat} {f0 : Int} {f1 : Int} {f2 : Bool} {f3 : Int} (h : IsS51 w0 W g f0 f1 f2 f3) (o : Obj) : IsS51 w0 (W.alloc o) g f0 f1 f2 f3 := h.below (below_alloc (Below.refl _ _) o)
theorem IsS51.drewN {w0 W : World} {g : Nat} {f0 : Int} {f1 : Int} {f2 : Bool} {f3 : Int} (h : IsS51 w0 W g f0 f1 f2 f3) (m : Nat) : IsS51 w0 (W.drewN m) g f0 f1 f2 f3 := h
theorem IsS51.drew {w0 W : World} {g : Nat} {f0 : Int} {f1 : Int} {f2 : Bool} {f3 : Int} (h : IsS51 w0 W g f0 f1 f2 f3) : IsS51 w0 W.drew g f0 f1 f2 f3 := h
theorem IsS51.at_ {w0 W : World} {g : Nat} {f0 : Int} {f1 : Int} {f2 : Bool} {f3 : Int} {w' : World} {m : Nat} (hq : W.drewN m = w') (h : IsS51 w0 W g f0 f1 f2 f3) : IsS51 w0 w' g f0 f1 f2 f3 := by subst hq; exact IsS51.drewN h m
theorem IsS51.apart {w0 W : World} {g : Nat} {f0 : Int} {f1 : Int} {f2 : Bool} {f3 : Int} {α : Type} {d : Kd α} {e : Nat} {base : Nat} {ok : Nat → Prop} {v : Value} {xs : List α} (h : IsS51 w0 W g f0 f1 f2 f3) (ho : d.R e W base ok v xs) (ht : ∀ q, q ∈ e :: d.E → q ≠ 51) : d.R e W base (fun k => ok k ∧ k ≠ g) v xs := by
  obtain ⟨hb, hg⟩ := h
  exact Kd.R_types ho hb ht
theorem IsS51.own_ne {w0 W : World} {g : Nat} {f0 : Int} {f1 : Int} {f2 : Bool} {f3 : Int} {α : Type} {d : Kd α} {e : Nat} {base : Nat} {ok : Nat → Prop} {v : Value} {xs : List α} (h : IsS51 w0 W g f0 f1 f2 f3) (ho : d.R e W base ok v xs) (ht : e ≠ 51) : some g ≠ v.ownBlock := by
  obtain ⟨hb, hg⟩ := h
  exact Kd.R_ne ho hb ht
theorem IsS51.apartQ {w0 W : World} {g : Nat} {f0 : Int} {f1 : Int} {f2 : Bool} {f3 : Int} {α : Type} {d : Kd α} {e : Nat} {base : Nat} {ok : Nat → Prop} {v : Value} {xs : List α} (h : IsS51 w0 W g f0 f1 f2 f3) (ho : d.Q e W base ok v xs) (ht : ∀ q, q ∈ e :: d.E → q ≠ 51) : d.Q e W base (fun k => ok k ∧ k ≠ g) v xs := by
  obtain ⟨hb, hg⟩ := h
  exact Kd.Q_types ho hb ht
theorem IsS51.own_neQ {w0 W : World} {g : Nat} {f0 : Int} {f1 : Int} {f2 : Bool} {f3 : Int} {α : Type} {d : Kd α} {e : Nat} {base : Nat} {ok : Nat → Prop} {v : Value} {xs : List α} (h : IsS51 w0 W g f0 f1 f2 f3) (ho : d.Q e W base ok v xs) (ht : e ≠ 51) : some g ≠ v.ownBlock := by
  obtain ⟨hb, hg⟩ := h
  exact Kd.Q_ne ho hb ht
theorem IsS51.apartS {w0 W : World} {g : Nat} {f0 : Int} {f1 : Int} {f2 : Bool} {f3 : Int} {α : Type} {d : Kd α} {e : Nat} {base : Nat} {ok : Nat → Prop} {v : Value} {xs : List α} (h : IsS51 w0 W g f0 f1 f2 f3) (ho : d.S e W base ok v xs) (ht : ∀ q, q ∈ e :: d.E → q ≠ 51) : d.S e W base (fun k => ok k ∧ k ≠ g) v xs := by
  obtain ⟨hb, hg⟩ := h
  exact Kd.S_types ho hb ht
theorem IsS51.own_neS {w0 W : World} {g : Nat} {f0 : Int} {f1 : Int} {f2 : Bool} {f3 : Int} {α : Type} {d : Kd α} {e : Nat} {base : Nat} {ok : Nat → Prop} {v : Value} {xs : List α} (h : IsS51 w0 W g f0 f1 f2 f3) (ho : d.S e W base ok v xs) (ht : e ≠ 51) : some g ≠ v.ownBlock := by
  obtain ⟨hb, hg⟩ := h
  exact Kd.S_ne ho hb ht
theorem IsS51.lt {w0 W : World} {g : Nat} {f0 : Int} {f1 : Int} {f2 : Bool} {f3 : Int} (h : IsS51 w0 W g f0 f1 f2 f3) : g < W.heap.size := by
  obtain ⟨hb, hg⟩ := h
  exact blk_lt hb
theorem IsS51.ge {w0 W : World} {g : Nat} {f0 : Int} {f1 : Int} {f2 : Bool} {f3 : Int} (h : IsS51 w0 W g f0 f1 f2 f3) : w0.heap.size ≤ g := by
  obtain ⟨hb, hg⟩ := h
  exact hg
theorem IsS51.ne_blk {w0 W : World} {g : Nat} {f0 : Int} {f1 : Int} {f2 : Bool} {f3 : Int} {a : Nat} {cs : Array Value} {t : TypeId} {fr : Nat × Nat} (h : IsS51 w0 W g f0 f1 f2 f3) (hb2 : W.heap[a]? = some (.cells cs t fr)) (ht : t ≠ 51) : g ≠ a := by
  obtain ⟨hb, hg⟩ := h
  rintro rfl
  rw [hb] at hb2
  injection hb2 with hb2
  injection hb2 with _ ht2
  exact ht ht2.symm
theorem IsS51.far {w0 W : World} {g : Nat} {f0 : Int} {f1 : Int} {f2 : Bool} {f3 : Int} {p : Addr} (h : IsS51 w0 W g f0 f1 f2 f3) (hne : g ≠ p.block) (u : Value) : IsS51 w0 (W.setCell p u) g f0 f1 f2 f3 := by
  obtain ⟨hb, hg⟩ := h
  exact ⟨blk_far hb hne u, hg⟩
theorem cellS51_0 {W : World} {g : Nat} {f0 : Int} {f1 : Int} {f2 : Bool} {f3 : Int} (h : W.heap[g]? = some (.cells #[.int .i64 f0, .int .i64 f1, .bool f2, .int .i64 f3] 51 (0, 0))) : W.cell? ⟨g, 0, none⟩ = some (.int .i64 f0) := (blk_cell h 0).trans rfl
theorem IsS51.set_0 {w0 W : World} {g : Nat} {f0 : Int} {f1 : Int} {f2 : Bool} {f3 : Int} (h : IsS51 w0 W g f0 f1 f2 f3) (x : Int) : IsS51 w0 (W.setCell ⟨g, 0, none⟩ (.int .i64 x)) g x f1 f2 f3 := by
  obtain ⟨hb, hg⟩ := h
  exact ⟨by simpa using blk_set hb 0 (.int .i64 x), hg⟩
theorem cellS51_1 {W : World} {g : Nat} {f0 : Int} {f1 : Int} {f2 : Bool} {f3 : Int} (h : W.heap[g]? = some (.cells #[.int .i64 f0, .int .i64 f1, .bool f2, .int .i64 f3] 51 (0, 0))) : W.cell? ⟨g, 1, none⟩ = some (.int .i64 f1) := (blk_cell h 1).trans rfl
theorem IsS51.set_1 {w0 W : World} {g : Nat} {f0 : Int} {f1 : Int} {f2 : Bool} {f3 : Int} (h : IsS51 w0 W g f0 f1 f2 f3) (x : Int) : IsS51 w0 (W.setCell ⟨g, 1, none⟩ (.int .i64 x)) g f0 x f2 f3 := by
  obtain ⟨hb, hg⟩ := h
  exact ⟨by simpa using blk_set hb 1 (.int .i64 x), hg⟩
theorem cellS51_2 {W : World} {g : Nat} {f0 : Int} {f1 : Int} {f2 : Bool} {f3 : Int} (h : W.heap[g]? = some (.cells #[.int .i64 f0, .int .i64 f1, .bool f2, .int .i64 f3] 51 (0, 0))) : W.cell? ⟨g, 2, none⟩ = some (.bool f2) := (blk_cell h 2).trans rfl
theorem IsS51.set_2 {w0 W : World} {g : Nat} {f0 : Int} {f1 : Int} {f2 : Bool} {f3 : Int} (h : IsS51 w0 W g f0 f1 f2 f3) (x : Bool) : IsS51 w0 (W.setCell ⟨g, 2, none⟩ (.bool x)) g f0 f1 x f3 := by
  obtain ⟨hb, hg⟩ := h
  exact ⟨by simpa using blk_set hb 2 (.bool x), hg⟩
theorem cellS51_3 {W : World} {g : Nat} {f0 : Int} {f1 : Int} {f2 : Bool} {f3 : Int} (h : W.heap[g]? = some (.cells #[.int .i64 f0, .int .i64 f1, .bool f2, .int .i64 f3] 51 (0, 0))) : W.cell? ⟨g, 3, none⟩ = some (.int .i64 f3) := (blk_cell h 3).trans rfl
theorem IsS51.set_3 {w0 W : World} {g : Nat} {f0 : Int} {f1 : Int} {f2 : Bool} {f3 : Int} (h : IsS51 w0 W g f0 f1 f2 f3) (x : Int) : IsS51 w0 (W.setCell ⟨g, 3, none⟩ (.int .i64 x)) g f0 f1 f2 x := by
  obtain ⟨hb, hg⟩ := h
  exact ⟨by simpa using blk_set hb 3 (.int .i64 x), hg⟩
theorem IsS51.new (w0 W : World) (f0 : Int) (f1 : Int) (f2 : Bool) (f3 : Int) (hB : Below w0.heap.size w0 W) : IsS51 w0 (W.alloc (.cells #[.int .i64 f0, .int .i64 f1, .bool f2, .int .i64 f3] 51)) W.heap.size f0 f1 f2 f3 := ⟨by simpa using heap_alloc_new W _, hB.size⟩

/-! ### probe_Probe_Add: function 19 -/
def probe_Probe_Add.f (s0_0 : Int) (s0_1 : Int) (s0_2 : Bool) (s0_3 : Int) (a1 : Bool) : Option (Bool × Int × Int × Bool × Int) := if (a1 != s0_2) = true then (some (s0_2, s0_0, s0_1, s0_2, 0)) else (if s0_2 = true then (if (wrap64 (s0_3 + 1)) = s0_1 then (some (!s0_2, s0_0, s0_1, !s0_2, 0)) else (some (s0_2, s0_0, s0_1, s0_2, wrap64 (s0_3 + 1)))) else (if (wrap64 (s0_3 + 1)) = s0_0 then (some (!s0_2, s0_0, s0_1, !s0_2, 0)) else (some (s0_2, s0_0, s0_1, s0_2, wrap64 (s0_3 + 1)))))
set_option maxHeartbeats 8000000 in
set_option maxRecDepth 100000 in
theorem probe_Probe_Add.calls (g : Nat) (s0_0 : Int) (s0_1 : Int) (s0_2 : Bool) (s0_3 : Int) (a1 : Bool) (r1 : Bool) (r2 : Int) (r3 : Int) (r4 : Bool) (r5 : Int) (w0 w : World) (hI : IsS51 w0 w g s0_0 s0_1 s0_2 s0_3) (hB : Below w0.heap.size w0 w) (h : probe_Probe_Add.f s0_0 s0_1 s0_2 s0_3 a1 = some (r1, r2, r3, r4, r5)) :
    Calls Try.prog 19 #[.pointer (some ⟨g, 0, none⟩), .bool a1] w fun e w' => e = .returned (.bool r1) ∧ IsS51 w0 w' g r2 r3 r4 r5 ∧ Below w0.heap.size w0 w' ∧ KeepBut w w' g none := by
  have HI0 := Aside0.mk hI
  have HK := Aside0.mk (KeepBut.refl w g none)
  have HL := Aside0.mk hB.size
  clear hI
  have HW0 := Aside0.mk hB.size
  have HB := Aside0.mk hB
  clear hB
  have H : (if (a1 != s0_2) = true then (some (s0_2, s0_0, s0_1, s0_2, 0)) else (if s0_2 = true then (if (wrap64 (s0_3 + 1)) = s0_1 then (some (!s0_2, s0_0, s0_1, !s0_2, 0)) else (some (s0_2, s0_0, s0_1, s0_2, wrap64 (s0_3 + 1)))) else (if (wrap64 (s0_3 + 1)) = s0_0 then (some (!s0_2, s0_0, s0_1, !s0_2, 0)) else (some (s0_2, s0_0, s0_1, s0_2, wrap64 (s0_3 + 1)))))) = some (r1, r2, r3, r4, r5) := h
  clear h
  by_cases c3 : (a1 != s0_2) = true
  · rw [if_pos c3] at H
    have c3b0 : (a1 != s0_2) = true := c3
    (try (have c3b1 : decide (a1 = s0_2) = false := by simpa using c3))
    (try (have c3b2 : (a1 == s0_2) = false := by simpa using c3))
    (try (have c3b3 : ¬ (a1 = s0_2) := by simpa using c3))
    clear c3
    simp only [Option.some.injEq, Prod.mk.injEq] at H
    obtain ⟨rfl, rfl, rfl, rfl, rfl⟩ := H
    obtain ⟨HGz4, hgz4⟩ := HI0.out
    have hcz4_0 := cellS51_0 HGz4
    have hcz4_1 := cellS51_1 HGz4
    have hcz4_2 := cellS51_2 HGz4
    have hcz4_3 := cellS51_3 HGz4
    have hfz4_0 := blk_frozen HGz4 0
    have hfz4_1 := blk_frozen HGz4 1
    have hfz4_2 := blk_frozen HGz4 2
    have hfz4_3 := blk_frozen HGz4 3
    clear HGz4 hgz4
    go_enter Try.func19, Try.ntmps19
    go_wp2
    go_ret
    exact ⟨by first | rfl | (simp [errW_none, errW_some] <;> rfl) | (simp [*, errW_none, errW_some] <;> rfl), by (try simp only [Bool.not_true, Bool.not_false]); repeat (first | (with_reducible first | exact HI0.out | apply IsS51.alloc | apply IsS51.drewN | apply IsS51.drew | apply IsS51.set_0 | apply IsS51.set_1 | apply IsS51.set_2 | apply IsS51.set_3) | exact HI0.out), by repeat (first | (with_reducible first | exact HB.out | apply below_alloc | apply pw_below_drewN | apply below_drew1 | refine below_set ?_ (IsS51.ge HI0.out)) | exact HB.out), by repeat (first | (with_reducible first | exact HK.out | apply KeepBut.set_ | apply keep_drewN | apply keep_drew | apply keep_alloc) | exact HK.out)⟩
  · rw [if_neg c3] at H
    have c3b0 : (a1 != s0_2) = false := by simpa using c3
    (try (have c3b1 : decide (a1 = s0_2) = true := by simpa using c3))
    (try (have c3b2 : (a1 == s0_2) = true := by simpa using c3))
    clear c3
    by_cases c5 : s0_2 = true
    · subst c5
      have H1 : (if (wrap64 (s0_3 + 1)) = s0_1 then (some (!true, s0_0, s0_1, !true, 0)) else (some (true, s0_0, s0_1, true, wrap64 (s0_3 + 1)))) = some (r1, r2, r3, r4, r5) := by rw [if_pos rfl] at H; exact H
      clear H
      have H := H1
      clear H1
      by_cases c6 : (wrap64 (s0_3 + 1)) = s0_1
      · rw [if_pos c6] at H
        have c6b0 : ((wrap64 (s0_3 + 1)) == s0_1) = true := beq_iff_eq.mpr c6
        have c6b1 : ((wrap64 (s0_3 + 1)) != s0_1) = false := bne_eq_false_iff_eq.mpr c6
        clear c6
        simp only [Option.some.injEq, Prod.mk.injEq] at H
        obtain ⟨rfl, rfl, rfl, rfl, rfl⟩ := H
        obtain ⟨HGz7, hgz7⟩ := HI0.out
        have hcz7_0 := cellS51_0 HGz7
        have hcz7_1 := cellS51_1 HGz7
        have hcz7_2 := cellS51_2 HGz7
        have hcz7_3 := cellS51_3 HGz7
        have hfz7_0 := blk_frozen HGz7 0
        have hfz7_1 := blk_frozen HGz7 1
        have hfz7_2 := blk_frozen HGz7 2
        have hfz7_3 := blk_frozen HGz7 3
        clear HGz7 hgz7
        go_enter Try.func19, Try.ntmps19
        go_wp2
        go_ret
        exact ⟨by first | rfl | (simp [errW_none, errW_some] <;> rfl) | (simp [*, errW_none, errW_some] <;> rfl), by (try simp only [Bool.not_true, Bool.not_false]); repeat (first | (with_reducible first | exact HI0.out | apply IsS51.alloc | apply IsS51.drewN | apply IsS51.drew | apply IsS51.set_0 | apply IsS51.set_1 | apply IsS51.set_2 | apply IsS51.set_3) | exact HI0.out), by repeat (first | (with_reducible first | exact HB.out | apply below_alloc | apply pw_below_drewN | apply below_drew1 | refine below_set ?_ (IsS51.ge HI0.out)) | exact HB.out), by repeat (first | (with_reducible first | exact HK.out | apply KeepBut.set_ | apply keep_drewN | apply keep_drew | apply keep_alloc) | exact HK.out)⟩
      · rw [if_neg c6] at H
        have c6b0 : ((wrap64 (s0_3 + 1)) == s0_1) = false := beq_eq_false_iff_ne.mpr c6
        have c6b1 : ((wrap64 (s0_3 + 1)) != s0_1) = true := bne_iff_ne.mpr c6
        simp only [Option.some.injEq, Prod.mk.injEq] at H
        obtain ⟨rfl, rfl, rfl, rfl, rfl⟩ := H
        obtain ⟨HGz8, hgz8⟩ := HI0.out
        have hcz8_0 := cellS51_0 HGz8
        have hcz8_1 := cellS51_1 HGz8
        have hcz8_2 := cellS51_2 HGz8
        have hcz8_3 := cellS51_3 HGz8
        have hfz8_0 := blk_frozen HGz8 0
        have hfz8_1 := blk_frozen HGz8 1
        have hfz8_2 := blk_frozen HGz8 2
        have hfz8_3 := blk_frozen HGz8 3
        clear HGz8 hgz8
        go_enter Try.func19, Try.ntmps19
        go_wp2
        go_ret
        exact ⟨by first | rfl | (simp [errW_none, errW_some] <;> rfl) | (simp [*, errW_none, errW_some] <;> rfl), by (try simp only [Bool.not_true, Bool.not_false]); repeat (first | (with_reducible first | exact HI0.out | apply IsS51.alloc | apply IsS51.drewN | apply IsS51.drew | apply IsS51.set_0 | apply IsS51.set_1 | apply IsS51.set_2 | apply IsS51.set_3) | exact HI0.out), by repeat (first | (with_reducible first | exact HB.out | apply below_alloc | apply pw_below_drewN | apply below_drew1 | refine below_set ?_ (IsS51.ge HI0.out)) | exact HB.out), by repeat (first | (with_reducible first | exact HK.out | apply KeepBut.set_ | apply keep_drewN | apply keep_drew | apply keep_alloc) | exact HK.out)⟩
    · replace c5 := Bool.eq_false_iff.mpr c5
      subst c5
      have H1 : (if (wrap64 (s0_3 + 1)) = s0_0 then (some (!false, s0_0, s0_1, !false, 0)) else (some (false, s0_0, s0_1, false, wrap64 (s0_3 + 1)))) = some (r1, r2, r3, r4, r5) := by rw [if_neg (show ¬ (false = true) by decide)] at H; exact H
      clear H
      have H := H1
      clear H1
      by_cases c9 : (wrap64 (s0_3 + 1)) = s0_0
      · rw [if_pos c9] at H
        have c9b0 : ((wrap64 (s0_3 + 1)) == s0_0) = true := beq_iff_eq.mpr c9
        have c9b1 : ((wrap64 (s0_3 + 1)) != s0_0) = false := bne_eq_false_iff_eq.mpr c9
        clear c9
        simp only [Option.some.injEq, Prod.mk.injEq] at H
        obtain ⟨rfl, rfl, rfl, rfl, rfl⟩ := H
        obtain ⟨HGz10, hgz10⟩ := HI0.out
        have hcz10_0 := cellS51_0 HGz10
        have hcz10_1 := cellS51_1 HGz10
        have hcz10_2 := cellS51_2 HGz10
        have hcz10_3 := cellS51_3 HGz10
        have hfz10_0 := blk_frozen HGz10 0
        have hfz10_1 := blk_frozen HGz10 1
        have hfz10_2 := blk_frozen HGz10 2
        have hfz10_3 := blk_frozen HGz10 3
        clear HGz10 hgz10
        go_enter Try.func19, Try.ntmps19
        go_wp2
        go_ret
        exact ⟨by first | rfl | (simp [errW_none, errW_some] <;> rfl) | (simp [*, errW_none, errW_some] <;> rfl), by (try simp only [Bool.not_true, Bool.not_false]); repeat (first | (with_reducible first | exact HI0.out | apply IsS51.alloc | apply IsS51.drewN | apply IsS51.drew | apply IsS51.set_0 | apply IsS51.set_1 | apply IsS51.set_2 | apply IsS51.set_3) | exact HI0.out), by repeat (first | (with_reducible first | exact HB.out | apply below_alloc | apply pw_below_drewN | apply below_drew1 | refine below_set ?_ (IsS51.ge HI0.out)) | exact HB.out), by repeat (first | (with_reducible first | exact HK.out | apply KeepBut.set_ | apply keep_drewN | apply keep_drew | apply keep_alloc) | exact HK.out)⟩
      · rw [if_neg c9] at H
        have c9b0 : ((wrap64 (s0_3 + 1)) == s0_0) = false := beq_eq_false_iff_ne.mpr c9
        have c9b1 : ((wrap64 (s0_3 + 1)) != s0_0) = true := bne_iff_ne.mpr c9
        simp only [Option.some.injEq, Prod.mk.injEq] at H
        obtain ⟨rfl, rfl, rfl, rfl, rfl⟩ := H
        obtain ⟨HGz11, hgz11⟩ := HI0.out
        have hcz11_0 := cellS51_0 HGz11
        have hcz11_1 := cellS51_1 HGz11
        have hcz11_2 := cellS51_2 HGz11
        have hcz11_3 := cellS51_3 HGz11
        have hfz11_0 := blk_frozen HGz11 0
        have hfz11_1 := blk_frozen HGz11 1
        have hfz11_2 := blk_frozen HGz11 2
        have hfz11_3 := blk_frozen HGz11 3
        clear HGz11 hgz11
        go_enter Try.func19, Try.ntmps19
        go_wp2
        go_ret
        exact ⟨by first | rfl | (simp [errW_none, errW_some] <;> rfl) | (simp [*, errW_none, errW_some] <;> rfl), by (try simp only [Bool.not_true, Bool.not_false]); repeat (first | (with_reducible first | exact HI0.out | apply IsS51.alloc | apply IsS51.drewN | apply IsS51.drew | apply IsS51.set_0 | apply IsS51.set_1 | apply IsS51.set_2 | apply IsS51.set_3) | exact HI0.out), by repeat (first | (with_reducible first | exact HB.out | apply below_alloc | apply pw_below_drewN | apply below_drew1 | refine below_set ?_ (IsS51.ge HI0.out)) | exact HB.out), by repeat (first | (with_reducible first | exact HK.out | apply KeepBut.set_ | apply keep_drewN | apply keep_drew | apply keep_alloc) | exact HK.out)⟩

/-! ### probe_Verdicts: function 10 -/
set_option maxHeartbeats 2000000 in
theorem probe_New.good (f r : Int) (w : World) (f1 : 1 ≤ f) (f2 : f ≤ 100) (r1 : 1 ≤ r) (r2 : r ≤ 100) :
    Calls Try.prog 17 #[.agg #[.int .i64 f, .int .i64 r]] w fun e w' => ∃ g : Nat, e = .returned (.tuple #[.pointer (some ⟨g, 0, none⟩), .int .i64 0]) ∧ IsS51 w w' g f r false 0 ∧ Below w.heap.size w w' := by
  go_enter Try.func17, Try.ntmps17
  go_wp2
  all_goals (try (exfalso; omega))
  all_goals
    go_ret2
    exact ⟨w.heap.size + 1, rfl, by have h := IsS51.new w (w.alloc (.cells #[.int .i64 f, .int .i64 r] 23)) f r false 0 (below_alloc (Below.refl _ _) _); simpa using h, below_alloc (below_alloc (Below.refl _ _) _) _⟩
set_option maxHeartbeats 2000000 in
theorem probe_New.poor (f r : Int) (w : World) (h : ¬ (1 ≤ f ∧ f ≤ 100 ∧ 1 ≤ r ∧ r ≤ 100)) :
    Calls Try.prog 17 #[.agg #[.int .i64 f, .int .i64 r]] w fun e w' => e = .returned (.tuple #[.pointer none, .int .i64 1]) ∧ Below w.heap.size w w' := by
  go_enter Try.func17, Try.ntmps17
  go_wp2
  all_goals (try (exfalso; omega))
  all_goals
    go_ret2
    exact ⟨rfl, below_alloc (Below.refl _ _) _⟩
def vstep (f r : Int) (bad : Bool) (run : Int) (good : Bool) : Bool × Int :=
  if (good != bad) = true then (bad, 0) else if wrap64 (run + 1) = (if bad = true then r else f) then (!bad, 0) else (bad, wrap64 (run + 1))
def vlist (f r : Int) : Bool → Int → List Bool → List Bool
  | _, _, [] => []
  | bad, run, good :: l => (vstep f r bad run good).1 :: vlist f r (vstep f r bad run good).1 (vstep f r bad run good).2 l
theorem add_f (f r : Int) (bad : Bool) (run : Int) (good : Bool) : probe_Probe_Add.f f r bad run good = some ((vstep f r bad run good).1, f, r, (vstep f r bad run good).1, (vstep f r bad run good).2) := by
  unfold probe_Probe_Add.f vstep
  cases bad <;> cases good <;> simp <;> split <;> simp
theorem vlist_length (f r : Int) : ∀ l bad run, (vlist f r bad run l).length = l.length
  | [], _, _ => rfl
  | _ :: l, _, _ => by simp [vlist, vlist_length f r l]
theorem vlist_drop (f r : Int) (bad : Bool) (run : Int) (l : List Bool) (x : Int) (h0 : 0 ≤ x) (h1 : x < (l.length : Int)) :
    vlist f r bad run (l.drop x.toNat) = (vstep f r bad run (rdOf false l x)).1 :: vlist f r (vstep f r bad run (rdOf false l x)).1 (vstep f r bad run (rdOf false l x)).2 (l.drop (x + 1).toNat) := by
  obtain ⟨n, rfl⟩ := Int.eq_ofNat_of_zero_le h0
  have hn : n < l.length := by omega
  have e : ((n : Int) + 1).toNat = n + 1 := by omega
  rw [e]
  show vlist f r bad run (l.drop n) = _
  rw [List.drop_eq_getElem_cons hn]
  have : rdOf false l (n : Int) = l[n] := by simp [rdOf, hn]
  rw [this]; rfl
set_option maxHeartbeats 2000000 in
theorem probe_Verdicts.good (f r : Int) (A1 : Option Addr) (c1 : Nat) (l1 : List Bool) (w : World) (hr1 : Kd.C Kd.bool w A1 l1.length l1) (hc1 : l1.length ≤ c1) (hl : l1.length < 140737488355328) (f1 : 1 ≤ f) (f2 : f ≤ 100) (r1 : 1 ≤ r) (r2 : r ≤ 100) :
    Calls Try.prog 10 #[.agg #[.int .i64 f, .int .i64 r], .slice A1 l1.length c1] w fun e w' => ∃ v0_ : Value, e = .returned (.tuple #[v0_, .int .i64 0]) ∧ Kd.R Kd.bool 4 w' w.heap.size (fun _ => True) v0_ (vlist f r false 0 l1) ∧ Below w.heap.size w w' := by
  have HR1 := Aside0.mk hr1
  have HC1 := Aside0.mk hc1
  clear hr1 hc1
  have HB := Aside0.mk (Below.refl w.heap.size w)
  go_enter Try.func10, Try.ntmps10
  go_wp2_with (first | ((with_reducible refine gate_callee (f := 17) rfl ?_); refine goesL_ (some 13) rfl rfl Try.func17 (by kernel_rfl) rfl #[.agg #[.int .i64 f, .int .i64 r]] rfl (by (try simp only [List.map_toArray, List.map_cons, List.map_nil]); first | done | rfl | (simp only [List.length_drop, List.length_take]; rfl)) ?_; (refine (probe_New.good f r _ f1 f2 r1 r2).mono ?_); rintro e w' ⟨g, rfl, hI, hb⟩; refine ⟨_, rfl, ?_⟩))

  have HB2 := Aside0.mk (below_step (below_alloc HB.out (.cells #[.int .i64 f, .int .i64 r] 23)) hb)
  clear HB
  have HB := HB2
  clear HB2 hb
  have HI : Aside0 (IsS51 w w' g f r false 0) := ⟨hI.1, by have h1 := hI.2; have h2 := HB.out.size; simp at h1; omega⟩
  clear hI
  go_loopg [8, 21] (l1.length + 1) (fun kq v8 v21 w' => ∃ (out : List Bool) (i : Int) (bad : Bool) (run : Int), v21 = .int .i64 i ∧ Aside0 (0 ≤ i ∧ i ≤ (l1.length : Int) ∧ i + (kq : Int) = (l1.length : Int) + 1) ∧ Aside0 (out ++ vlist f r bad run (l1.drop i.toNat) = vlist f r false 0 l1 ∧ (out.length : Int) = i) ∧ Aside0 (IsS51 w w' g f r bad run) ∧ Aside0 (Kd.R Kd.bool 4 w' w.heap.size (fun k => k ≠ g) v8 out) ∧ Aside0 (Below w.heap.size w w'))
  case atStart => exact ⟨[], 0, false, 0, rfl, ⟨by omega, by omega, by omega⟩, ⟨rfl, rfl⟩, HI, ⟨Kd.R_nil _ _ _ _ _⟩, HB⟩
  case round =>
    clear HI HB
    obtain ⟨out, i, bad, run, rfl, HN, HA, HI, HO, HB⟩ := hrel
    by_cases c5 : i < (l1.length : Int)
    · have c5b0 : decide (i < (l1.length : Int)) = true := decide_eq_true c5
      have p102 : 0 ≤ i := HN.out.1
      have q102 := c5
      obtain ⟨ad102, e102, hx102_0⟩ := Kd.at_bool HR1.out i p102 q102
      cases e102
      replace hx102_0 := (HB.out.cell (World.block_lt_of_cell? w _ hx102_0)).trans hx102_0
      replace p102 := eq_true p102
      replace q102 := eq_true q102
      have HC5 := Aside0.mk c5
      clear c5
      go_wp2_with (first | ((with_reducible refine gate_callee (f := 19) rfl ?_); refine goesL_ (some 28) rfl rfl Try.func19 (by kernel_rfl) rfl #[.pointer (some ⟨g, 0, none⟩), .bool (rdOf false l1 i)] rfl (by (try simp only [List.map_toArray, List.map_cons, List.map_nil]); first | done | rfl | (simp only [List.length_drop, List.length_take]; rfl)) ?_; (refine (probe_Probe_Add.calls g f r bad run (rdOf false l1 i) _ _ _ _ _ w _ HI.out HB.out (add_f f r bad run (rdOf false l1 i))).mono ?_); rintro e w' ⟨rfl, hI2, hB2, hK2⟩; refine ⟨_, rfl, ?_⟩; have n0_ := Aside0.mk (Kd.R_keep HO.out hK2 (fun _ h => h)); clear HO HI HB hK2; have HO := n0_; have HI := Aside0.mk hI2; have HB := Aside0.mk hB2; clear n0_ hI2 hB2) | ((with_reducible refine gate_builtin (b := .append) (xs := #[.tmp 25, .tmp 29]) rfl ?_); at_builtin; refine Kd.R_append Kd.bool (w0 := w) w.heap.size rfl (.tmp 25) (.tmp 29) 24 4 (.bool false) 1 rfl Try.underlying24 info4 rfl (by decide) (by omega) u8 out (vstep f r bad run (rdOf false l1 i)).fst [.bool (vstep f r bad run (rdOf false l1 i)).fst] (fun k => k ≠ g) (fun _ => False) rfl rfl ?aP (fun _ hk => hk.elim) ?aF ?aO ?aB ?aS ?aL ?_; (case aP => exact rfl); (case aB => exact HB.out); (case aF => exact (fun k hk => by have := HI.out.lt; omega)); (case aO => exact HO.out); (case aS => exact (below_size HB.out)); (case aL => have := HC5.out; have := HN.out; have := HA.out.2; omega); intro v104 w10 ho hb hg hat; have n0_ := Aside0.mk (HI.out.grown hg (fun e_ => HO.out.1 g e_.symm rfl)); have n1_ := Aside0.mk hb; have n2_ := Aside0.mk ho; clear HB HO HI; have HI := n0_; have HB := n1_; have HO := n2_; clear n0_ n1_ n2_; clear ho hb hg hat))
      have HW : wrap64 (i + 1) = i + 1 := by have := HN.out.1; have := HC5.out; unfold wrap64; omega
      go_roundg (gk - 1)
      case measure => have := HC5.out; have := HN.out; omega
      case rel => exact ⟨out ++ [(vstep f r bad run (rdOf false l1 i)).fst], i + 1, (vstep f r bad run (rdOf false l1 i)).1, (vstep f r bad run (rdOf false l1 i)).2, by rw [HW], ⟨by have := HC5.out; have := HN.out; omega⟩, ⟨by rw [← HA.out.1, vlist_drop f r bad run l1 i HN.out.1 HC5.out]; simp, by have := HA.out.2; simp; omega⟩, HI, HO, HB⟩
    · have c5b0 : decide (i < (l1.length : Int)) = false := decide_eq_false c5
      have hi : i = l1.length := by have := HN.out; omega
      subst hi
      go_wp2
      go_ret2
      refine ⟨_, rfl, Kd.R_mono (ok := fun k => k ≠ g) (ok' := fun _ => True) ?_ (fun _ _ => trivial), HB.out⟩
      have h := HA.out.1
      simp [vlist] at h
      rw [← h]
      exact HO.out
set_option maxHeartbeats 2000000 in
theorem probe_Verdicts.poor (f r : Int) (A1 : Option Addr) (c1 : Nat) (l1 : List Bool) (w : World) (h : ¬ (1 ≤ f ∧ f ≤ 100 ∧ 1 ≤ r ∧ r ≤ 100)) :
    Calls Try.prog 10 #[.agg #[.int .i64 f, .int .i64 r], .slice A1 l1.length c1] w fun e w' => ∃ v0_ : Value, e = .returned (.tuple #[v0_, .int .i64 1]) ∧ Kd.R Kd.bool 4 w' w.heap.size (fun _ => True) v0_ ([] : List Bool) ∧ Below w.heap.size w w' := by
  have HB := Aside0.mk (Below.refl w.heap.size w)
  go_enter Try.func10, Try.ntmps10
  go_wp2_with (first | ((with_reducible refine gate_callee (f := 17) rfl ?_); refine goesL_ (some 13) rfl rfl Try.func17 (by kernel_rfl) rfl #[.agg #[.int .i64 f, .int .i64 r]] rfl (by (try simp only [List.map_toArray, List.map_cons, List.map_nil]); first | done | rfl | (simp only [List.length_drop, List.length_take]; rfl)) ?_; (refine (probe_New.poor f r _ h).mono ?_); rintro e w' ⟨rfl, hb⟩; refine ⟨_, rfl, ?_⟩))
  go_ret2
  exact ⟨_, rfl, Kd.R_nil _ _ _ _ _, below_step (below_alloc HB.out (.cells #[.int .i64 f, .int .i64 r] 23)) hb⟩
def probe_Verdicts.f (f r : Int) (l1 : List Bool) : Option (List Bool × Int) :=
  if l1.length < 140737488355328 then (if 1 ≤ f ∧ f ≤ 100 ∧ 1 ≤ r ∧ r ≤ 100 then some (vlist f r false 0 l1, 0) else some ([], 1)) else none
theorem probe_Verdicts.calls (a0_0 : Int) (a0_1 : Int) (A1 : Option Addr) (c1 : Nat) (l1 : List Bool) (r1 : List Bool) (r2 : Int) (w : World) (hr1 : Kd.C Kd.bool w A1 l1.length l1) (hc1 : l1.length ≤ c1) (h : probe_Verdicts.f a0_0 a0_1 l1 = some (r1, r2)) :
    Calls Try.prog 10 #[.agg #[.int .i64 a0_0, .int .i64 a0_1], .slice A1 l1.length c1] w fun e w' => ∃ v0_ : Value, e = .returned (.tuple #[v0_, .int .i64 r2]) ∧ Kd.R Kd.bool 4 w' w.heap.size (fun _ => True) v0_ r1 ∧ Below w.heap.size w w' := by
  unfold probe_Verdicts.f at h
  by_cases hl : l1.length < 140737488355328
  · rw [if_pos hl] at h
    by_cases c : 1 ≤ a0_0 ∧ a0_0 ≤ 100 ∧ 1 ≤ a0_1 ∧ a0_1 ≤ 100
    · rw [if_pos c] at h
      simp only [Option.some.injEq, Prod.mk.injEq] at h
      obtain ⟨rfl, rfl⟩ := h
      exact probe_Verdicts.good a0_0 a0_1 A1 c1 l1 w hr1 hc1 hl c.1 c.2.1 c.2.2.1 c.2.2.2
    · rw [if_neg c] at h
      simp only [Option.some.injEq, Prod.mk.injEq] at h
      obtain ⟨rfl, rfl⟩ := h
      exact probe_Verdicts.poor a0_0 a0_1 A1 c1 l1 w c
  · rw [if_neg hl] at h
    exact absurd h (by simp)

/-! ### probe_Hot: function 15 -/
def probe_Hot.l0 : Nat → Int → Int → Bool → List Bool → List Int → Int → Int → Option (List Bool × Int)
  | 0, _, _, _, _, _, _, _ => none
  | k + 1, x0, x1, x8, x9, x15, x16, x17 => if x17 < x16 then (if 0 ≤ x17 then (if x17 < (x15.length : Int) then (if (rd x15 x17) > x0 then (if x9.length < 140737488355328 then (probe_Hot.l0 k x0 x1 true (x9 ++ [true]) x15 x16 (wrap64 (x17 + 1))) else (none)) else (if (rd x15 x17) < x1 then (if x9.length < 140737488355328 then (probe_Hot.l0 k x0 x1 false (x9 ++ [false]) x15 x16 (wrap64 (x17 + 1))) else (none)) else (if x9.length < 140737488355328 then (probe_Hot.l0 k x0 x1 x8 (x9 ++ [x8]) x15 x16 (wrap64 (x17 + 1))) else (none)))) else (none)) else (none)) else (some (x9, 0))
def probe_Hot.f (k : Nat) (a0 : Int) (a1 : Int) (l2 : List Int) : Option (List Bool × Int) := if a1 > a0 then (some (([] : List Bool), 1)) else (probe_Hot.l0 k a0 a1 false ([] : List Bool) l2 (l2.length : Int) 0)
theorem probe_Hot.mono_l : ∀ k, (∀ y0 y1 y2 y3 y4 y5 y6, LeO (probe_Hot.l0 k y0 y1 y2 y3 y4 y5 y6) (probe_Hot.l0 (k + 1) y0 y1 y2 y3 y4 y5 y6))
  | 0 => fun _ _ _ _ _ _ _ r h => by simp [probe_Hot.l0] at h
  | k + 1 => by
    have ih0 := probe_Hot.mono_l k
    · intro y0 y1 y2 y3 y4 y5 y6
      unfold probe_Hot.l0
      repeat' first
      | (with_reducible exact ih0 _ _ _ _ _ _ _)
      | (with_reducible exact LeO.refl _)
      | (with_reducible exact LeO.none _)
      | (with_reducible refine LeO.ite ?_ ?_)
      | (with_reducible refine LeO.bind ?_ (fun _ => ?_))
      | exact ih0 _ _ _ _ _ _ _
      | exact LeO.none _
      | refine LeO.ite ?_ ?_
      | refine LeO.bind ?_ (fun _ => ?_)
theorem probe_Hot.mono : ∀ a0 a1 a2 k, LeO (probe_Hot.f k a0 a1 a2) (probe_Hot.f (k + 1) a0 a1 a2) := by
  intro a0 a1 a2 k
  have ih0 := probe_Hot.mono_l k
  unfold probe_Hot.f
  repeat' first
      | (with_reducible exact ih0 _ _ _ _ _ _ _)
      | (with_reducible exact LeO.refl _)
      | (with_reducible exact LeO.none _)
      | (with_reducible refine LeO.ite ?_ ?_)
      | (with_reducible refine LeO.bind ?_ (fun _ => ?_))
      | exact ih0 _ _ _ _ _ _ _
      | exact LeO.none _
      | refine LeO.ite ?_ ?_
      | refine LeO.bind ?_ (fun _ => ?_)
set_option maxHeartbeats 8000000 in
set_option maxRecDepth 100000 in
theorem probe_Hot.calls (k : Nat) (a0 : Int) (a1 : Int) (A2 : Option Addr) (c2 : Nat) (l2 : List Int) (r1 : List Bool) (r2 : Int) (w : World) (hr2 : Kd.C (Kd.int .i64) w A2 l2.length l2) (hc2 : l2.length ≤ c2) (h : probe_Hot.f k a0 a1 l2 = some (r1, r2)) :
    Calls Try.prog 15 #[.int .i64 a0, .int .i64 a1, .slice A2 l2.length c2] w fun e w' => ∃ v0_ : Value, e = .returned (.tuple #[v0_, .int .i64 r2]) ∧ Kd.R Kd.bool 4 w' w.heap.size (fun _ => True) v0_ r1 ∧ Below w.heap.size w w' := by
  have HR2 := Aside0.mk hr2
  have HC2 := Aside0.mk hc2
  clear hr2 hc2
  have HB := Aside0.mk (Below.refl w.heap.size w)
  have H : (if a1 > a0 then (some (([] : List Bool), 1)) else (probe_Hot.l0 k a0 a1 false ([] : List Bool) l2 (l2.length : Int) 0)) = some (r1, r2) := h
  clear h
  by_cases c4 : a1 > a0
  · rw [if_pos c4] at H
    have c4b0 : decide (a0 < a1) = true := decide_eq_true c4
    clear c4
    simp only [Option.some.injEq, Prod.mk.injEq] at H
    obtain ⟨rfl, rfl⟩ := H
    go_enter Try.func15, Try.ntmps15
    go_wp2
    go_ret2
    exact ⟨_, by first | rfl | (simp [errW_none, errW_some] <;> rfl) | (simp [*, errW_none, errW_some] <;> rfl), by first | exact Kd.R_nil _ _ _ _ _ | exact Kd.N_nil _ _ _ _ _ | exact Kd.V_nil _ _ _ _ _ | exact Kd.Q_nil _ _ _ _ _ | exact Kd.S_nil _ _ _ _ _, by repeat (first | (with_reducible first | exact HB.out | apply below_alloc | apply pw_below_drewN | apply below_drew1) | exact HB.out)⟩
  · rw [if_neg c4] at H
    have c4b0 : decide (a0 < a1) = false := decide_eq_false c4
    clear c4
    have H' := Aside0.mk H
    clear H
    go_enter Try.func15, Try.ntmps15
    go_wp2
    go_loopg [8, 9, 17] k (fun kq v8 v9 v17 w' => ∃ (x8_1 : Bool) (x9_1 : List Bool) (x17_1 : Int), v8 = .bool x8_1 ∧ v17 = .int .i64 x17_1 ∧ Aside0 (probe_Hot.l0 kq a0 a1 x8_1 x9_1 l2 (l2.length : Int) x17_1 = some (r1, r2)) ∧ Aside0 (kq ≤ k) ∧ Aside0 (Kd.R Kd.bool 4 w' w.heap.size (fun _ => True) v9 x9_1) ∧ Aside0 (Below w.heap.size w w'))
    case atStart => exact ⟨(false), (([] : List Bool)), (0), (by first | rfl | (simp; done) | (simp [*]; done)), (by first | rfl | (simp; done) | (simp [*]; done)), H', ⟨Nat.le_refl _⟩, ⟨by first | exact Kd.R_nil _ _ _ _ _ | exact Kd.N_nil _ _ _ _ _ | exact Kd.V_nil _ _ _ _ _ | exact Kd.Q_nil _ _ _ _ _ | exact Kd.S_nil _ _ _ _ _⟩, ⟨by repeat (first | (with_reducible first | exact HB.out | apply below_alloc | apply pw_below_drewN | apply below_drew1) | exact HB.out)⟩⟩
    case round =>
      clear H'
      try clear c1
      try clear c2
      try clear p2
      try clear c4
      try clear c4b0
      obtain ⟨x8_1, x9_1, x17_1, rfl, rfl, HA, HK1, HO_9, HB⟩ := hrel
      cases gk with
      | zero => exact absurd HA.out (by simp [probe_Hot.l0])
      | succ k1 =>
        have H := HA.out
        clear HA
        simp only [probe_Hot.l0] at H
        by_cases c5 : x17_1 < (l2.length : Int)
        · rw [if_pos c5] at H
          have c5b0 : decide (x17_1 < (l2.length : Int)) = true := decide_eq_true c5
          clear c5
          by_cases c6 : 0 ≤ x17_1
          · rw [if_pos c6] at H
            have c6b0 : decide (0 ≤ x17_1) = true := decide_eq_true c6
            clear c6
            by_cases c7 : x17_1 < (l2.length : Int)
            · rw [if_pos c7] at H
              have c7b0 : decide (x17_1 < (l2.length : Int)) = true := decide_eq_true c7
              clear c7
              by_cases c8 : (rd l2 x17_1) > a0
              · rw [if_pos c8] at H
                have c8b0 : decide (a0 < (rd l2 x17_1)) = true := decide_eq_true c8
                clear c8
                by_cases c9 : x9_1.length < 140737488355328
                · rw [if_pos c9] at H
                  have LMc9 := Aside0.mk c9
                  clear c9
                  obtain ⟨y102, hy102⟩ : ∃ y_ : List Bool, y_ = (x9_1 ++ [true]) := ⟨_, rfl⟩
                  replace H : (probe_Hot.l0 k1 a0 a1 true y102 l2 (l2.length : Int) (wrap64 (x17_1 + 1))) = some (r1, r2) := by first | (rw [hy102]; with_reducible exact H) | (have H2_ := (Option.bind_some _ _).symm.trans H; rw [hy102]; with_reducible exact H2_) | (have H2_ := (Option.bind_some _ _).symm.trans H; with_reducible exact H2_) | with_reducible exact H | (rw [hy102]; exact H) | exact H
                  have Ny102 := Aside0.mk hy102
                  clear hy102
                  have H' := Aside0.mk H
                  clear H
                  have p101 : 0 ≤ (x17_1 : Int) := of_decide_eq_true (by first | (with_reducible assumption) | assumption)
                  have q101 : x17_1 < (l2.length : Int) := of_decide_eq_true (by first | (with_reducible assumption) | assumption)
                  obtain ⟨ad101, e101, hx101_0⟩ := Kd.at_int HR2.out x17_1 p101 q101
                  cases e101
                  replace hx101_0 := (HB.out.cell (World.block_lt_of_cell? w _ hx101_0)).trans hx101_0
                  replace p101 := eq_true p101
                  replace q101 := eq_true q101
                  go_wp2_with (first | ((with_reducible refine gate_builtin (b := .append) (xs := #[.tmp 29, .tmp 31]) rfl ?_); at_builtin; refine Kd.R_append Kd.bool (w0 := w) w.heap.size rfl (.tmp 29) (.tmp 31) 24 4 (.bool false) 1 rfl Try.underlying24 info4 rfl (by decide) (by omega) u9 x9_1 true [.bool true] (fun _ => True) (fun _ => False) rfl rfl ?aP (fun _ hk => hk.elim) ?aF ?aO ?aB ?aS ?aL ?_; (case aP => exact rfl); (case aB => exact (by repeat (first | (with_reducible first | exact HB.out | apply below_alloc | apply pw_below_drewN | apply below_drew1) | exact HB.out))); (case aF => exact (fun _ _ => trivial)); (case aO => exact (by (with_reducible repeat (first | apply Kd.R_alloc | apply Kd.R_drewN | apply Kd.R_drew)); exact HO_9.out)); (case aS => exact (below_size (by repeat (first | (with_reducible first | exact HB.out | apply below_alloc | apply pw_below_drewN | apply below_drew1) | exact HB.out)))); (case aL => have := LMc9.out; omega); intro v103 w10 ho hb hg hat; rw [← Ny102.out] at ho; have n0_ := Aside0.mk (hb); have n1_ := Aside0.mk (ho); clear HB; clear HO_9; have HB := n0_; have HO104 := n1_; clear n0_ n1_; clear ho hb hg hat))
                  go_roundg k1
                  case measure => have := HK1.out; omega
                  case rel => exact ⟨(true), (y102), (wrap64 (x17_1 + 1)), (by first | rfl | (simp; done) | (simp [*]; done)), (by first | rfl | (simp; done) | (simp [*]; done)), H', ⟨by have := HK1.out; omega⟩, ⟨by (with_reducible repeat (first | apply Kd.R_alloc | apply Kd.R_drewN | apply Kd.R_drew)); exact HO104.out⟩, ⟨by repeat (first | (with_reducible first | exact HB.out | apply below_alloc | apply pw_below_drewN | apply below_drew1) | exact HB.out)⟩⟩
                · rw [if_neg c9] at H
                  exact absurd H (by simp)
              · rw [if_neg c8] at H
                have c8b0 : decide (a0 < (rd l2 x17_1)) = false := decide_eq_false c8
                clear c8
                by_cases c11 : (rd l2 x17_1) < a1
                · rw [if_pos c11] at H
                  have c11b0 : decide ((rd l2 x17_1) < a1) = true := decide_eq_true c11
                  clear c11
                  by_cases c12 : x9_1.length < 140737488355328
                  · rw [if_pos c12] at H
                    have LMc12 := Aside0.mk c12
                    clear c12
                    obtain ⟨y105, hy105⟩ : ∃ y_ : List Bool, y_ = (x9_1 ++ [false]) := ⟨_, rfl⟩
                    replace H : (probe_Hot.l0 k1 a0 a1 false y105 l2 (l2.length : Int) (wrap64 (x17_1 + 1))) = some (r1, r2) := by first | (rw [hy105]; with_reducible exact H) | (have H2_ := (Option.bind_some _ _).symm.trans H; rw [hy105]; with_reducible exact H2_) | (have H2_ := (Option.bind_some _ _).symm.trans H; with_reducible exact H2_) | with_reducible exact H | (rw [hy105]; exact H) | exact H
                    have Ny105 := Aside0.mk hy105
                    clear hy105
                    have H' := Aside0.mk H
                    clear H
                    have p101 : 0 ≤ (x17_1 : Int) := of_decide_eq_true (by first | (with_reducible assumption) | assumption)
                    have q101 : x17_1 < (l2.length : Int) := of_decide_eq_true (by first | (with_reducible assumption) | assumption)
                    obtain ⟨ad101, e101, hx101_0⟩ := Kd.at_int HR2.out x17_1 p101 q101
                    cases e101
                    replace hx101_0 := (HB.out.cell (World.block_lt_of_cell? w _ hx101_0)).trans hx101_0
                    replace p101 := eq_true p101
                    replace q101 := eq_true q101
                    go_wp2_with (first | ((with_reducible refine gate_builtin (b := .append) (xs := #[.tmp 29, .tmp 31]) rfl ?_); at_builtin; refine Kd.R_append Kd.bool (w0 := w) w.heap.size rfl (.tmp 29) (.tmp 31) 24 4 (.bool false) 1 rfl Try.underlying24 info4 rfl (by decide) (by omega) u9 x9_1 false [.bool false] (fun _ => True) (fun _ => False) rfl rfl ?aP (fun _ hk => hk.elim) ?aF ?aO ?aB ?aS ?aL ?_; (case aP => exact rfl); (case aB => exact (by repeat (first | (with_reducible first | exact HB.out | apply below_alloc | apply pw_below_drewN | apply below_drew1) | exact HB.out))); (case aF => exact (fun _ _ => trivial)); (case aO => exact (by (with_reducible repeat (first | apply Kd.R_alloc | apply Kd.R_drewN | apply Kd.R_drew)); exact HO_9.out)); (case aS => exact (below_size (by repeat (first | (with_reducible first | exact HB.out | apply below_alloc | apply pw_below_drewN | apply below_drew1) | exact HB.out)))); (case aL => have := LMc12.out; omega); intro v106 w13 ho hb hg hat; rw [← Ny105.out] at ho; have n0_ := Aside0.mk (hb); have n1_ := Aside0.mk (ho); clear HB; clear HO_9; have HB := n0_; have HO107 := n1_; clear n0_ n1_; clear ho hb hg hat))
                    go_roundg k1
                    case measure => have := HK1.out; omega
                    case rel => exact ⟨(false), (y105), (wrap64 (x17_1 + 1)), (by first | rfl | (simp; done) | (simp [*]; done)), (by first | rfl | (simp; done) | (simp [*]; done)), H', ⟨by have := HK1.out; omega⟩, ⟨by (with_reducible repeat (first | apply Kd.R_alloc | apply Kd.R_drewN | apply Kd.R_drew)); exact HO107.out⟩, ⟨by repeat (first | (with_reducible first | exact HB.out | apply below_alloc | apply pw_below_drewN | apply below_drew1) | exact HB.out)⟩⟩
                  · rw [if_neg c12] at H
                    exact absurd H (by simp)
                · rw [if_neg c11] at H
                  have c11b0 : decide ((rd l2 x17_1) < a1) = false := decide_eq_false c11
                  clear c11
                  by_cases c14 : x9_1.length < 140737488355328
                  · rw [if_pos c14] at H
                    have LMc14 := Aside0.mk c14
                    clear c14
                    obtain ⟨y108, hy108⟩ : ∃ y_ : List Bool, y_ = (x9_1 ++ [x8_1]) := ⟨_, rfl⟩
                    replace H : (probe_Hot.l0 k1 a0 a1 x8_1 y108 l2 (l2.length : Int) (wrap64 (x17_1 + 1))) = some (r1, r2) := by first | (rw [hy108]; with_reducible exact H) | (have H2_ := (Option.bind_some _ _).symm.trans H; rw [hy108]; with_reducible exact H2_) | (have H2_ := (Option.bind_some _ _).symm.trans H; with_reducible exact H2_) | with_reducible exact H | (rw [hy108]; exact H) | exact H
                    have Ny108 := Aside0.mk hy108
                    clear hy108
                    have H' := Aside0.mk H
                    clear H
                    have p101 : 0 ≤ (x17_1 : Int) := of_decide_eq_true (by first | (with_reducible assumption) | assumption)
                    have q101 : x17_1 < (l2.length : Int) := of_decide_eq_true (by first | (with_reducible assumption) | assumption)
                    obtain ⟨ad101, e101, hx101_0⟩ := Kd.at_int HR2.out x17_1 p101 q101
                    cases e101
                    replace hx101_0 := (HB.out.cell (World.block_lt_of_cell? w _ hx101_0)).trans hx101_0
                    replace p101 := eq_true p101
                    replace q101 := eq_true q101
                    go_wp2_with (first | ((with_reducible refine gate_builtin (b := .append) (xs := #[.tmp 29, .tmp 31]) rfl ?_); at_builtin; refine Kd.R_append Kd.bool (w0 := w) w.heap.size rfl (.tmp 29) (.tmp 31) 24 4 (.bool false) 1 rfl Try.underlying24 info4 rfl (by decide) (by omega) u9 x9_1 x8_1 [.bool x8_1] (fun _ => True) (fun _ => False) rfl rfl ?aP (fun _ hk => hk.elim) ?aF ?aO ?aB ?aS ?aL ?_; (case aP => exact rfl); (case aB => exact (by repeat (first | (with_reducible first | exact HB.out | apply below_alloc | apply pw_below_drewN | apply below_drew1) | exact HB.out))); (case aF => exact (fun _ _ => trivial)); (case aO => exact (by (with_reducible repeat (first | apply Kd.R_alloc | apply Kd.R_drewN | apply Kd.R_drew)); exact HO_9.out)); (case aS => exact (below_size (by repeat (first | (with_reducible first | exact HB.out | apply below_alloc | apply pw_below_drewN | apply below_drew1) | exact HB.out)))); (case aL => have := LMc14.out; omega); intro v109 w15 ho hb hg hat; rw [← Ny108.out] at ho; have n0_ := Aside0.mk (hb); have n1_ := Aside0.mk (ho); clear HB; clear HO_9; have HB := n0_; have HO110 := n1_; clear n0_ n1_; clear ho hb hg hat))
                    go_roundg k1
                    case measure => have := HK1.out; omega
                    case rel => exact ⟨(x8_1), (y108), (wrap64 (x17_1 + 1)), (by first | rfl | (simp; done) | (simp [*]; done)), (by first | rfl | (simp; done) | (simp [*]; done)), H', ⟨by have := HK1.out; omega⟩, ⟨by (with_reducible repeat (first | apply Kd.R_alloc | apply Kd.R_drewN | apply Kd.R_drew)); exact HO110.out⟩, ⟨by repeat (first | (with_reducible first | exact HB.out | apply below_alloc | apply pw_below_drewN | apply below_drew1) | exact HB.out)⟩⟩
                  · rw [if_neg c14] at H
                    exact absurd H (by simp)
            · rw [if_neg c7] at H
              exact absurd H (by simp)
          · rw [if_neg c6] at H
            exact absurd H (by simp)
        · rw [if_neg c5] at H
          have c5b0 : decide (x17_1 < (l2.length : Int)) = false := decide_eq_false c5
          clear c5
          simp only [Option.some.injEq, Prod.mk.injEq] at H
          obtain ⟨rfl, rfl⟩ := H
          go_wp2
          go_ret2
          exact ⟨_, by first | rfl | (simp [errW_none, errW_some] <;> rfl) | (simp [*, errW_none, errW_some] <;> rfl), by (with_reducible repeat (first | apply Kd.R_alloc | apply Kd.R_drewN | apply Kd.R_drew)); exact HO_9.out, by repeat (first | (with_reducible first | exact HB.out | apply below_alloc | apply pw_below_drewN | apply below_drew1) | exact HB.out)⟩

/-! ### cellplanelaw22_awake: function 9 -/
def cellplanelaw22_awake.f (k : Nat)  : Option (Bool) := (probe_Verdicts.f 2 1 (([false, true, false, false] : List Bool))).bind fun bt114 => ((probe_Hot.f k 5 3 (([6, 4, 2] : List Int))).bind fun bt121 => (if bt114.2 = 0 then (if (bt114.1.length : Int) = 4 then (if 0 < (bt114.1.length : Int) then (if rdOf false bt114.1 0 = true then (some false) else (if 2 < (bt114.1.length : Int) then (if rdOf false bt114.1 2 = true then (some false) else (if 3 < (bt114.1.length : Int) then (if rdOf false bt114.1 3 = true then (if bt121.2 = 0 then (if (bt121.1.length : Int) = 3 then (if 0 < (bt121.1.length : Int) then (if rdOf false bt121.1 0 = true then (if 1 < (bt121.1.length : Int) then (if rdOf false bt121.1 1 = true then (if 2 < (bt121.1.length : Int) then (some (!(rdOf false bt121.1 2))) else (none)) else (some false)) else (none)) else (some false)) else (none)) else (some false)) else (some false)) else (some false)) else (none))) else (none))) else (none)) else (some false)) else (some false)))
theorem cellplanelaw22_awake.mono : ∀ k, LeO (cellplanelaw22_awake.f k ) (cellplanelaw22_awake.f (k + 1) ) := by
  intro  k
  unfold cellplanelaw22_awake.f
  repeat' first
      | (with_reducible exact probe_Hot.mono _ _ _ _)
      | (with_reducible exact LeO.refl _)
      | (with_reducible exact LeO.none _)
      | (with_reducible refine LeO.ite ?_ ?_)
      | (with_reducible refine LeO.bind ?_ (fun _ => ?_))
      | exact probe_Hot.mono _ _ _ _
      | exact LeO.none _
      | refine LeO.ite ?_ ?_
      | refine LeO.bind ?_ (fun _ => ?_)
set_option maxHeartbeats 8000000 in
set_option maxRecDepth 100000 in
theorem cellplanelaw22_awake.calls (k : Nat)  (r : Bool) (w : World) (h : cellplanelaw22_awake.f k  = some r) :
    Calls Try.prog 9 #[] w fun e w' => e = .returned (.bool r) ∧ Below w.heap.size w w' := by
  have hu23 := Try.underlying23
  have HB := Aside0.mk (Below.refl w.heap.size w)
  have H : ((probe_Verdicts.f 2 1 (([false, true, false, false] : List Bool))).bind fun bt114 => ((probe_Hot.f k 5 3 (([6, 4, 2] : List Int))).bind fun bt121 => (if bt114.2 = 0 then (if (bt114.1.length : Int) = 4 then (if 0 < (bt114.1.length : Int) then (if rdOf false bt114.1 0 = true then (some false) else (if 2 < (bt114.1.length : Int) then (if rdOf false bt114.1 2 = true then (some false) else (if 3 < (bt114.1.length : Int) then (if rdOf false bt114.1 3 = true then (if bt121.2 = 0 then (if (bt121.1.length : Int) = 3 then (if 0 < (bt121.1.length : Int) then (if rdOf false bt121.1 0 = true then (if 1 < (bt121.1.length : Int) then (if rdOf false bt121.1 1 = true then (if 2 < (bt121.1.length : Int) then (some (!(rdOf false bt121.1 2))) else (none)) else (some false)) else (none)) else (some false)) else (none)) else (some false)) else (some false)) else (some false)) else (none))) else (none))) else (none)) else (some false)) else (some false)))) = some r := h
  clear h
  obtain ⟨y111, hy111⟩ : ∃ y_ : List Bool, y_ = (([false, true, false, false] : List Bool)) := ⟨_, rfl⟩
  replace H : ((probe_Verdicts.f 2 1 y111).bind fun bt114 => ((probe_Hot.f k 5 3 (([6, 4, 2] : List Int))).bind fun bt121 => (if bt114.2 = 0 then (if (bt114.1.length : Int) = 4 then (if 0 < (bt114.1.length : Int) then (if rdOf false bt114.1 0 = true then (some false) else (if 2 < (bt114.1.length : Int) then (if rdOf false bt114.1 2 = true then (some false) else (if 3 < (bt114.1.length : Int) then (if rdOf false bt114.1 3 = true then (if bt121.2 = 0 then (if (bt121.1.length : Int) = 3 then (if 0 < (bt121.1.length : Int) then (if rdOf false bt121.1 0 = true then (if 1 < (bt121.1.length : Int) then (if rdOf false bt121.1 1 = true then (if 2 < (bt121.1.length : Int) then (some (!(rdOf false bt121.1 2))) else (none)) else (some false)) else (none)) else (some false)) else (none)) else (some false)) else (some false)) else (some false)) else (none))) else (none))) else (none)) else (some false)) else (some false)))) = some r := by first | (rw [hy111]; with_reducible exact H) | (have H2_ := (Option.bind_some _ _).symm.trans H; rw [hy111]; with_reducible exact H2_) | (have H2_ := (Option.bind_some _ _).symm.trans H; with_reducible exact H2_) | with_reducible exact H | (rw [hy111]; exact H) | exact H
  have Ny111 := Aside0.mk hy111
  clear hy111
  replace H := Option.bind_eq_some_iff.mp H
  obtain ⟨⟨t114, t117⟩, A10, H⟩ := H
  replace H : ((probe_Hot.f k 5 3 (([6, 4, 2] : List Int))).bind fun bt121 => (if t117 = 0 then (if (t114.length : Int) = 4 then (if 0 < (t114.length : Int) then (if rdOf false t114 0 = true then (some false) else (if 2 < (t114.length : Int) then (if rdOf false t114 2 = true then (some false) else (if 3 < (t114.length : Int) then (if rdOf false t114 3 = true then (if bt121.2 = 0 then (if (bt121.1.length : Int) = 3 then (if 0 < (bt121.1.length : Int) then (if rdOf false bt121.1 0 = true then (if 1 < (bt121.1.length : Int) then (if rdOf false bt121.1 1 = true then (if 2 < (bt121.1.length : Int) then (some (!(rdOf false bt121.1 2))) else (none)) else (some false)) else (none)) else (some false)) else (none)) else (some false)) else (some false)) else (some false)) else (none))) else (none))) else (none)) else (some false)) else (some false))) = some r := H
  have A1 := Aside0.mk A10
  clear A10
  obtain ⟨y118, hy118⟩ : ∃ y_ : List Int, y_ = (([6, 4, 2] : List Int)) := ⟨_, rfl⟩
  replace H : ((probe_Hot.f k 5 3 y118).bind fun bt121 => (if t117 = 0 then (if (t114.length : Int) = 4 then (if 0 < (t114.length : Int) then (if rdOf false t114 0 = true then (some false) else (if 2 < (t114.length : Int) then (if rdOf false t114 2 = true then (some false) else (if 3 < (t114.length : Int) then (if rdOf false t114 3 = true then (if bt121.2 = 0 then (if (bt121.1.length : Int) = 3 then (if 0 < (bt121.1.length : Int) then (if rdOf false bt121.1 0 = true then (if 1 < (bt121.1.length : Int) then (if rdOf false bt121.1 1 = true then (if 2 < (bt121.1.length : Int) then (some (!(rdOf false bt121.1 2))) else (none)) else (some false)) else (none)) else (some false)) else (none)) else (some false)) else (some false)) else (some false)) else (none))) else (none))) else (none)) else (some false)) else (some false))) = some r := by first | (rw [hy118]; with_reducible exact H) | (have H2_ := (Option.bind_some _ _).symm.trans H; rw [hy118]; with_reducible exact H2_) | (have H2_ := (Option.bind_some _ _).symm.trans H; with_reducible exact H2_) | with_reducible exact H | (rw [hy118]; exact H) | exact H
  have Ny118 := Aside0.mk hy118
  clear hy118
  replace H := Option.bind_eq_some_iff.mp H
  obtain ⟨⟨t121, t122⟩, A20, H⟩ := H
  replace H : (if t117 = 0 then (if (t114.length : Int) = 4 then (if 0 < (t114.length : Int) then (if rdOf false t114 0 = true then (some false) else (if 2 < (t114.length : Int) then (if rdOf false t114 2 = true then (some false) else (if 3 < (t114.length : Int) then (if rdOf false t114 3 = true then (if t122 = 0 then (if (t121.length : Int) = 3 then (if 0 < (t121.length : Int) then (if rdOf false t121 0 = true then (if 1 < (t121.length : Int) then (if rdOf false t121 1 = true then (if 2 < (t121.length : Int) then (some (!(rdOf false t121 2))) else (none)) else (some false)) else (none)) else (some false)) else (none)) else (some false)) else (some false)) else (some false)) else (none))) else (none))) else (none)) else (some false)) else (some false)) = some r := H
  have A2 := Aside0.mk A20
  clear A20
  by_cases c3 : t117 = 0
  · rw [if_pos c3] at H
    have c3b0 : (t117 == 0) = true := beq_iff_eq.mpr c3
    have c3b1 : (t117 != 0) = false := bne_eq_false_iff_eq.mpr c3
    clear c3
    by_cases c4 : (t114.length : Int) = 4
    · rw [if_pos c4] at H
      have c4b0 : ((t114.length : Int) == 4) = true := beq_iff_eq.mpr c4
      have c4b1 : ((t114.length : Int) != 4) = false := bne_eq_false_iff_eq.mpr c4
      clear c4
      by_cases c5 : 0 < (t114.length : Int)
      · rw [if_pos c5] at H
        have c5b0 : decide (0 < (t114.length : Int)) = true := decide_eq_true c5
        have c5b1 : decide (0 < t114.length) = true := decide_eq_true (by omega)
        clear c5
        obtain ⟨bq6, hbq6⟩ : ∃ b_ : Bool, b_ = (rdOf false t114 0) := ⟨_, rfl⟩
        replace H : (if bq6 = true then (some false) else (if 2 < (t114.length : Int) then (if rdOf false t114 2 = true then (some false) else (if 3 < (t114.length : Int) then (if rdOf false t114 3 = true then (if t122 = 0 then (if (t121.length : Int) = 3 then (if 0 < (t121.length : Int) then (if rdOf false t121 0 = true then (if 1 < (t121.length : Int) then (if rdOf false t121 1 = true then (if 2 < (t121.length : Int) then (some (!(rdOf false t121 2))) else (none)) else (some false)) else (none)) else (some false)) else (none)) else (some false)) else (some false)) else (some false)) else (none))) else (none))) = some r := by rw [← hbq6] at H; exact H
        have Nbq6 := Aside0.mk hbq6
        clear hbq6
        by_cases c7 : bq6 = true
        · subst c7
          have H1 : (some false) = some r := by rw [if_pos rfl] at H; exact H
          clear H
          have H := H1
          clear H1
          obtain rfl := Option.some.inj H
          go_enter Try.func9, Try.ntmps9
          go_wp2_with (first | ((with_reducible refine gate_dst (N := 7) rfl ?_); (try (refine gate_guard (by rfl) ?_; dsimp only)); refine Kd.R_lit Kd.bool _ 4 ?hg (N := 7) ?hd (xs := ([false, true, false, false] : List Bool)) (inner := [.bool false, .bool true, .bool false, .bool false]) (ok := fun _ => True) (okp := fun _ => True) ?hr ?hp (fun _ hk => hk) trivial (Below.refl _ _) (Nat.le_refl _) (by simp) ?_; (case hd => rfl); (case hg => rfl); (case hr => first | (go_simp; done) | (go_simp; rfl)); (case hp => exact (Reps.one (show Kd.M Kd.bool _ _ _ false [.bool false] from rfl) (Reps.one (show Kd.M Kd.bool _ _ _ true [.bool true] from rfl) (Reps.one (show Kd.M Kd.bool _ _ _ false [.bool false] from rfl) (Reps.one (show Kd.M Kd.bool _ _ _ false [.bool false] from rfl) (Reps.none _ _)))))); intro v112 w8 ho9 hb hg_ hnew_; clear hg_ hnew_; (first | rw [← Ny111.out] at ho9 | (simp only [Int.reduceToNat] at ho9; rw [← Ny111.out] at ho9)); have n0_ := Aside0.mk (Kd.R_lower ho9 (below_size (by repeat (first | (with_reducible first | exact HB.out | apply below_alloc | apply pw_below_drewN | apply below_drew1) | exact HB.out)))); have n1_ := Aside0.mk (below_step (by repeat (first | (with_reducible first | exact HB.out | apply below_alloc | apply pw_below_drewN | apply below_drew1) | exact HB.out)) hb); clear HB; have HO113 := n0_; have HB := n1_; clear n0_ n1_; clear hb ho9; obtain ⟨Ao10, co10, eo10⟩ := Kd.R_slice HO113.out; subst eo10) | ((with_reducible refine gate_callee (f := 10) rfl ?_); refine goesL_ (some 8) rfl rfl Try.func10 (by kernel_rfl) rfl #[.agg #[.int .i64 2, .int .i64 1], .slice Ao10 y111.length co10] rfl (by (try simp only [List.map_toArray, List.map_cons, List.map_nil]); first | done | rfl | (simp only [List.length_drop, List.length_take]; rfl)) ?_; (with_reducible refine (probe_Verdicts.calls 2 1 _ _ y111 t114 t117 _ ?side1 ?side2 A1.out).mono ?_); (case side1 => repeat (first | exact (Kd.R_reads' HO113.out).2.2 | (with_reducible refine Kd.C_alloc ?_ _) | (with_reducible refine Kd.C_drewN ?_ _) | (with_reducible refine Kd.C_drew ?_))); (case side2 => exact (Kd.R_reads' HO113.out).2.1); rintro e w11 ⟨v115, rfl, ho0, hb⟩; refine ⟨_, rfl, ?_⟩; have n0_ := Aside0.mk (Kd.R_elder' (by (with_reducible repeat (first | apply Kd.R_alloc | apply Kd.R_drewN | apply Kd.R_drew)); exact HO113.out) (Kd.R_base ho0) hb); have n1_ := Aside0.mk (Kd.R_lower (Kd.R_new' ho0 (Kd.R_lt (by (with_reducible repeat (first | apply Kd.R_alloc | apply Kd.R_drewN | apply Kd.R_drew)); exact HO113.out))) (below_size (by repeat (first | (with_reducible first | exact HB.out | apply below_alloc | apply pw_below_drewN | apply below_drew1) | exact HB.out)))); have n2_ := Aside0.mk (below_step (by repeat (first | (with_reducible first | exact HB.out | apply below_alloc | apply pw_below_drewN | apply below_drew1) | exact HB.out)) hb); clear HO113; clear HB; have HO113 := n0_; have HO116 := n1_; have HB := n2_; clear n0_ n1_ n2_; (try clear hb); (try clear hb2); (try clear hk); (try clear hi); (try clear ho0)) | ((with_reducible refine gate_dst (N := 12) rfl ?_); (try (refine gate_guard (by rfl) ?_; dsimp only)); refine Kd.R_lit (Kd.int .i64) _ 3 ?hg (N := 12) ?hd (xs := ([6, 4, 2] : List Int)) (inner := [.int .i64 6, .int .i64 4, .int .i64 2]) (ok := fun _ => True) (okp := fun _ => True) ?hr ?hp (fun _ hk => hk) trivial (Below.refl _ _) (Nat.le_refl _) (by simp) ?_; (case hd => rfl); (case hg => rfl); (case hr => first | (go_simp; done) | (go_simp; rfl)); (case hp => exact (Reps.one (show Kd.M (Kd.int .i64) _ _ _ 6 [.int .i64 6] from rfl) (Reps.one (show Kd.M (Kd.int .i64) _ _ _ 4 [.int .i64 4] from rfl) (Reps.one (show Kd.M (Kd.int .i64) _ _ _ 2 [.int .i64 2] from rfl) (Reps.none _ _))))); intro v119 w12 ho13 hb hg_ hnew_; clear hg_ hnew_; (first | rw [← Ny118.out] at ho13 | (simp only [Int.reduceToNat] at ho13; rw [← Ny118.out] at ho13)); have n0_ := Aside0.mk (Kd.R_below (by (with_reducible repeat (first | apply Kd.R_alloc | apply Kd.R_drewN | apply Kd.R_drew)); exact HO113.out) hb); have n1_ := Aside0.mk (Kd.R_below (by (with_reducible repeat (first | apply Kd.R_alloc | apply Kd.R_drewN | apply Kd.R_drew)); exact HO116.out) hb); have n2_ := Aside0.mk (Kd.R_lower ho13 (below_size (by repeat (first | (with_reducible first | exact HB.out | apply below_alloc | apply pw_below_drewN | apply below_drew1) | exact HB.out)))); have n3_ := Aside0.mk (below_step (by repeat (first | (with_reducible first | exact HB.out | apply below_alloc | apply pw_below_drewN | apply below_drew1) | exact HB.out)) hb); clear HO113; clear HO116; clear HB; have HO113 := n0_; have HO116 := n1_; have HO120 := n2_; have HB := n3_; clear n0_ n1_ n2_ n3_; clear hb ho13; obtain ⟨Ao14, co14, eo14⟩ := Kd.R_slice HO120.out; subst eo14) | ((with_reducible refine gate_callee (f := 15) rfl ?_); refine goesL_ (some 13) rfl rfl Try.func15 (by kernel_rfl) rfl #[.int .i64 5, .int .i64 3, .slice Ao14 y118.length co14] rfl (by (try simp only [List.map_toArray, List.map_cons, List.map_nil]); first | done | rfl | (simp only [List.length_drop, List.length_take]; rfl)) ?_; (with_reducible refine (probe_Hot.calls k 5 3 _ _ y118 t121 t122 _ ?side1 ?side2 A2.out).mono ?_); (case side1 => repeat (first | exact (Kd.R_reads' HO120.out).2.2 | (with_reducible refine Kd.C_alloc ?_ _) | (with_reducible refine Kd.C_drewN ?_ _) | (with_reducible refine Kd.C_drew ?_))); (case side2 => exact (Kd.R_reads' HO120.out).2.1); rintro e w15 ⟨v123, rfl, ho0, hb⟩; refine ⟨_, rfl, ?_⟩; have n0_ := Aside0.mk (Kd.R_elder' (by (with_reducible repeat (first | apply Kd.R_alloc | apply Kd.R_drewN | apply Kd.R_drew)); exact HO113.out) (Kd.R_base ho0) hb); have n1_ := Aside0.mk (Kd.R_elder' (by (with_reducible repeat (first | apply Kd.R_alloc | apply Kd.R_drewN | apply Kd.R_drew)); exact HO116.out) (Kd.R_base ho0) hb); have n2_ := Aside0.mk (Kd.R_below (by (with_reducible repeat (first | apply Kd.R_alloc | apply Kd.R_drewN | apply Kd.R_drew)); exact HO120.out) hb); have n3_ := Aside0.mk (Kd.R_lower (Kd.R_new' (Kd.R_new' ho0 (Kd.R_lt (by (with_reducible repeat (first | apply Kd.R_alloc | apply Kd.R_drewN | apply Kd.R_drew)); exact HO113.out))) (Kd.R_lt (by (with_reducible repeat (first | apply Kd.R_alloc | apply Kd.R_drewN | apply Kd.R_drew)); exact HO116.out))) (below_size (by repeat (first | (with_reducible first | exact HB.out | apply below_alloc | apply pw_below_drewN | apply below_drew1) | exact HB.out)))); have n4_ := Aside0.mk (below_step (by repeat (first | (with_reducible first | exact HB.out | apply below_alloc | apply pw_below_drewN | apply below_drew1) | exact HB.out)) hb); clear HO113; clear HO116; clear HO120; clear HB; have HO113 := n0_; have HO116 := n1_; have HO120 := n2_; have HO124 := n3_; have HB := n4_; clear n0_ n1_ n2_ n3_ n4_; (try clear hb); (try clear hb2); (try clear hk); (try clear hi); (try clear ho0); obtain ⟨Ao16, co16, eo16⟩ := Kd.R_slice HO116.out; subst eo16; have p125 : 0 ≤ (0 : Int) := (by omega); have q125 : 0 < (t114.length : Int) := of_decide_eq_true (by first | (with_reducible assumption) | assumption); obtain ⟨ad125, e125, hx125_0⟩ := Kd.at_bool (Kd.R_reads' HO116.out).2.2 0 p125 q125; (try rw [← Nbq6.out] at hx125_0); cases e125; have qi125 : (0 < t114.length) = True := eq_true (by omega); (try rw [show ((0 : Int)).toNat = 0 from rfl] at hx125_0); (try rw [Addr.add_zero'] at hx125_0); replace p125 := eq_true p125; replace q125 := eq_true q125))
          go_ret
          exact ⟨by first | rfl | (simp [errW_none, errW_some] <;> rfl) | (simp [*, errW_none, errW_some] <;> rfl), by repeat (first | (with_reducible first | exact HB.out | apply below_alloc | apply pw_below_drewN | apply below_drew1) | exact HB.out)⟩
        · replace c7 := Bool.eq_false_iff.mpr c7
          subst c7
          have H1 : (if 2 < (t114.length : Int) then (if rdOf false t114 2 = true then (some false) else (if 3 < (t114.length : Int) then (if rdOf false t114 3 = true then (if t122 = 0 then (if (t121.length : Int) = 3 then (if 0 < (t121.length : Int) then (if rdOf false t121 0 = true then (if 1 < (t121.length : Int) then (if rdOf false t121 1 = true then (if 2 < (t121.length : Int) then (some (!(rdOf false t121 2))) else (none)) else (some false)) else (none)) else (some false)) else (none)) else (some false)) else (some false)) else (some false)) else (none))) else (none)) = some r := by rw [if_neg (show ¬ (false = true) by decide)] at H; exact H
          clear H
          have H := H1
          clear H1
          by_cases c17 : 2 < (t114.length : Int)
          · rw [if_pos c17] at H
            have c17b0 : decide (2 < (t114.length : Int)) = true := decide_eq_true c17
            have c17b1 : decide (2 < t114.length) = true := decide_eq_true (by omega)
            clear c17
            obtain ⟨bq18, hbq18⟩ : ∃ b_ : Bool, b_ = (rdOf false t114 2) := ⟨_, rfl⟩
            replace H : (if bq18 = true then (some false) else (if 3 < (t114.length : Int) then (if rdOf false t114 3 = true then (if t122 = 0 then (if (t121.length : Int) = 3 then (if 0 < (t121.length : Int) then (if rdOf false t121 0 = true then (if 1 < (t121.length : Int) then (if rdOf false t121 1 = true then (if 2 < (t121.length : Int) then (some (!(rdOf false t121 2))) else (none)) else (some false)) else (none)) else (some false)) else (none)) else (some false)) else (some false)) else (some false)) else (none))) = some r := by rw [← hbq18] at H; exact H
            have Nbq18 := Aside0.mk hbq18
            clear hbq18
            by_cases c19 : bq18 = true
            · subst c19
              have H1 : (some false) = some r := by rw [if_pos rfl] at H; exact H
              clear H
              have H := H1
              clear H1
              obtain rfl := Option.some.inj H
              go_enter Try.func9, Try.ntmps9
              go_wp2_with (first | ((with_reducible refine gate_dst (N := 7) rfl ?_); (try (refine gate_guard (by rfl) ?_; dsimp only)); refine Kd.R_lit Kd.bool _ 4 ?hg (N := 7) ?hd (xs := ([false, true, false, false] : List Bool)) (inner := [.bool false, .bool true, .bool false, .bool false]) (ok := fun _ => True) (okp := fun _ => True) ?hr ?hp (fun _ hk => hk) trivial (Below.refl _ _) (Nat.le_refl _) (by simp) ?_; (case hd => rfl); (case hg => rfl); (case hr => first | (go_simp; done) | (go_simp; rfl)); (case hp => exact (Reps.one (show Kd.M Kd.bool _ _ _ false [.bool false] from rfl) (Reps.one (show Kd.M Kd.bool _ _ _ true [.bool true] from rfl) (Reps.one (show Kd.M Kd.bool _ _ _ false [.bool false] from rfl) (Reps.one (show Kd.M Kd.bool _ _ _ false [.bool false] from rfl) (Reps.none _ _)))))); intro v112 w20 ho21 hb hg_ hnew_; clear hg_ hnew_; (first | rw [← Ny111.out] at ho21 | (simp only [Int.reduceToNat] at ho21; rw [← Ny111.out] at ho21)); have n0_ := Aside0.mk (Kd.R_lower ho21 (below_size (by repeat (first | (with_reducible first | exact HB.out | apply below_alloc | apply pw_below_drewN | apply below_drew1) | exact HB.out)))); have n1_ := Aside0.mk (below_step (by repeat (first | (with_reducible first | exact HB.out | apply below_alloc | apply pw_below_drewN | apply below_drew1) | exact HB.out)) hb); clear HB; have HO113 := n0_; have HB := n1_; clear n0_ n1_; clear hb ho21; obtain ⟨Ao22, co22, eo22⟩ := Kd.R_slice HO113.out; subst eo22) | ((with_reducible refine gate_callee (f := 10) rfl ?_); refine goesL_ (some 8) rfl rfl Try.func10 (by kernel_rfl) rfl #[.agg #[.int .i64 2, .int .i64 1], .slice Ao22 y111.length co22] rfl (by (try simp only [List.map_toArray, List.map_cons, List.map_nil]); first | done | rfl | (simp only [List.length_drop, List.length_take]; rfl)) ?_; (with_reducible refine (probe_Verdicts.calls 2 1 _ _ y111 t114 t117 _ ?side1 ?side2 A1.out).mono ?_); (case side1 => repeat (first | exact (Kd.R_reads' HO113.out).2.2 | (with_reducible refine Kd.C_alloc ?_ _) | (with_reducible refine Kd.C_drewN ?_ _) | (with_reducible refine Kd.C_drew ?_))); (case side2 => exact (Kd.R_reads' HO113.out).2.1); rintro e w23 ⟨v115, rfl, ho0, hb⟩; refine ⟨_, rfl, ?_⟩; have n0_ := Aside0.mk (Kd.R_elder' (by (with_reducible repeat (first | apply Kd.R_alloc | apply Kd.R_drewN | apply Kd.R_drew)); exact HO113.out) (Kd.R_base ho0) hb); have n1_ := Aside0.mk (Kd.R_lower (Kd.R_new' ho0 (Kd.R_lt (by (with_reducible repeat (first | apply Kd.R_alloc | apply Kd.R_drewN | apply Kd.R_drew)); exact HO113.out))) (below_size (by repeat (first | (with_reducible first | exact HB.out | apply below_alloc | apply pw_below_drewN | apply below_drew1) | exact HB.out)))); have n2_ := Aside0.mk (below_step (by repeat (first | (with_reducible first | exact HB.out | apply below_alloc | apply pw_below_drewN | apply below_drew1) | exact HB.out)) hb); clear HO113; clear HB; have HO113 := n0_; have HO116 := n1_; have HB := n2_; clear n0_ n1_ n2_; (try clear hb); (try clear hb2); (try clear hk); (try clear hi); (try clear ho0)) | ((with_reducible refine gate_dst (N := 12) rfl ?_); (try (refine gate_guard (by rfl) ?_; dsimp only)); refine Kd.R_lit (Kd.int .i64) _ 3 ?hg (N := 12) ?hd (xs := ([6, 4, 2] : List Int)) (inner := [.int .i64 6, .int .i64 4, .int .i64 2]) (ok := fun _ => True) (okp := fun _ => True) ?hr ?hp (fun _ hk => hk) trivial (Below.refl _ _) (Nat.le_refl _) (by simp) ?_; (case hd => rfl); (case hg => rfl); (case hr => first | (go_simp; done) | (go_simp; rfl)); (case hp => exact (Reps.one (show Kd.M (Kd.int .i64) _ _ _ 6 [.int .i64 6] from rfl) (Reps.one (show Kd.M (Kd.int .i64) _ _ _ 4 [.int .i64 4] from rfl) (Reps.one (show Kd.M (Kd.int .i64) _ _ _ 2 [.int .i64 2] from rfl) (Reps.none _ _))))); intro v119 w24 ho25 hb hg_ hnew_; clear hg_ hnew_; (first | rw [← Ny118.out] at ho25 | (simp only [Int.reduceToNat] at ho25; rw [← Ny118.out] at ho25)); have n0_ := Aside0.mk (Kd.R_below (by (with_reducible repeat (first | apply Kd.R_alloc | apply Kd.R_drewN | apply Kd.R_drew)); exact HO113.out) hb); have n1_ := Aside0.mk (Kd.R_below (by (with_reducible repeat (first | apply Kd.R_alloc | apply Kd.R_drewN | apply Kd.R_drew)); exact HO116.out) hb); have n2_ := Aside0.mk (Kd.R_lower ho25 (below_size (by repeat (first | (with_reducible first | exact HB.out | apply below_alloc | apply pw_below_drewN | apply below_drew1) | exact HB.out)))); have n3_ := Aside0.mk (below_step (by repeat (first | (with_reducible first | exact HB.out | apply below_alloc | apply pw_below_drewN | apply below_drew1) | exact HB.out)) hb); clear HO113; clear HO116; clear HB; have HO113 := n0_; have HO116 := n1_; have HO120 := n2_; have HB := n3_; clear n0_ n1_ n2_ n3_; clear hb ho25; obtain ⟨Ao26, co26, eo26⟩ := Kd.R_slice HO120.out; subst eo26) | ((with_reducible refine gate_callee (f := 15) rfl ?_); refine goesL_ (some 13) rfl rfl Try.func15 (by kernel_rfl) rfl #[.int .i64 5, .int .i64 3, .slice Ao26 y118.length co26] rfl (by (try simp only [List.map_toArray, List.map_cons, List.map_nil]); first | done | rfl | (simp only [List.length_drop, List.length_take]; rfl)) ?_; (with_reducible refine (probe_Hot.calls k 5 3 _ _ y118 t121 t122 _ ?side1 ?side2 A2.out).mono ?_); (case side1 => repeat (first | exact (Kd.R_reads' HO120.out).2.2 | (with_reducible refine Kd.C_alloc ?_ _) | (with_reducible refine Kd.C_drewN ?_ _) | (with_reducible refine Kd.C_drew ?_))); (case side2 => exact (Kd.R_reads' HO120.out).2.1); rintro e w27 ⟨v123, rfl, ho0, hb⟩; refine ⟨_, rfl, ?_⟩; have n0_ := Aside0.mk (Kd.R_elder' (by (with_reducible repeat (first | apply Kd.R_alloc | apply Kd.R_drewN | apply Kd.R_drew)); exact HO113.out) (Kd.R_base ho0) hb); have n1_ := Aside0.mk (Kd.R_elder' (by (with_reducible repeat (first | apply Kd.R_alloc | apply Kd.R_drewN | apply Kd.R_drew)); exact HO116.out) (Kd.R_base ho0) hb); have n2_ := Aside0.mk (Kd.R_below (by (with_reducible repeat (first | apply Kd.R_alloc | apply Kd.R_drewN | apply Kd.R_drew)); exact HO120.out) hb); have n3_ := Aside0.mk (Kd.R_lower (Kd.R_new' (Kd.R_new' ho0 (Kd.R_lt (by (with_reducible repeat (first | apply Kd.R_alloc | apply Kd.R_drewN | apply Kd.R_drew)); exact HO113.out))) (Kd.R_lt (by (with_reducible repeat (first | apply Kd.R_alloc | apply Kd.R_drewN | apply Kd.R_drew)); exact HO116.out))) (below_size (by repeat (first | (with_reducible first | exact HB.out | apply below_alloc | apply pw_below_drewN | apply below_drew1) | exact HB.out)))); have n4_ := Aside0.mk (below_step (by repeat (first | (with_reducible first | exact HB.out | apply below_alloc | apply pw_below_drewN | apply below_drew1) | exact HB.out)) hb); clear HO113; clear HO116; clear HO120; clear HB; have HO113 := n0_; have HO116 := n1_; have HO120 := n2_; have HO124 := n3_; have HB := n4_; clear n0_ n1_ n2_ n3_ n4_; (try clear hb); (try clear hb2); (try clear hk); (try clear hi); (try clear ho0); obtain ⟨Ao28, co28, eo28⟩ := Kd.R_slice HO116.out; subst eo28; have p125 : 0 ≤ (0 : Int) := (by omega); have q125 : 0 < (t114.length : Int) := of_decide_eq_true (by first | (with_reducible assumption) | assumption); obtain ⟨ad125, e125, hx125_0⟩ := Kd.at_bool (Kd.R_reads' HO116.out).2.2 0 p125 q125; (try rw [← Nbq6.out] at hx125_0); (try rw [← Nbq18.out] at hx125_0); cases e125; have qi125 : (0 < t114.length) = True := eq_true (by omega); (try rw [show ((0 : Int)).toNat = 0 from rfl] at hx125_0); (try rw [Addr.add_zero'] at hx125_0); replace p125 := eq_true p125; replace q125 := eq_true q125; have p126 : 0 ≤ (2 : Int) := (by omega); have q126 : 2 < (t114.length : Int) := of_decide_eq_true (by first | (with_reducible assumption) | assumption); obtain ⟨ad126, e126, hx126_0⟩ := Kd.at_bool (Kd.R_reads' HO116.out).2.2 2 p126 q126; (try rw [← Nbq6.out] at hx126_0); (try rw [← Nbq18.out] at hx126_0); obtain rfl : ad125 = ad126 := (by injection e126); (try simp only [show (2 : Int).toNat = 2 from rfl, Nat.reduceMul, Nat.reduceEqDiff, Go.Addr.add, ↓reduceIte] at hx126_0); have qi126 : (2 < t114.length) = True := eq_true (by omega); (try rw [show ((2 : Int)).toNat = 2 from rfl] at hx126_0); replace p126 := eq_true p126; replace q126 := eq_true q126))
              go_ret
              exact ⟨by first | rfl | (simp [errW_none, errW_some] <;> rfl) | (simp [*, errW_none, errW_some] <;> rfl), by repeat (first | (with_reducible first | exact HB.out | apply below_alloc | apply pw_below_drewN | apply below_drew1) | exact HB.out)⟩
            · replace c19 := Bool.eq_false_iff.mpr c19
              subst c19
              have H1 : (if 3 < (t114.length : Int) then (if rdOf false t114 3 = true then (if t122 = 0 then (if (t121.length : Int) = 3 then (if 0 < (t121.length : Int) then (if rdOf false t121 0 = true then (if 1 < (t121.length : Int) then (if rdOf false t121 1 = true then (if 2 < (t121.length : Int) then (some (!(rdOf false t121 2))) else (none)) else (some false)) else (none)) else (some false)) else (none)) else (some false)) else (some false)) else (some false)) else (none)) = some r := by rw [if_neg (show ¬ (false = true) by decide)] at H; exact H
              clear H
              have H := H1
              clear H1
              by_cases c29 : 3 < (t114.length : Int)
              · rw [if_pos c29] at H
                have c29b0 : decide (3 < (t114.length : Int)) = true := decide_eq_true c29
                have c29b1 : decide (3 < t114.length) = true := decide_eq_true (by omega)
                clear c29
                obtain ⟨bq30, hbq30⟩ : ∃ b_ : Bool, b_ = (rdOf false t114 3) := ⟨_, rfl⟩
                replace H : (if bq30 = true then (if t122 = 0 then (if (t121.length : Int) = 3 then (if 0 < (t121.length : Int) then (if rdOf false t121 0 = true then (if 1 < (t121.length : Int) then (if rdOf false t121 1 = true then (if 2 < (t121.length : Int) then (some (!(rdOf false t121 2))) else (none)) else (some false)) else (none)) else (some false)) else (none)) else (some false)) else (some false)) else (some false)) = some r := by rw [← hbq30] at H; exact H
                have Nbq30 := Aside0.mk hbq30
                clear hbq30
                by_cases c31 : bq30 = true
                · subst c31
                  have H1 : (if t122 = 0 then (if (t121.length : Int) = 3 then (if 0 < (t121.length : Int) then (if rdOf false t121 0 = true then (if 1 < (t121.length : Int) then (if rdOf false t121 1 = true then (if 2 < (t121.length : Int) then (some (!(rdOf false t121 2))) else (none)) else (some false)) else (none)) else (some false)) else (none)) else (some false)) else (some false)) = some r := by rw [if_pos rfl] at H; exact H
                  clear H
                  have H := H1
                  clear H1
                  by_cases c32 : t122 = 0
                  · rw [if_pos c32] at H
                    have c32b0 : (t122 == 0) = true := beq_iff_eq.mpr c32
                    have c32b1 : (t122 != 0) = false := bne_eq_false_iff_eq.mpr c32
                    clear c32
                    by_cases c33 : (t121.length : Int) = 3
                    · rw [if_pos c33] at H
                      have c33b0 : ((t121.length : Int) == 3) = true := beq_iff_eq.mpr c33
                      have c33b1 : ((t121.length : Int) != 3) = false := bne_eq_false_iff_eq.mpr c33
                      clear c33
                      by_cases c34 : 0 < (t121.length : Int)
                      · rw [if_pos c34] at H
                        have c34b0 : decide (0 < (t121.length : Int)) = true := decide_eq_true c34
                        have c34b1 : decide (0 < t121.length) = true := decide_eq_true (by omega)
                        clear c34
                        obtain ⟨bq35, hbq35⟩ : ∃ b_ : Bool, b_ = (rdOf false t121 0) := ⟨_, rfl⟩
                        replace H : (if bq35 = true then (if 1 < (t121.length : Int) then (if rdOf false t121 1 = true then (if 2 < (t121.length : Int) then (some (!(rdOf false t121 2))) else (none)) else (some false)) else (none)) else (some false)) = some r := by rw [← hbq35] at H; exact H
                        have Nbq35 := Aside0.mk hbq35
                        clear hbq35
                        by_cases c36 : bq35 = true
                        · subst c36
                          have H1 : (if 1 < (t121.length : Int) then (if rdOf false t121 1 = true then (if 2 < (t121.length : Int) then (some (!(rdOf false t121 2))) else (none)) else (some false)) else (none)) = some r := by rw [if_pos rfl] at H; exact H
                          clear H
                          have H := H1
                          clear H1
                          by_cases c37 : 1 < (t121.length : Int)
                          · rw [if_pos c37] at H
                            have c37b0 : decide (1 < (t121.length : Int)) = true := decide_eq_true c37
                            have c37b1 : decide (1 < t121.length) = true := decide_eq_true (by omega)
                            clear c37
                            obtain ⟨bq38, hbq38⟩ : ∃ b_ : Bool, b_ = (rdOf false t121 1) := ⟨_, rfl⟩
                            replace H : (if bq38 = true then (if 2 < (t121.length : Int) then (some (!(rdOf false t121 2))) else (none)) else (some false)) = some r := by rw [← hbq38] at H; exact H
                            have Nbq38 := Aside0.mk hbq38
                            clear hbq38
                            by_cases c39 : bq38 = true
                            · subst c39
                              have H1 : (if 2 < (t121.length : Int) then (some (!(rdOf false t121 2))) else (none)) = some r := by rw [if_pos rfl] at H; exact H
                              clear H
                              have H := H1
                              clear H1
                              by_cases c40 : 2 < (t121.length : Int)
                              · rw [if_pos c40] at H
                                have c40b0 : decide (2 < (t121.length : Int)) = true := decide_eq_true c40
                                have c40b1 : decide (2 < t121.length) = true := decide_eq_true (by omega)
                                clear c40
                                obtain rfl := Option.some.inj H
                                go_enter Try.func9, Try.ntmps9
                                go_wp2_with (first | ((with_reducible refine gate_dst (N := 7) rfl ?_); (try (refine gate_guard (by rfl) ?_; dsimp only)); refine Kd.R_lit Kd.bool _ 4 ?hg (N := 7) ?hd (xs := ([false, true, false, false] : List Bool)) (inner := [.bool false, .bool true, .bool false, .bool false]) (ok := fun _ => True) (okp := fun _ => True) ?hr ?hp (fun _ hk => hk) trivial (Below.refl _ _) (Nat.le_refl _) (by simp) ?_; (case hd => rfl); (case hg => rfl); (case hr => first | (go_simp; done) | (go_simp; rfl)); (case hp => exact (Reps.one (show Kd.M Kd.bool _ _ _ false [.bool false] from rfl) (Reps.one (show Kd.M Kd.bool _ _ _ true [.bool true] from rfl) (Reps.one (show Kd.M Kd.bool _ _ _ false [.bool false] from rfl) (Reps.one (show Kd.M Kd.bool _ _ _ false [.bool false] from rfl) (Reps.none _ _)))))); intro v112 w41 ho42 hb hg_ hnew_; clear hg_ hnew_; (first | rw [← Ny111.out] at ho42 | (simp only [Int.reduceToNat] at ho42; rw [← Ny111.out] at ho42)); have n0_ := Aside0.mk (Kd.R_lower ho42 (below_size (by repeat (first | (with_reducible first | exact HB.out | apply below_alloc | apply pw_below_drewN | apply below_drew1) | exact HB.out)))); have n1_ := Aside0.mk (below_step (by repeat (first | (with_reducible first | exact HB.out | apply below_alloc | apply pw_below_drewN | apply below_drew1) | exact HB.out)) hb); clear HB; have HO113 := n0_; have HB := n1_; clear n0_ n1_; clear hb ho42; obtain ⟨Ao43, co43, eo43⟩ := Kd.R_slice HO113.out; subst eo43) | ((with_reducible refine gate_callee (f := 10) rfl ?_); refine goesL_ (some 8) rfl rfl Try.func10 (by kernel_rfl) rfl #[.agg #[.int .i64 2, .int .i64 1], .slice Ao43 y111.length co43] rfl (by (try simp only [List.map_toArray, List.map_cons, List.map_nil]); first | done | rfl | (simp only [List.length_drop, List.length_take]; rfl)) ?_; (with_reducible refine (probe_Verdicts.calls 2 1 _ _ y111 t114 t117 _ ?side1 ?side2 A1.out).mono ?_); (case side1 => repeat (first | exact (Kd.R_reads' HO113.out).2.2 | (with_reducible refine Kd.C_alloc ?_ _) | (with_reducible refine Kd.C_drewN ?_ _) | (with_reducible refine Kd.C_drew ?_))); (case side2 => exact (Kd.R_reads' HO113.out).2.1); rintro e w44 ⟨v115, rfl, ho0, hb⟩; refine ⟨_, rfl, ?_⟩; have n0_ := Aside0.mk (Kd.R_elder' (by (with_reducible repeat (first | apply Kd.R_alloc | apply Kd.R_drewN | apply Kd.R_drew)); exact HO113.out) (Kd.R_base ho0) hb); have n1_ := Aside0.mk (Kd.R_lower (Kd.R_new' ho0 (Kd.R_lt (by (with_reducible repeat (first | apply Kd.R_alloc | apply Kd.R_drewN | apply Kd.R_drew)); exact HO113.out))) (below_size (by repeat (first | (with_reducible first | exact HB.out | apply below_alloc | apply pw_below_drewN | apply below_drew1) | exact HB.out)))); have n2_ := Aside0.mk (below_step (by repeat (first | (with_reducible first | exact HB.out | apply below_alloc | apply pw_below_drewN | apply below_drew1) | exact HB.out)) hb); clear HO113; clear HB; have HO113 := n0_; have HO116 := n1_; have HB := n2_; clear n0_ n1_ n2_; (try clear hb); (try clear hb2); (try clear hk); (try clear hi); (try clear ho0)) | ((with_reducible refine gate_dst (N := 12) rfl ?_); (try (refine gate_guard (by rfl) ?_; dsimp only)); refine Kd.R_lit (Kd.int .i64) _ 3 ?hg (N := 12) ?hd (xs := ([6, 4, 2] : List Int)) (inner := [.int .i64 6, .int .i64 4, .int .i64 2]) (ok := fun _ => True) (okp := fun _ => True) ?hr ?hp (fun _ hk => hk) trivial (Below.refl _ _) (Nat.le_refl _) (by simp) ?_; (case hd => rfl); (case hg => rfl); (case hr => first | (go_simp; done) | (go_simp; rfl)); (case hp => exact (Reps.one (show Kd.M (Kd.int .i64) _ _ _ 6 [.int .i64 6] from rfl) (Reps.one (show Kd.M (Kd.int .i64) _ _ _ 4 [.int .i64 4] from rfl) (Reps.one (show Kd.M (Kd.int .i64) _ _ _ 2 [.int .i64 2] from rfl) (Reps.none _ _))))); intro v119 w45 ho46 hb hg_ hnew_; clear hg_ hnew_; (first | rw [← Ny118.out] at ho46 | (simp only [Int.reduceToNat] at ho46; rw [← Ny118.out] at ho46)); have n0_ := Aside0.mk (Kd.R_below (by (with_reducible repeat (first | apply Kd.R_alloc | apply Kd.R_drewN | apply Kd.R_drew)); exact HO113.out) hb); have n1_ := Aside0.mk (Kd.R_below (by (with_reducible repeat (first | apply Kd.R_alloc | apply Kd.R_drewN | apply Kd.R_drew)); exact HO116.out) hb); have n2_ := Aside0.mk (Kd.R_lower ho46 (below_size (by repeat (first | (with_reducible first | exact HB.out | apply below_alloc | apply pw_below_drewN | apply below_drew1) | exact HB.out)))); have n3_ := Aside0.mk (below_step (by repeat (first | (with_reducible first | exact HB.out | apply below_alloc | apply pw_below_drewN | apply below_drew1) | exact HB.out)) hb); clear HO113; clear HO116; clear HB; have HO113 := n0_; have HO116 := n1_; have HO120 := n2_; have HB := n3_; clear n0_ n1_ n2_ n3_; clear hb ho46; obtain ⟨Ao47, co47, eo47⟩ := Kd.R_slice HO120.out; subst eo47) | ((with_reducible refine gate_callee (f := 15) rfl ?_); refine goesL_ (some 13) rfl rfl Try.func15 (by kernel_rfl) rfl #[.int .i64 5, .int .i64 3, .slice Ao47 y118.length co47] rfl (by (try simp only [List.map_toArray, List.map_cons, List.map_nil]); first | done | rfl | (simp only [List.length_drop, List.length_take]; rfl)) ?_; (with_reducible refine (probe_Hot.calls k 5 3 _ _ y118 t121 t122 _ ?side1 ?side2 A2.out).mono ?_); (case side1 => repeat (first | exact (Kd.R_reads' HO120.out).2.2 | (with_reducible refine Kd.C_alloc ?_ _) | (with_reducible refine Kd.C_drewN ?_ _) | (with_reducible refine Kd.C_drew ?_))); (case side2 => exact (Kd.R_reads' HO120.out).2.1); rintro e w48 ⟨v123, rfl, ho0, hb⟩; refine ⟨_, rfl, ?_⟩; have n0_ := Aside0.mk (Kd.R_elder' (by (with_reducible repeat (first | apply Kd.R_alloc | apply Kd.R_drewN | apply Kd.R_drew)); exact HO113.out) (Kd.R_base ho0) hb); have n1_ := Aside0.mk (Kd.R_elder' (by (with_reducible repeat (first | apply Kd.R_alloc | apply Kd.R_drewN | apply Kd.R_drew)); exact HO116.out) (Kd.R_base ho0) hb); have n2_ := Aside0.mk (Kd.R_below (by (with_reducible repeat (first | apply Kd.R_alloc | apply Kd.R_drewN | apply Kd.R_drew)); exact HO120.out) hb); have n3_ := Aside0.mk (Kd.R_lower (Kd.R_new' (Kd.R_new' ho0 (Kd.R_lt (by (with_reducible repeat (first | apply Kd.R_alloc | apply Kd.R_drewN | apply Kd.R_drew)); exact HO113.out))) (Kd.R_lt (by (with_reducible repeat (first | apply Kd.R_alloc | apply Kd.R_drewN | apply Kd.R_drew)); exact HO116.out))) (below_size (by repeat (first | (with_reducible first | exact HB.out | apply below_alloc | apply pw_below_drewN | apply below_drew1) | exact HB.out)))); have n4_ := Aside0.mk (below_step (by repeat (first | (with_reducible first | exact HB.out | apply below_alloc | apply pw_below_drewN | apply below_drew1) | exact HB.out)) hb); clear HO113; clear HO116; clear HO120; clear HB; have HO113 := n0_; have HO116 := n1_; have HO120 := n2_; have HO124 := n3_; have HB := n4_; clear n0_ n1_ n2_ n3_ n4_; (try clear hb); (try clear hb2); (try clear hk); (try clear hi); (try clear ho0); obtain ⟨Ao49, co49, eo49⟩ := Kd.R_slice HO116.out; subst eo49; have p125 : 0 ≤ (0 : Int) := (by omega); have q125 : 0 < (t114.length : Int) := of_decide_eq_true (by first | (with_reducible assumption) | assumption); obtain ⟨ad125, e125, hx125_0⟩ := Kd.at_bool (Kd.R_reads' HO116.out).2.2 0 p125 q125; (try rw [← Nbq6.out] at hx125_0); (try rw [← Nbq18.out] at hx125_0); (try rw [← Nbq30.out] at hx125_0); (try rw [← Nbq35.out] at hx125_0); (try rw [← Nbq38.out] at hx125_0); cases e125; have qi125 : (0 < t114.length) = True := eq_true (by omega); (try rw [show ((0 : Int)).toNat = 0 from rfl] at hx125_0); (try rw [Addr.add_zero'] at hx125_0); replace p125 := eq_true p125; replace q125 := eq_true q125; have p126 : 0 ≤ (2 : Int) := (by omega); have q126 : 2 < (t114.length : Int) := of_decide_eq_true (by first | (with_reducible assumption) | assumption); obtain ⟨ad126, e126, hx126_0⟩ := Kd.at_bool (Kd.R_reads' HO116.out).2.2 2 p126 q126; (try rw [← Nbq6.out] at hx126_0); (try rw [← Nbq18.out] at hx126_0); (try rw [← Nbq30.out] at hx126_0); (try rw [← Nbq35.out] at hx126_0); (try rw [← Nbq38.out] at hx126_0); obtain rfl : ad125 = ad126 := (by injection e126); (try simp only [show (2 : Int).toNat = 2 from rfl, Nat.reduceMul, Nat.reduceEqDiff, Go.Addr.add, ↓reduceIte] at hx126_0); have qi126 : (2 < t114.length) = True := eq_true (by omega); (try rw [show ((2 : Int)).toNat = 2 from rfl] at hx126_0); replace p126 := eq_true p126; replace q126 := eq_true q126; have p127 : 0 ≤ (3 : Int) := (by omega); have q127 : 3 < (t114.length : Int) := of_decide_eq_true (by first | (with_reducible assumption) | assumption); obtain ⟨ad127, e127, hx127_0⟩ := Kd.at_bool (Kd.R_reads' HO116.out).2.2 3 p127 q127; (try rw [← Nbq6.out] at hx127_0); (try rw [← Nbq18.out] at hx127_0); (try rw [← Nbq30.out] at hx127_0); (try rw [← Nbq35.out] at hx127_0); (try rw [← Nbq38.out] at hx127_0); obtain rfl : ad125 = ad127 := (by injection e127); (try simp only [show (3 : Int).toNat = 3 from rfl, Nat.reduceMul, Nat.reduceEqDiff, Go.Addr.add, ↓reduceIte] at hx127_0); have qi127 : (3 < t114.length) = True := eq_true (by omega); (try rw [show ((3 : Int)).toNat = 3 from rfl] at hx127_0); replace p127 := eq_true p127; replace q127 := eq_true q127; obtain ⟨Ao50, co50, eo50⟩ := Kd.R_slice HO124.out; subst eo50; have p128 : 0 ≤ (0 : Int) := (by omega); have q128 : 0 < (t121.length : Int) := of_decide_eq_true (by first | (with_reducible assumption) | assumption); obtain ⟨ad128, e128, hx128_0⟩ := Kd.at_bool (Kd.R_reads' HO124.out).2.2 0 p128 q128; (try rw [← Nbq6.out] at hx128_0); (try rw [← Nbq18.out] at hx128_0); (try rw [← Nbq30.out] at hx128_0); (try rw [← Nbq35.out] at hx128_0); (try rw [← Nbq38.out] at hx128_0); cases e128; have qi128 : (0 < t121.length) = True := eq_true (by omega); (try rw [show ((0 : Int)).toNat = 0 from rfl] at hx128_0); (try rw [Addr.add_zero'] at hx128_0); replace p128 := eq_true p128; replace q128 := eq_true q128; have p129 : 0 ≤ (1 : Int) := (by omega); have q129 : 1 < (t121.length : Int) := of_decide_eq_true (by first | (with_reducible assumption) | assumption); obtain ⟨ad129, e129, hx129_0⟩ := Kd.at_bool (Kd.R_reads' HO124.out).2.2 1 p129 q129; (try rw [← Nbq6.out] at hx129_0); (try rw [← Nbq18.out] at hx129_0); (try rw [← Nbq30.out] at hx129_0); (try rw [← Nbq35.out] at hx129_0); (try rw [← Nbq38.out] at hx129_0); obtain rfl : ad128 = ad129 := (by injection e129); (try simp only [show (1 : Int).toNat = 1 from rfl, Nat.reduceMul, Nat.reduceEqDiff, Go.Addr.add, ↓reduceIte] at hx129_0); have qi129 : (1 < t121.length) = True := eq_true (by omega); (try rw [show ((1 : Int)).toNat = 1 from rfl] at hx129_0); replace p129 := eq_true p129; replace q129 := eq_true q129; have p130 : 0 ≤ (2 : Int) := (by omega); have q130 : 2 < (t121.length : Int) := of_decide_eq_true (by first | (with_reducible assumption) | assumption); obtain ⟨ad130, e130, hx130_0⟩ := Kd.at_bool (Kd.R_reads' HO124.out).2.2 2 p130 q130; (try rw [← Nbq6.out] at hx130_0); (try rw [← Nbq18.out] at hx130_0); (try rw [← Nbq30.out] at hx130_0); (try rw [← Nbq35.out] at hx130_0); (try rw [← Nbq38.out] at hx130_0); obtain rfl : ad128 = ad130 := (by injection e130); (try simp only [show (2 : Int).toNat = 2 from rfl, Nat.reduceMul, Nat.reduceEqDiff, Go.Addr.add, ↓reduceIte] at hx130_0); have qi130 : (2 < t121.length) = True := eq_true (by omega); (try rw [show ((2 : Int)).toNat = 2 from rfl] at hx130_0); replace p130 := eq_true p130; replace q130 := eq_true q130))
                                go_ret
                                exact ⟨by first | rfl | (simp [errW_none, errW_some] <;> rfl) | (simp [*, errW_none, errW_some] <;> rfl), by repeat (first | (with_reducible first | exact HB.out | apply below_alloc | apply pw_below_drewN | apply below_drew1) | exact HB.out)⟩
                              · rw [if_neg c40] at H
                                exact absurd H (by simp)
                            · replace c39 := Bool.eq_false_iff.mpr c39
                              subst c39
                              have H1 : (some false) = some r := by rw [if_neg (show ¬ (false = true) by decide)] at H; exact H
                              clear H
                              have H := H1
                              clear H1
                              obtain rfl := Option.some.inj H
                              go_enter Try.func9, Try.ntmps9
                              go_wp2_with (first | ((with_reducible refine gate_dst (N := 7) rfl ?_); (try (refine gate_guard (by rfl) ?_; dsimp only)); refine Kd.R_lit Kd.bool _ 4 ?hg (N := 7) ?hd (xs := ([false, true, false, false] : List Bool)) (inner := [.bool false, .bool true, .bool false, .bool false]) (ok := fun _ => True) (okp := fun _ => True) ?hr ?hp (fun _ hk => hk) trivial (Below.refl _ _) (Nat.le_refl _) (by simp) ?_; (case hd => rfl); (case hg => rfl); (case hr => first | (go_simp; done) | (go_simp; rfl)); (case hp => exact (Reps.one (show Kd.M Kd.bool _ _ _ false [.bool false] from rfl) (Reps.one (show Kd.M Kd.bool _ _ _ true [.bool true] from rfl) (Reps.one (show Kd.M Kd.bool _ _ _ false [.bool false] from rfl) (Reps.one (show Kd.M Kd.bool _ _ _ false [.bool false] from rfl) (Reps.none _ _)))))); intro v112 w51 ho52 hb hg_ hnew_; clear hg_ hnew_; (first | rw [← Ny111.out] at ho52 | (simp only [Int.reduceToNat] at ho52; rw [← Ny111.out] at ho52)); have n0_ := Aside0.mk (Kd.R_lower ho52 (below_size (by repeat (first | (with_reducible first | exact HB.out | apply below_alloc | apply pw_below_drewN | apply below_drew1) | exact HB.out)))); have n1_ := Aside0.mk (below_step (by repeat (first | (with_reducible first | exact HB.out | apply below_alloc | apply pw_below_drewN | apply below_drew1) | exact HB.out)) hb); clear HB; have HO113 := n0_; have HB := n1_; clear n0_ n1_; clear hb ho52; obtain ⟨Ao53, co53, eo53⟩ := Kd.R_slice HO113.out; subst eo53) | ((with_reducible refine gate_callee (f := 10) rfl ?_); refine goesL_ (some 8) rfl rfl Try.func10 (by kernel_rfl) rfl #[.agg #[.int .i64 2, .int .i64 1], .slice Ao53 y111.length co53] rfl (by (try simp only [List.map_toArray, List.map_cons, List.map_nil]); first | done | rfl | (simp only [List.length_drop, List.length_take]; rfl)) ?_; (with_reducible refine (probe_Verdicts.calls 2 1 _ _ y111 t114 t117 _ ?side1 ?side2 A1.out).mono ?_); (case side1 => repeat (first | exact (Kd.R_reads' HO113.out).2.2 | (with_reducible refine Kd.C_alloc ?_ _) | (with_reducible refine Kd.C_drewN ?_ _) | (with_reducible refine Kd.C_drew ?_))); (case side2 => exact (Kd.R_reads' HO113.out).2.1); rintro e w54 ⟨v115, rfl, ho0, hb⟩; refine ⟨_, rfl, ?_⟩; have n0_ := Aside0.mk (Kd.R_elder' (by (with_reducible repeat (first | apply Kd.R_alloc | apply Kd.R_drewN | apply Kd.R_drew)); exact HO113.out) (Kd.R_base ho0) hb); have n1_ := Aside0.mk (Kd.R_lower (Kd.R_new' ho0 (Kd.R_lt (by (with_reducible repeat (first | apply Kd.R_alloc | apply Kd.R_drewN | apply Kd.R_drew)); exact HO113.out))) (below_size (by repeat (first | (with_reducible first | exact HB.out | apply below_alloc | apply pw_below_drewN | apply below_drew1) | exact HB.out)))); have n2_ := Aside0.mk (below_step (by repeat (first | (with_reducible first | exact HB.out | apply below_alloc | apply pw_below_drewN | apply below_drew1) | exact HB.out)) hb); clear HO113; clear HB; have HO113 := n0_; have HO116 := n1_; have HB := n2_; clear n0_ n1_ n2_; (try clear hb); (try clear hb2); (try clear hk); (try clear hi); (try clear ho0)) | ((with_reducible refine gate_dst (N := 12) rfl ?_); (try (refine gate_guard (by rfl) ?_; dsimp only)); refine Kd.R_lit (Kd.int .i64) _ 3 ?hg (N := 12) ?hd (xs := ([6, 4, 2] : List Int)) (inner := [.int .i64 6, .int .i64 4, .int .i64 2]) (ok := fun _ => True) (okp := fun _ => True) ?hr ?hp (fun _ hk => hk) trivial (Below.refl _ _) (Nat.le_refl _) (by simp) ?_; (case hd => rfl); (case hg => rfl); (case hr => first | (go_simp; done) | (go_simp; rfl)); (case hp => exact (Reps.one (show Kd.M (Kd.int .i64) _ _ _ 6 [.int .i64 6] from rfl) (Reps.one (show Kd.M (Kd.int .i64) _ _ _ 4 [.int .i64 4] from rfl) (Reps.one (show Kd.M (Kd.int .i64) _ _ _ 2 [.int .i64 2] from rfl) (Reps.none _ _))))); intro v119 w55 ho56 hb hg_ hnew_; clear hg_ hnew_; (first | rw [← Ny118.out] at ho56 | (simp only [Int.reduceToNat] at ho56; rw [← Ny118.out] at ho56)); have n0_ := Aside0.mk (Kd.R_below (by (with_reducible repeat (first | apply Kd.R_alloc | apply Kd.R_drewN | apply Kd.R_drew)); exact HO113.out) hb); have n1_ := Aside0.mk (Kd.R_below (by (with_reducible repeat (first | apply Kd.R_alloc | apply Kd.R_drewN | apply Kd.R_drew)); exact HO116.out) hb); have n2_ := Aside0.mk (Kd.R_lower ho56 (below_size (by repeat (first | (with_reducible first | exact HB.out | apply below_alloc | apply pw_below_drewN | apply below_drew1) | exact HB.out)))); have n3_ := Aside0.mk (below_step (by repeat (first | (with_reducible first | exact HB.out | apply below_alloc | apply pw_below_drewN | apply below_drew1) | exact HB.out)) hb); clear HO113; clear HO116; clear HB; have HO113 := n0_; have HO116 := n1_; have HO120 := n2_; have HB := n3_; clear n0_ n1_ n2_ n3_; clear hb ho56; obtain ⟨Ao57, co57, eo57⟩ := Kd.R_slice HO120.out; subst eo57) | ((with_reducible refine gate_callee (f := 15) rfl ?_); refine goesL_ (some 13) rfl rfl Try.func15 (by kernel_rfl) rfl #[.int .i64 5, .int .i64 3, .slice Ao57 y118.length co57] rfl (by (try simp only [List.map_toArray, List.map_cons, List.map_nil]); first | done | rfl | (simp only [List.length_drop, List.length_take]; rfl)) ?_; (with_reducible refine (probe_Hot.calls k 5 3 _ _ y118 t121 t122 _ ?side1 ?side2 A2.out).mono ?_); (case side1 => repeat (first | exact (Kd.R_reads' HO120.out).2.2 | (with_reducible refine Kd.C_alloc ?_ _) | (with_reducible refine Kd.C_drewN ?_ _) | (with_reducible refine Kd.C_drew ?_))); (case side2 => exact (Kd.R_reads' HO120.out).2.1); rintro e w58 ⟨v123, rfl, ho0, hb⟩; refine ⟨_, rfl, ?_⟩; have n0_ := Aside0.mk (Kd.R_elder' (by (with_reducible repeat (first | apply Kd.R_alloc | apply Kd.R_drewN | apply Kd.R_drew)); exact HO113.out) (Kd.R_base ho0) hb); have n1_ := Aside0.mk (Kd.R_elder' (by (with_reducible repeat (first | apply Kd.R_alloc | apply Kd.R_drewN | apply Kd.R_drew)); exact HO116.out) (Kd.R_base ho0) hb); have n2_ := Aside0.mk (Kd.R_below (by (with_reducible repeat (first | apply Kd.R_alloc | apply Kd.R_drewN | apply Kd.R_drew)); exact HO120.out) hb); have n3_ := Aside0.mk (Kd.R_lower (Kd.R_new' (Kd.R_new' ho0 (Kd.R_lt (by (with_reducible repeat (first | apply Kd.R_alloc | apply Kd.R_drewN | apply Kd.R_drew)); exact HO113.out))) (Kd.R_lt (by (with_reducible repeat (first | apply Kd.R_alloc | apply Kd.R_drewN | apply Kd.R_drew)); exact HO116.out))) (below_size (by repeat (first | (with_reducible first | exact HB.out | apply below_alloc | apply pw_below_drewN | apply below_drew1) | exact HB.out)))); have n4_ := Aside0.mk (below_step (by repeat (first | (with_reducible first | exact HB.out | apply below_alloc | apply pw_below_drewN | apply below_drew1) | exact HB.out)) hb); clear HO113; clear HO116; clear HO120; clear HB; have HO113 := n0_; have HO116 := n1_; have HO120 := n2_; have HO124 := n3_; have HB := n4_; clear n0_ n1_ n2_ n3_ n4_; (try clear hb); (try clear hb2); (try clear hk); (try clear hi); (try clear ho0); obtain ⟨Ao59, co59, eo59⟩ := Kd.R_slice HO116.out; subst eo59; have p125 : 0 ≤ (0 : Int) := (by omega); have q125 : 0 < (t114.length : Int) := of_decide_eq_true (by first | (with_reducible assumption) | assumption); obtain ⟨ad125, e125, hx125_0⟩ := Kd.at_bool (Kd.R_reads' HO116.out).2.2 0 p125 q125; (try rw [← Nbq6.out] at hx125_0); (try rw [← Nbq18.out] at hx125_0); (try rw [← Nbq30.out] at hx125_0); (try rw [← Nbq35.out] at hx125_0); (try rw [← Nbq38.out] at hx125_0); cases e125; have qi125 : (0 < t114.length) = True := eq_true (by omega); (try rw [show ((0 : Int)).toNat = 0 from rfl] at hx125_0); (try rw [Addr.add_zero'] at hx125_0); replace p125 := eq_true p125; replace q125 := eq_true q125; have p126 : 0 ≤ (2 : Int) := (by omega); have q126 : 2 < (t114.length : Int) := of_decide_eq_true (by first | (with_reducible assumption) | assumption); obtain ⟨ad126, e126, hx126_0⟩ := Kd.at_bool (Kd.R_reads' HO116.out).2.2 2 p126 q126; (try rw [← Nbq6.out] at hx126_0); (try rw [← Nbq18.out] at hx126_0); (try rw [← Nbq30.out] at hx126_0); (try rw [← Nbq35.out] at hx126_0); (try rw [← Nbq38.out] at hx126_0); obtain rfl : ad125 = ad126 := (by injection e126); (try simp only [show (2 : Int).toNat = 2 from rfl, Nat.reduceMul, Nat.reduceEqDiff, Go.Addr.add, ↓reduceIte] at hx126_0); have qi126 : (2 < t114.length) = True := eq_true (by omega); (try rw [show ((2 : Int)).toNat = 2 from rfl] at hx126_0); replace p126 := eq_true p126; replace q126 := eq_true q126; have p127 : 0 ≤ (3 : Int) := (by omega); have q127 : 3 < (t114.length : Int) := of_decide_eq_true (by first | (with_reducible assumption) | assumption); obtain ⟨ad127, e127, hx127_0⟩ := Kd.at_bool (Kd.R_reads' HO116.out).2.2 3 p127 q127; (try rw [← Nbq6.out] at hx127_0); (try rw [← Nbq18.out] at hx127_0); (try rw [← Nbq30.out] at hx127_0); (try rw [← Nbq35.out] at hx127_0); (try rw [← Nbq38.out] at hx127_0); obtain rfl : ad125 = ad127 := (by injection e127); (try simp only [show (3 : Int).toNat = 3 from rfl, Nat.reduceMul, Nat.reduceEqDiff, Go.Addr.add, ↓reduceIte] at hx127_0); have qi127 : (3 < t114.length) = True := eq_true (by omega); (try rw [show ((3 : Int)).toNat = 3 from rfl] at hx127_0); replace p127 := eq_true p127; replace q127 := eq_true q127; obtain ⟨Ao60, co60, eo60⟩ := Kd.R_slice HO124.out; subst eo60; have p128 : 0 ≤ (0 : Int) := (by omega); have q128 : 0 < (t121.length : Int) := of_decide_eq_true (by first | (with_reducible assumption) | assumption); obtain ⟨ad128, e128, hx128_0⟩ := Kd.at_bool (Kd.R_reads' HO124.out).2.2 0 p128 q128; (try rw [← Nbq6.out] at hx128_0); (try rw [← Nbq18.out] at hx128_0); (try rw [← Nbq30.out] at hx128_0); (try rw [← Nbq35.out] at hx128_0); (try rw [← Nbq38.out] at hx128_0); cases e128; have qi128 : (0 < t121.length) = True := eq_true (by omega); (try rw [show ((0 : Int)).toNat = 0 from rfl] at hx128_0); (try rw [Addr.add_zero'] at hx128_0); replace p128 := eq_true p128; replace q128 := eq_true q128; have p129 : 0 ≤ (1 : Int) := (by omega); have q129 : 1 < (t121.length : Int) := of_decide_eq_true (by first | (with_reducible assumption) | assumption); obtain ⟨ad129, e129, hx129_0⟩ := Kd.at_bool (Kd.R_reads' HO124.out).2.2 1 p129 q129; (try rw [← Nbq6.out] at hx129_0); (try rw [← Nbq18.out] at hx129_0); (try rw [← Nbq30.out] at hx129_0); (try rw [← Nbq35.out] at hx129_0); (try rw [← Nbq38.out] at hx129_0); obtain rfl : ad128 = ad129 := (by injection e129); (try simp only [show (1 : Int).toNat = 1 from rfl, Nat.reduceMul, Nat.reduceEqDiff, Go.Addr.add, ↓reduceIte] at hx129_0); have qi129 : (1 < t121.length) = True := eq_true (by omega); (try rw [show ((1 : Int)).toNat = 1 from rfl] at hx129_0); replace p129 := eq_true p129; replace q129 := eq_true q129))
                              go_ret
                              exact ⟨by first | rfl | (simp [errW_none, errW_some] <;> rfl) | (simp [*, errW_none, errW_some] <;> rfl), by repeat (first | (with_reducible first | exact HB.out | apply below_alloc | apply pw_below_drewN | apply below_drew1) | exact HB.out)⟩
                          · rw [if_neg c37] at H
                            exact absurd H (by simp)
                        · replace c36 := Bool.eq_false_iff.mpr c36
                          subst c36
                          have H1 : (some false) = some r := by rw [if_neg (show ¬ (false = true) by decide)] at H; exact H
                          clear H
                          have H := H1
                          clear H1
                          obtain rfl := Option.some.inj H
                          go_enter Try.func9, Try.ntmps9
                          go_wp2_with (first | ((with_reducible refine gate_dst (N := 7) rfl ?_); (try (refine gate_guard (by rfl) ?_; dsimp only)); refine Kd.R_lit Kd.bool _ 4 ?hg (N := 7) ?hd (xs := ([false, true, false, false] : List Bool)) (inner := [.bool false, .bool true, .bool false, .bool false]) (ok := fun _ => True) (okp := fun _ => True) ?hr ?hp (fun _ hk => hk) trivial (Below.refl _ _) (Nat.le_refl _) (by simp) ?_; (case hd => rfl); (case hg => rfl); (case hr => first | (go_simp; done) | (go_simp; rfl)); (case hp => exact (Reps.one (show Kd.M Kd.bool _ _ _ false [.bool false] from rfl) (Reps.one (show Kd.M Kd.bool _ _ _ true [.bool true] from rfl) (Reps.one (show Kd.M Kd.bool _ _ _ false [.bool false] from rfl) (Reps.one (show Kd.M Kd.bool _ _ _ false [.bool false] from rfl) (Reps.none _ _)))))); intro v112 w61 ho62 hb hg_ hnew_; clear hg_ hnew_; (first | rw [← Ny111.out] at ho62 | (simp only [Int.reduceToNat] at ho62; rw [← Ny111.out] at ho62)); have n0_ := Aside0.mk (Kd.R_lower ho62 (below_size (by repeat (first | (with_reducible first | exact HB.out | apply below_alloc | apply pw_below_drewN | apply below_drew1) | exact HB.out)))); have n1_ := Aside0.mk (below_step (by repeat (first | (with_reducible first | exact HB.out | apply below_alloc | apply pw_below_drewN | apply below_drew1) | exact HB.out)) hb); clear HB; have HO113 := n0_; have HB := n1_; clear n0_ n1_; clear hb ho62; obtain ⟨Ao63, co63, eo63⟩ := Kd.R_slice HO113.out; subst eo63) | ((with_reducible refine gate_callee (f := 10) rfl ?_); refine goesL_ (some 8) rfl rfl Try.func10 (by kernel_rfl) rfl #[.agg #[.int .i64 2, .int .i64 1], .slice Ao63 y111.length co63] rfl (by (try simp only [List.map_toArray, List.map_cons, List.map_nil]); first | done | rfl | (simp only [List.length_drop, List.length_take]; rfl)) ?_; (with_reducible refine (probe_Verdicts.calls 2 1 _ _ y111 t114 t117 _ ?side1 ?side2 A1.out).mono ?_); (case side1 => repeat (first | exact (Kd.R_reads' HO113.out).2.2 | (with_reducible refine Kd.C_alloc ?_ _) | (with_reducible refine Kd.C_drewN ?_ _) | (with_reducible refine Kd.C_drew ?_))); (case side2 => exact (Kd.R_reads' HO113.out).2.1); rintro e w64 ⟨v115, rfl, ho0, hb⟩; refine ⟨_, rfl, ?_⟩; have n0_ := Aside0.mk (Kd.R_elder' (by (with_reducible repeat (first | apply Kd.R_alloc | apply Kd.R_drewN | apply Kd.R_drew)); exact HO113.out) (Kd.R_base ho0) hb); have n1_ := Aside0.mk (Kd.R_lower (Kd.R_new' ho0 (Kd.R_lt (by (with_reducible repeat (first | apply Kd.R_alloc | apply Kd.R_drewN | apply Kd.R_drew)); exact HO113.out))) (below_size (by repeat (first | (with_reducible first | exact HB.out | apply below_alloc | apply pw_below_drewN | apply below_drew1) | exact HB.out)))); have n2_ := Aside0.mk (below_step (by repeat (first | (with_reducible first | exact HB.out | apply below_alloc | apply pw_below_drewN | apply below_drew1) | exact HB.out)) hb); clear HO113; clear HB; have HO113 := n0_; have HO116 := n1_; have HB := n2_; clear n0_ n1_ n2_; (try clear hb); (try clear hb2); (try clear hk); (try clear hi); (try clear ho0)) | ((with_reducible refine gate_dst (N := 12) rfl ?_); (try (refine gate_guard (by rfl) ?_; dsimp only)); refine Kd.R_lit (Kd.int .i64) _ 3 ?hg (N := 12) ?hd (xs := ([6, 4, 2] : List Int)) (inner := [.int .i64 6, .int .i64 4, .int .i64 2]) (ok := fun _ => True) (okp := fun _ => True) ?hr ?hp (fun _ hk => hk) trivial (Below.refl _ _) (Nat.le_refl _) (by simp) ?_; (case hd => rfl); (case hg => rfl); (case hr => first | (go_simp; done) | (go_simp; rfl)); (case hp => exact (Reps.one (show Kd.M (Kd.int .i64) _ _ _ 6 [.int .i64 6] from rfl) (Reps.one (show Kd.M (Kd.int .i64) _ _ _ 4 [.int .i64 4] from rfl) (Reps.one (show Kd.M (Kd.int .i64) _ _ _ 2 [.int .i64 2] from rfl) (Reps.none _ _))))); intro v119 w65 ho66 hb hg_ hnew_; clear hg_ hnew_; (first | rw [← Ny118.out] at ho66 | (simp only [Int.reduceToNat] at ho66; rw [← Ny118.out] at ho66)); have n0_ := Aside0.mk (Kd.R_below (by (with_reducible repeat (first | apply Kd.R_alloc | apply Kd.R_drewN | apply Kd.R_drew)); exact HO113.out) hb); have n1_ := Aside0.mk (Kd.R_below (by (with_reducible repeat (first | apply Kd.R_alloc | apply Kd.R_drewN | apply Kd.R_drew)); exact HO116.out) hb); have n2_ := Aside0.mk (Kd.R_lower ho66 (below_size (by repeat (first | (with_reducible first | exact HB.out | apply below_alloc | apply pw_below_drewN | apply below_drew1) | exact HB.out)))); have n3_ := Aside0.mk (below_step (by repeat (first | (with_reducible first | exact HB.out | apply below_alloc | apply pw_below_drewN | apply below_drew1) | exact HB.out)) hb); clear HO113; clear HO116; clear HB; have HO113 := n0_; have HO116 := n1_; have HO120 := n2_; have HB := n3_; clear n0_ n1_ n2_ n3_; clear hb ho66; obtain ⟨Ao67, co67, eo67⟩ := Kd.R_slice HO120.out; subst eo67) | ((with_reducible refine gate_callee (f := 15) rfl ?_); refine goesL_ (some 13) rfl rfl Try.func15 (by kernel_rfl) rfl #[.int .i64 5, .int .i64 3, .slice Ao67 y118.length co67] rfl (by (try simp only [List.map_toArray, List.map_cons, List.map_nil]); first | done | rfl | (simp only [List.length_drop, List.length_take]; rfl)) ?_; (with_reducible refine (probe_Hot.calls k 5 3 _ _ y118 t121 t122 _ ?side1 ?side2 A2.out).mono ?_); (case side1 => repeat (first | exact (Kd.R_reads' HO120.out).2.2 | (with_reducible refine Kd.C_alloc ?_ _) | (with_reducible refine Kd.C_drewN ?_ _) | (with_reducible refine Kd.C_drew ?_))); (case side2 => exact (Kd.R_reads' HO120.out).2.1); rintro e w68 ⟨v123, rfl, ho0, hb⟩; refine ⟨_, rfl, ?_⟩; have n0_ := Aside0.mk (Kd.R_elder' (by (with_reducible repeat (first | apply Kd.R_alloc | apply Kd.R_drewN | apply Kd.R_drew)); exact HO113.out) (Kd.R_base ho0) hb); have n1_ := Aside0.mk (Kd.R_elder' (by (with_reducible repeat (first | apply Kd.R_alloc | apply Kd.R_drewN | apply Kd.R_drew)); exact HO116.out) (Kd.R_base ho0) hb); have n2_ := Aside0.mk (Kd.R_below (by (with_reducible repeat (first | apply Kd.R_alloc | apply Kd.R_drewN | apply Kd.R_drew)); exact HO120.out) hb); have n3_ := Aside0.mk (Kd.R_lower (Kd.R_new' (Kd.R_new' ho0 (Kd.R_lt (by (with_reducible repeat (first | apply Kd.R_alloc | apply Kd.R_drewN | apply Kd.R_drew)); exact HO113.out))) (Kd.R_lt (by (with_reducible repeat (first | apply Kd.R_alloc | apply Kd.R_drewN | apply Kd.R_drew)); exact HO116.out))) (below_size (by repeat (first | (with_reducible first | exact HB.out | apply below_alloc | apply pw_below_drewN | apply below_drew1) | exact HB.out)))); have n4_ := Aside0.mk (below_step (by repeat (first | (with_reducible first | exact HB.out | apply below_alloc | apply pw_below_drewN | apply below_drew1) | exact HB.out)) hb); clear HO113; clear HO116; clear HO120; clear HB; have HO113 := n0_; have HO116 := n1_; have HO120 := n2_; have HO124 := n3_; have HB := n4_; clear n0_ n1_ n2_ n3_ n4_; (try clear hb); (try clear hb2); (try clear hk); (try clear hi); (try clear ho0); obtain ⟨Ao69, co69, eo69⟩ := Kd.R_slice HO116.out; subst eo69; have p125 : 0 ≤ (0 : Int) := (by omega); have q125 : 0 < (t114.length : Int) := of_decide_eq_true (by first | (with_reducible assumption) | assumption); obtain ⟨ad125, e125, hx125_0⟩ := Kd.at_bool (Kd.R_reads' HO116.out).2.2 0 p125 q125; (try rw [← Nbq6.out] at hx125_0); (try rw [← Nbq18.out] at hx125_0); (try rw [← Nbq30.out] at hx125_0); (try rw [← Nbq35.out] at hx125_0); cases e125; have qi125 : (0 < t114.length) = True := eq_true (by omega); (try rw [show ((0 : Int)).toNat = 0 from rfl] at hx125_0); (try rw [Addr.add_zero'] at hx125_0); replace p125 := eq_true p125; replace q125 := eq_true q125; have p126 : 0 ≤ (2 : Int) := (by omega); have q126 : 2 < (t114.length : Int) := of_decide_eq_true (by first | (with_reducible assumption) | assumption); obtain ⟨ad126, e126, hx126_0⟩ := Kd.at_bool (Kd.R_reads' HO116.out).2.2 2 p126 q126; (try rw [← Nbq6.out] at hx126_0); (try rw [← Nbq18.out] at hx126_0); (try rw [← Nbq30.out] at hx126_0); (try rw [← Nbq35.out] at hx126_0); obtain rfl : ad125 = ad126 := (by injection e126); (try simp only [show (2 : Int).toNat = 2 from rfl, Nat.reduceMul, Nat.reduceEqDiff, Go.Addr.add, ↓reduceIte] at hx126_0); have qi126 : (2 < t114.length) = True := eq_true (by omega); (try rw [show ((2 : Int)).toNat = 2 from rfl] at hx126_0); replace p126 := eq_true p126; replace q126 := eq_true q126; have p127 : 0 ≤ (3 : Int) := (by omega); have q127 : 3 < (t114.length : Int) := of_decide_eq_true (by first | (with_reducible assumption) | assumption); obtain ⟨ad127, e127, hx127_0⟩ := Kd.at_bool (Kd.R_reads' HO116.out).2.2 3 p127 q127; (try rw [← Nbq6.out] at hx127_0); (try rw [← Nbq18.out] at hx127_0); (try rw [← Nbq30.out] at hx127_0); (try rw [← Nbq35.out] at hx127_0); obtain rfl : ad125 = ad127 := (by injection e127); (try simp only [show (3 : Int).toNat = 3 from rfl, Nat.reduceMul, Nat.reduceEqDiff, Go.Addr.add, ↓reduceIte] at hx127_0); have qi127 : (3 < t114.length) = True := eq_true (by omega); (try rw [show ((3 : Int)).toNat = 3 from rfl] at hx127_0); replace p127 := eq_true p127; replace q127 := eq_true q127; obtain ⟨Ao70, co70, eo70⟩ := Kd.R_slice HO124.out; subst eo70; have p128 : 0 ≤ (0 : Int) := (by omega); have q128 : 0 < (t121.length : Int) := of_decide_eq_true (by first | (with_reducible assumption) | assumption); obtain ⟨ad128, e128, hx128_0⟩ := Kd.at_bool (Kd.R_reads' HO124.out).2.2 0 p128 q128; (try rw [← Nbq6.out] at hx128_0); (try rw [← Nbq18.out] at hx128_0); (try rw [← Nbq30.out] at hx128_0); (try rw [← Nbq35.out] at hx128_0); cases e128; have qi128 : (0 < t121.length) = True := eq_true (by omega); (try rw [show ((0 : Int)).toNat = 0 from rfl] at hx128_0); (try rw [Addr.add_zero'] at hx128_0); replace p128 := eq_true p128; replace q128 := eq_true q128))
                          go_ret
                          exact ⟨by first | rfl | (simp [errW_none, errW_some] <;> rfl) | (simp [*, errW_none, errW_some] <;> rfl), by repeat (first | (with_reducible first | exact HB.out | apply below_alloc | apply pw_below_drewN | apply below_drew1) | exact HB.out)⟩
                      · rw [if_neg c34] at H
                        exact absurd H (by simp)
                    · rw [if_neg c33] at H
                      have c33b0 : ((t121.length : Int) == 3) = false := beq_eq_false_iff_ne.mpr c33
                      have c33b1 : ((t121.length : Int) != 3) = true := bne_iff_ne.mpr c33
                      obtain rfl := Option.some.inj H
                      go_enter Try.func9, Try.ntmps9
                      go_wp2_with (first | ((with_reducible refine gate_dst (N := 7) rfl ?_); (try (refine gate_guard (by rfl) ?_; dsimp only)); refine Kd.R_lit Kd.bool _ 4 ?hg (N := 7) ?hd (xs := ([false, true, false, false] : List Bool)) (inner := [.bool false, .bool true, .bool false, .bool false]) (ok := fun _ => True) (okp := fun _ => True) ?hr ?hp (fun _ hk => hk) trivial (Below.refl _ _) (Nat.le_refl _) (by simp) ?_; (case hd => rfl); (case hg => rfl); (case hr => first | (go_simp; done) | (go_simp; rfl)); (case hp => exact (Reps.one (show Kd.M Kd.bool _ _ _ false [.bool false] from rfl) (Reps.one (show Kd.M Kd.bool _ _ _ true [.bool true] from rfl) (Reps.one (show Kd.M Kd.bool _ _ _ false [.bool false] from rfl) (Reps.one (show Kd.M Kd.bool _ _ _ false [.bool false] from rfl) (Reps.none _ _)))))); intro v112 w71 ho72 hb hg_ hnew_; clear hg_ hnew_; (first | rw [← Ny111.out] at ho72 | (simp only [Int.reduceToNat] at ho72; rw [← Ny111.out] at ho72)); have n0_ := Aside0.mk (Kd.R_lower ho72 (below_size (by repeat (first | (with_reducible first | exact HB.out | apply below_alloc | apply pw_below_drewN | apply below_drew1) | exact HB.out)))); have n1_ := Aside0.mk (below_step (by repeat (first | (with_reducible first | exact HB.out | apply below_alloc | apply pw_below_drewN | apply below_drew1) | exact HB.out)) hb); clear HB; have HO113 := n0_; have HB := n1_; clear n0_ n1_; clear hb ho72; obtain ⟨Ao73, co73, eo73⟩ := Kd.R_slice HO113.out; subst eo73) | ((with_reducible refine gate_callee (f := 10) rfl ?_); refine goesL_ (some 8) rfl rfl Try.func10 (by kernel_rfl) rfl #[.agg #[.int .i64 2, .int .i64 1], .slice Ao73 y111.length co73] rfl (by (try simp only [List.map_toArray, List.map_cons, List.map_nil]); first | done | rfl | (simp only [List.length_drop, List.length_take]; rfl)) ?_; (with_reducible refine (probe_Verdicts.calls 2 1 _ _ y111 t114 t117 _ ?side1 ?side2 A1.out).mono ?_); (case side1 => repeat (first | exact (Kd.R_reads' HO113.out).2.2 | (with_reducible refine Kd.C_alloc ?_ _) | (with_reducible refine Kd.C_drewN ?_ _) | (with_reducible refine Kd.C_drew ?_))); (case side2 => exact (Kd.R_reads' HO113.out).2.1); rintro e w74 ⟨v115, rfl, ho0, hb⟩; refine ⟨_, rfl, ?_⟩; have n0_ := Aside0.mk (Kd.R_elder' (by (with_reducible repeat (first | apply Kd.R_alloc | apply Kd.R_drewN | apply Kd.R_drew)); exact HO113.out) (Kd.R_base ho0) hb); have n1_ := Aside0.mk (Kd.R_lower (Kd.R_new' ho0 (Kd.R_lt (by (with_reducible repeat (first | apply Kd.R_alloc | apply Kd.R_drewN | apply Kd.R_drew)); exact HO113.out))) (below_size (by repeat (first | (with_reducible first | exact HB.out | apply below_alloc | apply pw_below_drewN | apply below_drew1) | exact HB.out)))); have n2_ := Aside0.mk (below_step (by repeat (first | (with_reducible first | exact HB.out | apply below_alloc | apply pw_below_drewN | apply below_drew1) | exact HB.out)) hb); clear HO113; clear HB; have HO113 := n0_; have HO116 := n1_; have HB := n2_; clear n0_ n1_ n2_; (try clear hb); (try clear hb2); (try clear hk); (try clear hi); (try clear ho0)) | ((with_reducible refine gate_dst (N := 12) rfl ?_); (try (refine gate_guard (by rfl) ?_; dsimp only)); refine Kd.R_lit (Kd.int .i64) _ 3 ?hg (N := 12) ?hd (xs := ([6, 4, 2] : List Int)) (inner := [.int .i64 6, .int .i64 4, .int .i64 2]) (ok := fun _ => True) (okp := fun _ => True) ?hr ?hp (fun _ hk => hk) trivial (Below.refl _ _) (Nat.le_refl _) (by simp) ?_; (case hd => rfl); (case hg => rfl); (case hr => first | (go_simp; done) | (go_simp; rfl)); (case hp => exact (Reps.one (show Kd.M (Kd.int .i64) _ _ _ 6 [.int .i64 6] from rfl) (Reps.one (show Kd.M (Kd.int .i64) _ _ _ 4 [.int .i64 4] from rfl) (Reps.one (show Kd.M (Kd.int .i64) _ _ _ 2 [.int .i64 2] from rfl) (Reps.none _ _))))); intro v119 w75 ho76 hb hg_ hnew_; clear hg_ hnew_; (first | rw [← Ny118.out] at ho76 | (simp only [Int.reduceToNat] at ho76; rw [← Ny118.out] at ho76)); have n0_ := Aside0.mk (Kd.R_below (by (with_reducible repeat (first | apply Kd.R_alloc | apply Kd.R_drewN | apply Kd.R_drew)); exact HO113.out) hb); have n1_ := Aside0.mk (Kd.R_below (by (with_reducible repeat (first | apply Kd.R_alloc | apply Kd.R_drewN | apply Kd.R_drew)); exact HO116.out) hb); have n2_ := Aside0.mk (Kd.R_lower ho76 (below_size (by repeat (first | (with_reducible first | exact HB.out | apply below_alloc | apply pw_below_drewN | apply below_drew1) | exact HB.out)))); have n3_ := Aside0.mk (below_step (by repeat (first | (with_reducible first | exact HB.out | apply below_alloc | apply pw_below_drewN | apply below_drew1) | exact HB.out)) hb); clear HO113; clear HO116; clear HB; have HO113 := n0_; have HO116 := n1_; have HO120 := n2_; have HB := n3_; clear n0_ n1_ n2_ n3_; clear hb ho76; obtain ⟨Ao77, co77, eo77⟩ := Kd.R_slice HO120.out; subst eo77) | ((with_reducible refine gate_callee (f := 15) rfl ?_); refine goesL_ (some 13) rfl rfl Try.func15 (by kernel_rfl) rfl #[.int .i64 5, .int .i64 3, .slice Ao77 y118.length co77] rfl (by (try simp only [List.map_toArray, List.map_cons, List.map_nil]); first | done | rfl | (simp only [List.length_drop, List.length_take]; rfl)) ?_; (with_reducible refine (probe_Hot.calls k 5 3 _ _ y118 t121 t122 _ ?side1 ?side2 A2.out).mono ?_); (case side1 => repeat (first | exact (Kd.R_reads' HO120.out).2.2 | (with_reducible refine Kd.C_alloc ?_ _) | (with_reducible refine Kd.C_drewN ?_ _) | (with_reducible refine Kd.C_drew ?_))); (case side2 => exact (Kd.R_reads' HO120.out).2.1); rintro e w78 ⟨v123, rfl, ho0, hb⟩; refine ⟨_, rfl, ?_⟩; have n0_ := Aside0.mk (Kd.R_elder' (by (with_reducible repeat (first | apply Kd.R_alloc | apply Kd.R_drewN | apply Kd.R_drew)); exact HO113.out) (Kd.R_base ho0) hb); have n1_ := Aside0.mk (Kd.R_elder' (by (with_reducible repeat (first | apply Kd.R_alloc | apply Kd.R_drewN | apply Kd.R_drew)); exact HO116.out) (Kd.R_base ho0) hb); have n2_ := Aside0.mk (Kd.R_below (by (with_reducible repeat (first | apply Kd.R_alloc | apply Kd.R_drewN | apply Kd.R_drew)); exact HO120.out) hb); have n3_ := Aside0.mk (Kd.R_lower (Kd.R_new' (Kd.R_new' ho0 (Kd.R_lt (by (with_reducible repeat (first | apply Kd.R_alloc | apply Kd.R_drewN | apply Kd.R_drew)); exact HO113.out))) (Kd.R_lt (by (with_reducible repeat (first | apply Kd.R_alloc | apply Kd.R_drewN | apply Kd.R_drew)); exact HO116.out))) (below_size (by repeat (first | (with_reducible first | exact HB.out | apply below_alloc | apply pw_below_drewN | apply below_drew1) | exact HB.out)))); have n4_ := Aside0.mk (below_step (by repeat (first | (with_reducible first | exact HB.out | apply below_alloc | apply pw_below_drewN | apply below_drew1) | exact HB.out)) hb); clear HO113; clear HO116; clear HO120; clear HB; have HO113 := n0_; have HO116 := n1_; have HO120 := n2_; have HO124 := n3_; have HB := n4_; clear n0_ n1_ n2_ n3_ n4_; (try clear hb); (try clear hb2); (try clear hk); (try clear hi); (try clear ho0); obtain ⟨Ao79, co79, eo79⟩ := Kd.R_slice HO116.out; subst eo79; have p125 : 0 ≤ (0 : Int) := (by omega); have q125 : 0 < (t114.length : Int) := of_decide_eq_true (by first | (with_reducible assumption) | assumption); obtain ⟨ad125, e125, hx125_0⟩ := Kd.at_bool (Kd.R_reads' HO116.out).2.2 0 p125 q125; (try rw [← Nbq6.out] at hx125_0); (try rw [← Nbq18.out] at hx125_0); (try rw [← Nbq30.out] at hx125_0); cases e125; have qi125 : (0 < t114.length) = True := eq_true (by omega); (try rw [show ((0 : Int)).toNat = 0 from rfl] at hx125_0); (try rw [Addr.add_zero'] at hx125_0); replace p125 := eq_true p125; replace q125 := eq_true q125; have p126 : 0 ≤ (2 : Int) := (by omega); have q126 : 2 < (t114.length : Int) := of_decide_eq_true (by first | (with_reducible assumption) | assumption); obtain ⟨ad126, e126, hx126_0⟩ := Kd.at_bool (Kd.R_reads' HO116.out).2.2 2 p126 q126; (try rw [← Nbq6.out] at hx126_0); (try rw [← Nbq18.out] at hx126_0); (try rw [← Nbq30.out] at hx126_0); obtain rfl : ad125 = ad126 := (by injection e126); (try simp only [show (2 : Int).toNat = 2 from rfl, Nat.reduceMul, Nat.reduceEqDiff, Go.Addr.add, ↓reduceIte] at hx126_0); have qi126 : (2 < t114.length) = True := eq_true (by omega); (try rw [show ((2 : Int)).toNat = 2 from rfl] at hx126_0); replace p126 := eq_true p126; replace q126 := eq_true q126; have p127 : 0 ≤ (3 : Int) := (by omega); have q127 : 3 < (t114.length : Int) := of_decide_eq_true (by first | (with_reducible assumption) | assumption); obtain ⟨ad127, e127, hx127_0⟩ := Kd.at_bool (Kd.R_reads' HO116.out).2.2 3 p127 q127; (try rw [← Nbq6.out] at hx127_0); (try rw [← Nbq18.out] at hx127_0); (try rw [← Nbq30.out] at hx127_0); obtain rfl : ad125 = ad127 := (by injection e127); (try simp only [show (3 : Int).toNat = 3 from rfl, Nat.reduceMul, Nat.reduceEqDiff, Go.Addr.add, ↓reduceIte] at hx127_0); have qi127 : (3 < t114.length) = True := eq_true (by omega); (try rw [show ((3 : Int)).toNat = 3 from rfl] at hx127_0); replace p127 := eq_true p127; replace q127 := eq_true q127; obtain ⟨Ao80, co80, eo80⟩ := Kd.R_slice HO124.out; subst eo80))
                      go_ret
                      exact ⟨by first | rfl | (simp [errW_none, errW_some] <;> rfl) | (simp [*, errW_none, errW_some] <;> rfl), by repeat (first | (with_reducible first | exact HB.out | apply below_alloc | apply pw_below_drewN | apply below_drew1) | exact HB.out)⟩
                  · rw [if_neg c32] at H
                    have c32b0 : (t122 == 0) = false := beq_eq_false_iff_ne.mpr c32
                    have c32b1 : (t122 != 0) = true := bne_iff_ne.mpr c32
                    obtain rfl := Option.some.inj H
                    go_enter Try.func9, Try.ntmps9
                    go_wp2_with (first | ((with_reducible refine gate_dst (N := 7) rfl ?_); (try (refine gate_guard (by rfl) ?_; dsimp only)); refine Kd.R_lit Kd.bool _ 4 ?hg (N := 7) ?hd (xs := ([false, true, false, false] : List Bool)) (inner := [.bool false, .bool true, .bool false, .bool false]) (ok := fun _ => True) (okp := fun _ => True) ?hr ?hp (fun _ hk => hk) trivial (Below.refl _ _) (Nat.le_refl _) (by simp) ?_; (case hd => rfl); (case hg => rfl); (case hr => first | (go_simp; done) | (go_simp; rfl)); (case hp => exact (Reps.one (show Kd.M Kd.bool _ _ _ false [.bool false] from rfl) (Reps.one (show Kd.M Kd.bool _ _ _ true [.bool true] from rfl) (Reps.one (show Kd.M Kd.bool _ _ _ false [.bool false] from rfl) (Reps.one (show Kd.M Kd.bool _ _ _ false [.bool false] from rfl) (Reps.none _ _)))))); intro v112 w81 ho82 hb hg_ hnew_; clear hg_ hnew_; (first | rw [← Ny111.out] at ho82 | (simp only [Int.reduceToNat] at ho82; rw [← Ny111.out] at ho82)); have n0_ := Aside0.mk (Kd.R_lower ho82 (below_size (by repeat (first | (with_reducible first | exact HB.out | apply below_alloc | apply pw_below_drewN | apply below_drew1) | exact HB.out)))); have n1_ := Aside0.mk (below_step (by repeat (first | (with_reducible first | exact HB.out | apply below_alloc | apply pw_below_drewN | apply below_drew1) | exact HB.out)) hb); clear HB; have HO113 := n0_; have HB := n1_; clear n0_ n1_; clear hb ho82; obtain ⟨Ao83, co83, eo83⟩ := Kd.R_slice HO113.out; subst eo83) | ((with_reducible refine gate_callee (f := 10) rfl ?_); refine goesL_ (some 8) rfl rfl Try.func10 (by kernel_rfl) rfl #[.agg #[.int .i64 2, .int .i64 1], .slice Ao83 y111.length co83] rfl (by (try simp only [List.map_toArray, List.map_cons, List.map_nil]); first | done | rfl | (simp only [List.length_drop, List.length_take]; rfl)) ?_; (with_reducible refine (probe_Verdicts.calls 2 1 _ _ y111 t114 t117 _ ?side1 ?side2 A1.out).mono ?_); (case side1 => repeat (first | exact (Kd.R_reads' HO113.out).2.2 | (with_reducible refine Kd.C_alloc ?_ _) | (with_reducible refine Kd.C_drewN ?_ _) | (with_reducible refine Kd.C_drew ?_))); (case side2 => exact (Kd.R_reads' HO113.out).2.1); rintro e w84 ⟨v115, rfl, ho0, hb⟩; refine ⟨_, rfl, ?_⟩; have n0_ := Aside0.mk (Kd.R_elder' (by (with_reducible repeat (first | apply Kd.R_alloc | apply Kd.R_drewN | apply Kd.R_drew)); exact HO113.out) (Kd.R_base ho0) hb); have n1_ := Aside0.mk (Kd.R_lower (Kd.R_new' ho0 (Kd.R_lt (by (with_reducible repeat (first | apply Kd.R_alloc | apply Kd.R_drewN | apply Kd.R_drew)); exact HO113.out))) (below_size (by repeat (first | (with_reducible first | exact HB.out | apply below_alloc | apply pw_below_drewN | apply below_drew1) | exact HB.out)))); have n2_ := Aside0.mk (below_step (by repeat (first | (with_reducible first | exact HB.out | apply below_alloc | apply pw_below_drewN | apply below_drew1) | exact HB.out)) hb); clear HO113; clear HB; have HO113 := n0_; have HO116 := n1_; have HB := n2_; clear n0_ n1_ n2_; (try clear hb); (try clear hb2); (try clear hk); (try clear hi); (try clear ho0)) | ((with_reducible refine gate_dst (N := 12) rfl ?_); (try (refine gate_guard (by rfl) ?_; dsimp only)); refine Kd.R_lit (Kd.int .i64) _ 3 ?hg (N := 12) ?hd (xs := ([6, 4, 2] : List Int)) (inner := [.int .i64 6, .int .i64 4, .int .i64 2]) (ok := fun _ => True) (okp := fun _ => True) ?hr ?hp (fun _ hk => hk) trivial (Below.refl _ _) (Nat.le_refl _) (by simp) ?_; (case hd => rfl); (case hg => rfl); (case hr => first | (go_simp; done) | (go_simp; rfl)); (case hp => exact (Reps.one (show Kd.M (Kd.int .i64) _ _ _ 6 [.int .i64 6] from rfl) (Reps.one (show Kd.M (Kd.int .i64) _ _ _ 4 [.int .i64 4] from rfl) (Reps.one (show Kd.M (Kd.int .i64) _ _ _ 2 [.int .i64 2] from rfl) (Reps.none _ _))))); intro v119 w85 ho86 hb hg_ hnew_; clear hg_ hnew_; (first | rw [← Ny118.out] at ho86 | (simp only [Int.reduceToNat] at ho86; rw [← Ny118.out] at ho86)); have n0_ := Aside0.mk (Kd.R_below (by (with_reducible repeat (first | apply Kd.R_alloc | apply Kd.R_drewN | apply Kd.R_drew)); exact HO113.out) hb); have n1_ := Aside0.mk (Kd.R_below (by (with_reducible repeat (first | apply Kd.R_alloc | apply Kd.R_drewN | apply Kd.R_drew)); exact HO116.out) hb); have n2_ := Aside0.mk (Kd.R_lower ho86 (below_size (by repeat (first | (with_reducible first | exact HB.out | apply below_alloc | apply pw_below_drewN | apply below_drew1) | exact HB.out)))); have n3_ := Aside0.mk (below_step (by repeat (first | (with_reducible first | exact HB.out | apply below_alloc | apply pw_below_drewN | apply below_drew1) | exact HB.out)) hb); clear HO113; clear HO116; clear HB; have HO113 := n0_; have HO116 := n1_; have HO120 := n2_; have HB := n3_; clear n0_ n1_ n2_ n3_; clear hb ho86; obtain ⟨Ao87, co87, eo87⟩ := Kd.R_slice HO120.out; subst eo87) | ((with_reducible refine gate_callee (f := 15) rfl ?_); refine goesL_ (some 13) rfl rfl Try.func15 (by kernel_rfl) rfl #[.int .i64 5, .int .i64 3, .slice Ao87 y118.length co87] rfl (by (try simp only [List.map_toArray, List.map_cons, List.map_nil]); first | done | rfl | (simp only [List.length_drop, List.length_take]; rfl)) ?_; (with_reducible refine (probe_Hot.calls k 5 3 _ _ y118 t121 t122 _ ?side1 ?side2 A2.out).mono ?_); (case side1 => repeat (first | exact (Kd.R_reads' HO120.out).2.2 | (with_reducible refine Kd.C_alloc ?_ _) | (with_reducible refine Kd.C_drewN ?_ _) | (with_reducible refine Kd.C_drew ?_))); (case side2 => exact (Kd.R_reads' HO120.out).2.1); rintro e w88 ⟨v123, rfl, ho0, hb⟩; refine ⟨_, rfl, ?_⟩; have n0_ := Aside0.mk (Kd.R_elder' (by (with_reducible repeat (first | apply Kd.R_alloc | apply Kd.R_drewN | apply Kd.R_drew)); exact HO113.out) (Kd.R_base ho0) hb); have n1_ := Aside0.mk (Kd.R_elder' (by (with_reducible repeat (first | apply Kd.R_alloc | apply Kd.R_drewN | apply Kd.R_drew)); exact HO116.out) (Kd.R_base ho0) hb); have n2_ := Aside0.mk (Kd.R_below (by (with_reducible repeat (first | apply Kd.R_alloc | apply Kd.R_drewN | apply Kd.R_drew)); exact HO120.out) hb); have n3_ := Aside0.mk (Kd.R_lower (Kd.R_new' (Kd.R_new' ho0 (Kd.R_lt (by (with_reducible repeat (first | apply Kd.R_alloc | apply Kd.R_drewN | apply Kd.R_drew)); exact HO113.out))) (Kd.R_lt (by (with_reducible repeat (first | apply Kd.R_alloc | apply Kd.R_drewN | apply Kd.R_drew)); exact HO116.out))) (below_size (by repeat (first | (with_reducible first | exact HB.out | apply below_alloc | apply pw_below_drewN | apply below_drew1) | exact HB.out)))); have n4_ := Aside0.mk (below_step (by repeat (first | (with_reducible first | exact HB.out | apply below_alloc | apply pw_below_drewN | apply below_drew1) | exact HB.out)) hb); clear HO113; clear HO116; clear HO120; clear HB; have HO113 := n0_; have HO116 := n1_; have HO120 := n2_; have HO124 := n3_; have HB := n4_; clear n0_ n1_ n2_ n3_ n4_; (try clear hb); (try clear hb2); (try clear hk); (try clear hi); (try clear ho0); obtain ⟨Ao89, co89, eo89⟩ := Kd.R_slice HO116.out; subst eo89; have p125 : 0 ≤ (0 : Int) := (by omega); have q125 : 0 < (t114.length : Int) := of_decide_eq_true (by first | (with_reducible assumption) | assumption); obtain ⟨ad125, e125, hx125_0⟩ := Kd.at_bool (Kd.R_reads' HO116.out).2.2 0 p125 q125; (try rw [← Nbq6.out] at hx125_0); (try rw [← Nbq18.out] at hx125_0); (try rw [← Nbq30.out] at hx125_0); cases e125; have qi125 : (0 < t114.length) = True := eq_true (by omega); (try rw [show ((0 : Int)).toNat = 0 from rfl] at hx125_0); (try rw [Addr.add_zero'] at hx125_0); replace p125 := eq_true p125; replace q125 := eq_true q125; have p126 : 0 ≤ (2 : Int) := (by omega); have q126 : 2 < (t114.length : Int) := of_decide_eq_true (by first | (with_reducible assumption) | assumption); obtain ⟨ad126, e126, hx126_0⟩ := Kd.at_bool (Kd.R_reads' HO116.out).2.2 2 p126 q126; (try rw [← Nbq6.out] at hx126_0); (try rw [← Nbq18.out] at hx126_0); (try rw [← Nbq30.out] at hx126_0); obtain rfl : ad125 = ad126 := (by injection e126); (try simp only [show (2 : Int).toNat = 2 from rfl, Nat.reduceMul, Nat.reduceEqDiff, Go.Addr.add, ↓reduceIte] at hx126_0); have qi126 : (2 < t114.length) = True := eq_true (by omega); (try rw [show ((2 : Int)).toNat = 2 from rfl] at hx126_0); replace p126 := eq_true p126; replace q126 := eq_true q126; have p127 : 0 ≤ (3 : Int) := (by omega); have q127 : 3 < (t114.length : Int) := of_decide_eq_true (by first | (with_reducible assumption) | assumption); obtain ⟨ad127, e127, hx127_0⟩ := Kd.at_bool (Kd.R_reads' HO116.out).2.2 3 p127 q127; (try rw [← Nbq6.out] at hx127_0); (try rw [← Nbq18.out] at hx127_0); (try rw [← Nbq30.out] at hx127_0); obtain rfl : ad125 = ad127 := (by injection e127); (try simp only [show (3 : Int).toNat = 3 from rfl, Nat.reduceMul, Nat.reduceEqDiff, Go.Addr.add, ↓reduceIte] at hx127_0); have qi127 : (3 < t114.length) = True := eq_true (by omega); (try rw [show ((3 : Int)).toNat = 3 from rfl] at hx127_0); replace p127 := eq_true p127; replace q127 := eq_true q127))
                    go_ret
                    exact ⟨by first | rfl | (simp [errW_none, errW_some] <;> rfl) | (simp [*, errW_none, errW_some] <;> rfl), by repeat (first | (with_reducible first | exact HB.out | apply below_alloc | apply pw_below_drewN | apply below_drew1) | exact HB.out)⟩
                · replace c31 := Bool.eq_false_iff.mpr c31
                  subst c31
                  have H1 : (some false) = some r := by rw [if_neg (show ¬ (false = true) by decide)] at H; exact H
                  clear H
                  have H := H1
                  clear H1
                  obtain rfl := Option.some.inj H
                  go_enter Try.func9, Try.ntmps9
                  go_wp2_with (first | ((with_reducible refine gate_dst (N := 7) rfl ?_); (try (refine gate_guard (by rfl) ?_; dsimp only)); refine Kd.R_lit Kd.bool _ 4 ?hg (N := 7) ?hd (xs := ([false, true, false, false] : List Bool)) (inner := [.bool false, .bool true, .bool false, .bool false]) (ok := fun _ => True) (okp := fun _ => True) ?hr ?hp (fun _ hk => hk) trivial (Below.refl _ _) (Nat.le_refl _) (by simp) ?_; (case hd => rfl); (case hg => rfl); (case hr => first | (go_simp; done) | (go_simp; rfl)); (case hp => exact (Reps.one (show Kd.M Kd.bool _ _ _ false [.bool false] from rfl) (Reps.one (show Kd.M Kd.bool _ _ _ true [.bool true] from rfl) (Reps.one (show Kd.M Kd.bool _ _ _ false [.bool false] from rfl) (Reps.one (show Kd.M Kd.bool _ _ _ false [.bool false] from rfl) (Reps.none _ _)))))); intro v112 w90 ho91 hb hg_ hnew_; clear hg_ hnew_; (first | rw [← Ny111.out] at ho91 | (simp only [Int.reduceToNat] at ho91; rw [← Ny111.out] at ho91)); have n0_ := Aside0.mk (Kd.R_lower ho91 (below_size (by repeat (first | (with_reducible first | exact HB.out | apply below_alloc | apply pw_below_drewN | apply below_drew1) | exact HB.out)))); have n1_ := Aside0.mk (below_step (by repeat (first | (with_reducible first | exact HB.out | apply below_alloc | apply pw_below_drewN | apply below_drew1) | exact HB.out)) hb); clear HB; have HO113 := n0_; have HB := n1_; clear n0_ n1_; clear hb ho91; obtain ⟨Ao92, co92, eo92⟩ := Kd.R_slice HO113.out; subst eo92) | ((with_reducible refine gate_callee (f := 10) rfl ?_); refine goesL_ (some 8) rfl rfl Try.func10 (by kernel_rfl) rfl #[.agg #[.int .i64 2, .int .i64 1], .slice Ao92 y111.length co92] rfl (by (try simp only [List.map_toArray, List.map_cons, List.map_nil]); first | done | rfl | (simp only [List.length_drop, List.length_take]; rfl)) ?_; (with_reducible refine (probe_Verdicts.calls 2 1 _ _ y111 t114 t117 _ ?side1 ?side2 A1.out).mono ?_); (case side1 => repeat (first | exact (Kd.R_reads' HO113.out).2.2 | (with_reducible refine Kd.C_alloc ?_ _) | (with_reducible refine Kd.C_drewN ?_ _) | (with_reducible refine Kd.C_drew ?_))); (case side2 => exact (Kd.R_reads' HO113.out).2.1); rintro e w93 ⟨v115, rfl, ho0, hb⟩; refine ⟨_, rfl, ?_⟩; have n0_ := Aside0.mk (Kd.R_elder' (by (with_reducible repeat (first | apply Kd.R_alloc | apply Kd.R_drewN | apply Kd.R_drew)); exact HO113.out) (Kd.R_base ho0) hb); have n1_ := Aside0.mk (Kd.R_lower (Kd.R_new' ho0 (Kd.R_lt (by (with_reducible repeat (first | apply Kd.R_alloc | apply Kd.R_drewN | apply Kd.R_drew)); exact HO113.out))) (below_size (by repeat (first | (with_reducible first | exact HB.out | apply below_alloc | apply pw_below_drewN | apply below_drew1) | exact HB.out)))); have n2_ := Aside0.mk (below_step (by repeat (first | (with_reducible first | exact HB.out | apply below_alloc | apply pw_below_drewN | apply below_drew1) | exact HB.out)) hb); clear HO113; clear HB; have HO113 := n0_; have HO116 := n1_; have HB := n2_; clear n0_ n1_ n2_; (try clear hb); (try clear hb2); (try clear hk); (try clear hi); (try clear ho0)) | ((with_reducible refine gate_dst (N := 12) rfl ?_); (try (refine gate_guard (by rfl) ?_; dsimp only)); refine Kd.R_lit (Kd.int .i64) _ 3 ?hg (N := 12) ?hd (xs := ([6, 4, 2] : List Int)) (inner := [.int .i64 6, .int .i64 4, .int .i64 2]) (ok := fun _ => True) (okp := fun _ => True) ?hr ?hp (fun _ hk => hk) trivial (Below.refl _ _) (Nat.le_refl _) (by simp) ?_; (case hd => rfl); (case hg => rfl); (case hr => first | (go_simp; done) | (go_simp; rfl)); (case hp => exact (Reps.one (show Kd.M (Kd.int .i64) _ _ _ 6 [.int .i64 6] from rfl) (Reps.one (show Kd.M (Kd.int .i64) _ _ _ 4 [.int .i64 4] from rfl) (Reps.one (show Kd.M (Kd.int .i64) _ _ _ 2 [.int .i64 2] from rfl) (Reps.none _ _))))); intro v119 w94 ho95 hb hg_ hnew_; clear hg_ hnew_; (first | rw [← Ny118.out] at ho95 | (simp only [Int.reduceToNat] at ho95; rw [← Ny118.out] at ho95)); have n0_ := Aside0.mk (Kd.R_below (by (with_reducible repeat (first | apply Kd.R_alloc | apply Kd.R_drewN | apply Kd.R_drew)); exact HO113.out) hb); have n1_ := Aside0.mk (Kd.R_below (by (with_reducible repeat (first | apply Kd.R_alloc | apply Kd.R_drewN | apply Kd.R_drew)); exact HO116.out) hb); have n2_ := Aside0.mk (Kd.R_lower ho95 (below_size (by repeat (first | (with_reducible first | exact HB.out | apply below_alloc | apply pw_below_drewN | apply below_drew1) | exact HB.out)))); have n3_ := Aside0.mk (below_step (by repeat (first | (with_reducible first | exact HB.out | apply below_alloc | apply pw_below_drewN | apply below_drew1) | exact HB.out)) hb); clear HO113; clear HO116; clear HB; have HO113 := n0_; have HO116 := n1_; have HO120 := n2_; have HB := n3_; clear n0_ n1_ n2_ n3_; clear hb ho95; obtain ⟨Ao96, co96, eo96⟩ := Kd.R_slice HO120.out; subst eo96) | ((with_reducible refine gate_callee (f := 15) rfl ?_); refine goesL_ (some 13) rfl rfl Try.func15 (by kernel_rfl) rfl #[.int .i64 5, .int .i64 3, .slice Ao96 y118.length co96] rfl (by (try simp only [List.map_toArray, List.map_cons, List.map_nil]); first | done | rfl | (simp only [List.length_drop, List.length_take]; rfl)) ?_; (with_reducible refine (probe_Hot.calls k 5 3 _ _ y118 t121 t122 _ ?side1 ?side2 A2.out).mono ?_); (case side1 => repeat (first | exact (Kd.R_reads' HO120.out).2.2 | (with_reducible refine Kd.C_alloc ?_ _) | (with_reducible refine Kd.C_drewN ?_ _) | (with_reducible refine Kd.C_drew ?_))); (case side2 => exact (Kd.R_reads' HO120.out).2.1); rintro e w97 ⟨v123, rfl, ho0, hb⟩; refine ⟨_, rfl, ?_⟩; have n0_ := Aside0.mk (Kd.R_elder' (by (with_reducible repeat (first | apply Kd.R_alloc | apply Kd.R_drewN | apply Kd.R_drew)); exact HO113.out) (Kd.R_base ho0) hb); have n1_ := Aside0.mk (Kd.R_elder' (by (with_reducible repeat (first | apply Kd.R_alloc | apply Kd.R_drewN | apply Kd.R_drew)); exact HO116.out) (Kd.R_base ho0) hb); have n2_ := Aside0.mk (Kd.R_below (by (with_reducible repeat (first | apply Kd.R_alloc | apply Kd.R_drewN | apply Kd.R_drew)); exact HO120.out) hb); have n3_ := Aside0.mk (Kd.R_lower (Kd.R_new' (Kd.R_new' ho0 (Kd.R_lt (by (with_reducible repeat (first | apply Kd.R_alloc | apply Kd.R_drewN | apply Kd.R_drew)); exact HO113.out))) (Kd.R_lt (by (with_reducible repeat (first | apply Kd.R_alloc | apply Kd.R_drewN | apply Kd.R_drew)); exact HO116.out))) (below_size (by repeat (first | (with_reducible first | exact HB.out | apply below_alloc | apply pw_below_drewN | apply below_drew1) | exact HB.out)))); have n4_ := Aside0.mk (below_step (by repeat (first | (with_reducible first | exact HB.out | apply below_alloc | apply pw_below_drewN | apply below_drew1) | exact HB.out)) hb); clear HO113; clear HO116; clear HO120; clear HB; have HO113 := n0_; have HO116 := n1_; have HO120 := n2_; have HO124 := n3_; have HB := n4_; clear n0_ n1_ n2_ n3_ n4_; (try clear hb); (try clear hb2); (try clear hk); (try clear hi); (try clear ho0); obtain ⟨Ao98, co98, eo98⟩ := Kd.R_slice HO116.out; subst eo98; have p125 : 0 ≤ (0 : Int) := (by omega); have q125 : 0 < (t114.length : Int) := of_decide_eq_true (by first | (with_reducible assumption) | assumption); obtain ⟨ad125, e125, hx125_0⟩ := Kd.at_bool (Kd.R_reads' HO116.out).2.2 0 p125 q125; (try rw [← Nbq6.out] at hx125_0); (try rw [← Nbq18.out] at hx125_0); (try rw [← Nbq30.out] at hx125_0); cases e125; have qi125 : (0 < t114.length) = True := eq_true (by omega); (try rw [show ((0 : Int)).toNat = 0 from rfl] at hx125_0); (try rw [Addr.add_zero'] at hx125_0); replace p125 := eq_true p125; replace q125 := eq_true q125; have p126 : 0 ≤ (2 : Int) := (by omega); have q126 : 2 < (t114.length : Int) := of_decide_eq_true (by first | (with_reducible assumption) | assumption); obtain ⟨ad126, e126, hx126_0⟩ := Kd.at_bool (Kd.R_reads' HO116.out).2.2 2 p126 q126; (try rw [← Nbq6.out] at hx126_0); (try rw [← Nbq18.out] at hx126_0); (try rw [← Nbq30.out] at hx126_0); obtain rfl : ad125 = ad126 := (by injection e126); (try simp only [show (2 : Int).toNat = 2 from rfl, Nat.reduceMul, Nat.reduceEqDiff, Go.Addr.add, ↓reduceIte] at hx126_0); have qi126 : (2 < t114.length) = True := eq_true (by omega); (try rw [show ((2 : Int)).toNat = 2 from rfl] at hx126_0); replace p126 := eq_true p126; replace q126 := eq_true q126; have p127 : 0 ≤ (3 : Int) := (by omega); have q127 : 3 < (t114.length : Int) := of_decide_eq_true (by first | (with_reducible assumption) | assumption); obtain ⟨ad127, e127, hx127_0⟩ := Kd.at_bool (Kd.R_reads' HO116.out).2.2 3 p127 q127; (try rw [← Nbq6.out] at hx127_0); (try rw [← Nbq18.out] at hx127_0); (try rw [← Nbq30.out] at hx127_0); obtain rfl : ad125 = ad127 := (by injection e127); (try simp only [show (3 : Int).toNat = 3 from rfl, Nat.reduceMul, Nat.reduceEqDiff, Go.Addr.add, ↓reduceIte] at hx127_0); have qi127 : (3 < t114.length) = True := eq_true (by omega); (try rw [show ((3 : Int)).toNat = 3 from rfl] at hx127_0); replace p127 := eq_true p127; replace q127 := eq_true q127))
                  go_ret
                  exact ⟨by first | rfl | (simp [errW_none, errW_some] <;> rfl) | (simp [*, errW_none, errW_some] <;> rfl), by repeat (first | (with_reducible first | exact HB.out | apply below_alloc | apply pw_below_drewN | apply below_drew1) | exact HB.out)⟩
              · rw [if_neg c29] at H
                exact absurd H (by simp)
          · rw [if_neg c17] at H
            exact absurd H (by simp)
      · rw [if_neg c5] at H
        exact absurd H (by simp)
    · rw [if_neg c4] at H
      have c4b0 : ((t114.length : Int) == 4) = false := beq_eq_false_iff_ne.mpr c4
      have c4b1 : ((t114.length : Int) != 4) = true := bne_iff_ne.mpr c4
      obtain rfl := Option.some.inj H
      go_enter Try.func9, Try.ntmps9
      go_wp2_with (first | ((with_reducible refine gate_dst (N := 7) rfl ?_); (try (refine gate_guard (by rfl) ?_; dsimp only)); refine Kd.R_lit Kd.bool _ 4 ?hg (N := 7) ?hd (xs := ([false, true, false, false] : List Bool)) (inner := [.bool false, .bool true, .bool false, .bool false]) (ok := fun _ => True) (okp := fun _ => True) ?hr ?hp (fun _ hk => hk) trivial (Below.refl _ _) (Nat.le_refl _) (by simp) ?_; (case hd => rfl); (case hg => rfl); (case hr => first | (go_simp; done) | (go_simp; rfl)); (case hp => exact (Reps.one (show Kd.M Kd.bool _ _ _ false [.bool false] from rfl) (Reps.one (show Kd.M Kd.bool _ _ _ true [.bool true] from rfl) (Reps.one (show Kd.M Kd.bool _ _ _ false [.bool false] from rfl) (Reps.one (show Kd.M Kd.bool _ _ _ false [.bool false] from rfl) (Reps.none _ _)))))); intro v112 w99 ho100 hb hg_ hnew_; clear hg_ hnew_; (first | rw [← Ny111.out] at ho100 | (simp only [Int.reduceToNat] at ho100; rw [← Ny111.out] at ho100)); have n0_ := Aside0.mk (Kd.R_lower ho100 (below_size (by repeat (first | (with_reducible first | exact HB.out | apply below_alloc | apply pw_below_drewN | apply below_drew1) | exact HB.out)))); have n1_ := Aside0.mk (below_step (by repeat (first | (with_reducible first | exact HB.out | apply below_alloc | apply pw_below_drewN | apply below_drew1) | exact HB.out)) hb); clear HB; have HO113 := n0_; have HB := n1_; clear n0_ n1_; clear hb ho100; obtain ⟨Ao101, co101, eo101⟩ := Kd.R_slice HO113.out; subst eo101) | ((with_reducible refine gate_callee (f := 10) rfl ?_); refine goesL_ (some 8) rfl rfl Try.func10 (by kernel_rfl) rfl #[.agg #[.int .i64 2, .int .i64 1], .slice Ao101 y111.length co101] rfl (by (try simp only [List.map_toArray, List.map_cons, List.map_nil]); first | done | rfl | (simp only [List.length_drop, List.length_take]; rfl)) ?_; (with_reducible refine (probe_Verdicts.calls 2 1 _ _ y111 t114 t117 _ ?side1 ?side2 A1.out).mono ?_); (case side1 => repeat (first | exact (Kd.R_reads' HO113.out).2.2 | (with_reducible refine Kd.C_alloc ?_ _) | (with_reducible refine Kd.C_drewN ?_ _) | (with_reducible refine Kd.C_drew ?_))); (case side2 => exact (Kd.R_reads' HO113.out).2.1); rintro e w102 ⟨v115, rfl, ho0, hb⟩; refine ⟨_, rfl, ?_⟩; have n0_ := Aside0.mk (Kd.R_elder' (by (with_reducible repeat (first | apply Kd.R_alloc | apply Kd.R_drewN | apply Kd.R_drew)); exact HO113.out) (Kd.R_base ho0) hb); have n1_ := Aside0.mk (Kd.R_lower (Kd.R_new' ho0 (Kd.R_lt (by (with_reducible repeat (first | apply Kd.R_alloc | apply Kd.R_drewN | apply Kd.R_drew)); exact HO113.out))) (below_size (by repeat (first | (with_reducible first | exact HB.out | apply below_alloc | apply pw_below_drewN | apply below_drew1) | exact HB.out)))); have n2_ := Aside0.mk (below_step (by repeat (first | (with_reducible first | exact HB.out | apply below_alloc | apply pw_below_drewN | apply below_drew1) | exact HB.out)) hb); clear HO113; clear HB; have HO113 := n0_; have HO116 := n1_; have HB := n2_; clear n0_ n1_ n2_; (try clear hb); (try clear hb2); (try clear hk); (try clear hi); (try clear ho0)) | ((with_reducible refine gate_dst (N := 12) rfl ?_); (try (refine gate_guard (by rfl) ?_; dsimp only)); refine Kd.R_lit (Kd.int .i64) _ 3 ?hg (N := 12) ?hd (xs := ([6, 4, 2] : List Int)) (inner := [.int .i64 6, .int .i64 4, .int .i64 2]) (ok := fun _ => True) (okp := fun _ => True) ?hr ?hp (fun _ hk => hk) trivial (Below.refl _ _) (Nat.le_refl _) (by simp) ?_; (case hd => rfl); (case hg => rfl); (case hr => first | (go_simp; done) | (go_simp; rfl)); (case hp => exact (Reps.one (show Kd.M (Kd.int .i64) _ _ _ 6 [.int .i64 6] from rfl) (Reps.one (show Kd.M (Kd.int .i64) _ _ _ 4 [.int .i64 4] from rfl) (Reps.one (show Kd.M (Kd.int .i64) _ _ _ 2 [.int .i64 2] from rfl) (Reps.none _ _))))); intro v119 w103 ho104 hb hg_ hnew_; clear hg_ hnew_; (first | rw [← Ny118.out] at ho104 | (simp only [Int.reduceToNat] at ho104; rw [← Ny118.out] at ho104)); have n0_ := Aside0.mk (Kd.R_below (by (with_reducible repeat (first | apply Kd.R_alloc | apply Kd.R_drewN | apply Kd.R_drew)); exact HO113.out) hb); have n1_ := Aside0.mk (Kd.R_below (by (with_reducible repeat (first | apply Kd.R_alloc | apply Kd.R_drewN | apply Kd.R_drew)); exact HO116.out) hb); have n2_ := Aside0.mk (Kd.R_lower ho104 (below_size (by repeat (first | (with_reducible first | exact HB.out | apply below_alloc | apply pw_below_drewN | apply below_drew1) | exact HB.out)))); have n3_ := Aside0.mk (below_step (by repeat (first | (with_reducible first | exact HB.out | apply below_alloc | apply pw_below_drewN | apply below_drew1) | exact HB.out)) hb); clear HO113; clear HO116; clear HB; have HO113 := n0_; have HO116 := n1_; have HO120 := n2_; have HB := n3_; clear n0_ n1_ n2_ n3_; clear hb ho104; obtain ⟨Ao105, co105, eo105⟩ := Kd.R_slice HO120.out; subst eo105) | ((with_reducible refine gate_callee (f := 15) rfl ?_); refine goesL_ (some 13) rfl rfl Try.func15 (by kernel_rfl) rfl #[.int .i64 5, .int .i64 3, .slice Ao105 y118.length co105] rfl (by (try simp only [List.map_toArray, List.map_cons, List.map_nil]); first | done | rfl | (simp only [List.length_drop, List.length_take]; rfl)) ?_; (with_reducible refine (probe_Hot.calls k 5 3 _ _ y118 t121 t122 _ ?side1 ?side2 A2.out).mono ?_); (case side1 => repeat (first | exact (Kd.R_reads' HO120.out).2.2 | (with_reducible refine Kd.C_alloc ?_ _) | (with_reducible refine Kd.C_drewN ?_ _) | (with_reducible refine Kd.C_drew ?_))); (case side2 => exact (Kd.R_reads' HO120.out).2.1); rintro e w106 ⟨v123, rfl, ho0, hb⟩; refine ⟨_, rfl, ?_⟩; have n0_ := Aside0.mk (Kd.R_elder' (by (with_reducible repeat (first | apply Kd.R_alloc | apply Kd.R_drewN | apply Kd.R_drew)); exact HO113.out) (Kd.R_base ho0) hb); have n1_ := Aside0.mk (Kd.R_elder' (by (with_reducible repeat (first | apply Kd.R_alloc | apply Kd.R_drewN | apply Kd.R_drew)); exact HO116.out) (Kd.R_base ho0) hb); have n2_ := Aside0.mk (Kd.R_below (by (with_reducible repeat (first | apply Kd.R_alloc | apply Kd.R_drewN | apply Kd.R_drew)); exact HO120.out) hb); have n3_ := Aside0.mk (Kd.R_lower (Kd.R_new' (Kd.R_new' ho0 (Kd.R_lt (by (with_reducible repeat (first | apply Kd.R_alloc | apply Kd.R_drewN | apply Kd.R_drew)); exact HO113.out))) (Kd.R_lt (by (with_reducible repeat (first | apply Kd.R_alloc | apply Kd.R_drewN | apply Kd.R_drew)); exact HO116.out))) (below_size (by repeat (first | (with_reducible first | exact HB.out | apply below_alloc | apply pw_below_drewN | apply below_drew1) | exact HB.out)))); have n4_ := Aside0.mk (below_step (by repeat (first | (with_reducible first | exact HB.out | apply below_alloc | apply pw_below_drewN | apply below_drew1) | exact HB.out)) hb); clear HO113; clear HO116; clear HO120; clear HB; have HO113 := n0_; have HO116 := n1_; have HO120 := n2_; have HO124 := n3_; have HB := n4_; clear n0_ n1_ n2_ n3_ n4_; (try clear hb); (try clear hb2); (try clear hk); (try clear hi); (try clear ho0); obtain ⟨Ao107, co107, eo107⟩ := Kd.R_slice HO116.out; subst eo107))
      go_ret
      exact ⟨by first | rfl | (simp [errW_none, errW_some] <;> rfl) | (simp [*, errW_none, errW_some] <;> rfl), by repeat (first | (with_reducible first | exact HB.out | apply below_alloc | apply pw_below_drewN | apply below_drew1) | exact HB.out)⟩
  · rw [if_neg c3] at H
    have c3b0 : (t117 == 0) = false := beq_eq_false_iff_ne.mpr c3
    have c3b1 : (t117 != 0) = true := bne_iff_ne.mpr c3
    obtain rfl := Option.some.inj H
    go_enter Try.func9, Try.ntmps9
    go_wp2_with (first | ((with_reducible refine gate_dst (N := 7) rfl ?_); (try (refine gate_guard (by rfl) ?_; dsimp only)); refine Kd.R_lit Kd.bool _ 4 ?hg (N := 7) ?hd (xs := ([false, true, false, false] : List Bool)) (inner := [.bool false, .bool true, .bool false, .bool false]) (ok := fun _ => True) (okp := fun _ => True) ?hr ?hp (fun _ hk => hk) trivial (Below.refl _ _) (Nat.le_refl _) (by simp) ?_; (case hd => rfl); (case hg => rfl); (case hr => first | (go_simp; done) | (go_simp; rfl)); (case hp => exact (Reps.one (show Kd.M Kd.bool _ _ _ false [.bool false] from rfl) (Reps.one (show Kd.M Kd.bool _ _ _ true [.bool true] from rfl) (Reps.one (show Kd.M Kd.bool _ _ _ false [.bool false] from rfl) (Reps.one (show Kd.M Kd.bool _ _ _ false [.bool false] from rfl) (Reps.none _ _)))))); intro v112 w108 ho109 hb hg_ hnew_; clear hg_ hnew_; (first | rw [← Ny111.out] at ho109 | (simp only [Int.reduceToNat] at ho109; rw [← Ny111.out] at ho109)); have n0_ := Aside0.mk (Kd.R_lower ho109 (below_size (by repeat (first | (with_reducible first | exact HB.out | apply below_alloc | apply pw_below_drewN | apply below_drew1) | exact HB.out)))); have n1_ := Aside0.mk (below_step (by repeat (first | (with_reducible first | exact HB.out | apply below_alloc | apply pw_below_drewN | apply below_drew1) | exact HB.out)) hb); clear HB; have HO113 := n0_; have HB := n1_; clear n0_ n1_; clear hb ho109; obtain ⟨Ao110, co110, eo110⟩ := Kd.R_slice HO113.out; subst eo110) | ((with_reducible refine gate_callee (f := 10) rfl ?_); refine goesL_ (some 8) rfl rfl Try.func10 (by kernel_rfl) rfl #[.agg #[.int .i64 2, .int .i64 1], .slice Ao110 y111.length co110] rfl (by (try simp only [List.map_toArray, List.map_cons, List.map_nil]); first | done | rfl | (simp only [List.length_drop, List.length_take]; rfl)) ?_; (with_reducible refine (probe_Verdicts.calls 2 1 _ _ y111 t114 t117 _ ?side1 ?side2 A1.out).mono ?_); (case side1 => repeat (first | exact (Kd.R_reads' HO113.out).2.2 | (with_reducible refine Kd.C_alloc ?_ _) | (with_reducible refine Kd.C_drewN ?_ _) | (with_reducible refine Kd.C_drew ?_))); (case side2 => exact (Kd.R_reads' HO113.out).2.1); rintro e w111 ⟨v115, rfl, ho0, hb⟩; refine ⟨_, rfl, ?_⟩; have n0_ := Aside0.mk (Kd.R_elder' (by (with_reducible repeat (first | apply Kd.R_alloc | apply Kd.R_drewN | apply Kd.R_drew)); exact HO113.out) (Kd.R_base ho0) hb); have n1_ := Aside0.mk (Kd.R_lower (Kd.R_new' ho0 (Kd.R_lt (by (with_reducible repeat (first | apply Kd.R_alloc | apply Kd.R_drewN | apply Kd.R_drew)); exact HO113.out))) (below_size (by repeat (first | (with_reducible first | exact HB.out | apply below_alloc | apply pw_below_drewN | apply below_drew1) | exact HB.out)))); have n2_ := Aside0.mk (below_step (by repeat (first | (with_reducible first | exact HB.out | apply below_alloc | apply pw_below_drewN | apply below_drew1) | exact HB.out)) hb); clear HO113; clear HB; have HO113 := n0_; have HO116 := n1_; have HB := n2_; clear n0_ n1_ n2_; (try clear hb); (try clear hb2); (try clear hk); (try clear hi); (try clear ho0)) | ((with_reducible refine gate_dst (N := 12) rfl ?_); (try (refine gate_guard (by rfl) ?_; dsimp only)); refine Kd.R_lit (Kd.int .i64) _ 3 ?hg (N := 12) ?hd (xs := ([6, 4, 2] : List Int)) (inner := [.int .i64 6, .int .i64 4, .int .i64 2]) (ok := fun _ => True) (okp := fun _ => True) ?hr ?hp (fun _ hk => hk) trivial (Below.refl _ _) (Nat.le_refl _) (by simp) ?_; (case hd => rfl); (case hg => rfl); (case hr => first | (go_simp; done) | (go_simp; rfl)); (case hp => exact (Reps.one (show Kd.M (Kd.int .i64) _ _ _ 6 [.int .i64 6] from rfl) (Reps.one (show Kd.M (Kd.int .i64) _ _ _ 4 [.int .i64 4] from rfl) (Reps.one (show Kd.M (Kd.int .i64) _ _ _ 2 [.int .i64 2] from rfl) (Reps.none _ _))))); intro v119 w112 ho113 hb hg_ hnew_; clear hg_ hnew_; (first | rw [← Ny118.out] at ho113 | (simp only [Int.reduceToNat] at ho113; rw [← Ny118.out] at ho113)); have n0_ := Aside0.mk (Kd.R_below (by (with_reducible repeat (first | apply Kd.R_alloc | apply Kd.R_drewN | apply Kd.R_drew)); exact HO113.out) hb); have n1_ := Aside0.mk (Kd.R_below (by (with_reducible repeat (first | apply Kd.R_alloc | apply Kd.R_drewN | apply Kd.R_drew)); exact HO116.out) hb); have n2_ := Aside0.mk (Kd.R_lower ho113 (below_size (by repeat (first | (with_reducible first | exact HB.out | apply below_alloc | apply pw_below_drewN | apply below_drew1) | exact HB.out)))); have n3_ := Aside0.mk (below_step (by repeat (first | (with_reducible first | exact HB.out | apply below_alloc | apply pw_below_drewN | apply below_drew1) | exact HB.out)) hb); clear HO113; clear HO116; clear HB; have HO113 := n0_; have HO116 := n1_; have HO120 := n2_; have HB := n3_; clear n0_ n1_ n2_ n3_; clear hb ho113; obtain ⟨Ao114, co114, eo114⟩ := Kd.R_slice HO120.out; subst eo114) | ((with_reducible refine gate_callee (f := 15) rfl ?_); refine goesL_ (some 13) rfl rfl Try.func15 (by kernel_rfl) rfl #[.int .i64 5, .int .i64 3, .slice Ao114 y118.length co114] rfl (by (try simp only [List.map_toArray, List.map_cons, List.map_nil]); first | done | rfl | (simp only [List.length_drop, List.length_take]; rfl)) ?_; (with_reducible refine (probe_Hot.calls k 5 3 _ _ y118 t121 t122 _ ?side1 ?side2 A2.out).mono ?_); (case side1 => repeat (first | exact (Kd.R_reads' HO120.out).2.2 | (with_reducible refine Kd.C_alloc ?_ _) | (with_reducible refine Kd.C_drewN ?_ _) | (with_reducible refine Kd.C_drew ?_))); (case side2 => exact (Kd.R_reads' HO120.out).2.1); rintro e w115 ⟨v123, rfl, ho0, hb⟩; refine ⟨_, rfl, ?_⟩; have n0_ := Aside0.mk (Kd.R_elder' (by (with_reducible repeat (first | apply Kd.R_alloc | apply Kd.R_drewN | apply Kd.R_drew)); exact HO113.out) (Kd.R_base ho0) hb); have n1_ := Aside0.mk (Kd.R_elder' (by (with_reducible repeat (first | apply Kd.R_alloc | apply Kd.R_drewN | apply Kd.R_drew)); exact HO116.out) (Kd.R_base ho0) hb); have n2_ := Aside0.mk (Kd.R_below (by (with_reducible repeat (first | apply Kd.R_alloc | apply Kd.R_drewN | apply Kd.R_drew)); exact HO120.out) hb); have n3_ := Aside0.mk (Kd.R_lower (Kd.R_new' (Kd.R_new' ho0 (Kd.R_lt (by (with_reducible repeat (first | apply Kd.R_alloc | apply Kd.R_drewN | apply Kd.R_drew)); exact HO113.out))) (Kd.R_lt (by (with_reducible repeat (first | apply Kd.R_alloc | apply Kd.R_drewN | apply Kd.R_drew)); exact HO116.out))) (below_size (by repeat (first | (with_reducible first | exact HB.out | apply below_alloc | apply pw_below_drewN | apply below_drew1) | exact HB.out)))); have n4_ := Aside0.mk (below_step (by repeat (first | (with_reducible first | exact HB.out | apply below_alloc | apply pw_below_drewN | apply below_drew1) | exact HB.out)) hb); clear HO113; clear HO116; clear HO120; clear HB; have HO113 := n0_; have HO116 := n1_; have HO120 := n2_; have HO124 := n3_; have HB := n4_; clear n0_ n1_ n2_ n3_ n4_; (try clear hb); (try clear hb2); (try clear hk); (try clear hi); (try clear ho0)))
    go_ret
    exact ⟨by first | rfl | (simp [errW_none, errW_some] <;> rfl) | (simp [*, errW_none, errW_some] <;> rfl), by repeat (first | (with_reducible first | exact HB.out | apply below_alloc | apply pw_below_drewN | apply below_drew1) | exact HB.out)⟩

/-! ### cellplanemake_Mod: function 14 -/
def cellplanemake_Mod.f (a0 : Int) (a1 : Int) : Option (Int) := if a1 = 0 then (none) else (some (Int.tmod (wrap64 ((Int.tmod a0 a1) + a1)) a1))
set_option maxHeartbeats 8000000 in
set_option maxRecDepth 100000 in
theorem cellplanemake_Mod.calls (a0 : Int) (a1 : Int) (r : Int) (w : World) (h : cellplanemake_Mod.f a0 a1 = some r) :
    Calls Try.prog 14 #[.int .i64 a0, .int .i64 a1] w fun e w' => e = .returned (.int .i64 r) ∧ Drawn0 w w' := by
  have H : (if a1 = 0 then (none) else (some (Int.tmod (wrap64 ((Int.tmod a0 a1) + a1)) a1))) = some r := h
  clear h
  by_cases c3 : a1 = 0
  · rw [if_pos c3] at H
    exact absurd H (by simp)
  · rw [if_neg c3] at H
    have c3b0 : (a1 == 0) = false := beq_eq_false_iff_ne.mpr c3
    have c3b1 : (a1 != 0) = true := bne_iff_ne.mpr c3
    obtain rfl := Option.some.inj H
    go_enter Try.func14, Try.ntmps14
    go_wp2
    go_ret
    exact ⟨by first | rfl | (simp; done) | (simp [*]; done), by repeat (first | exact Drawn0.refl _ | apply Drawn0.step)⟩

/-! ### cellplanemake_Between: function 23 -/
def cellplanemake_Between.f (a0 : Int) (a1 : Int) (a2 : Int) : Option (Int) := (cellplanemake_Mod.f a0 (wrap64 ((wrap64 (a2 - a1)) + 1))).bind fun t131 => (some (wrap64 (a1 + t131)))
set_option maxHeartbeats 8000000 in
set_option maxRecDepth 100000 in
theorem cellplanemake_Between.calls (a0 : Int) (a1 : Int) (a2 : Int) (r : Int) (w : World) (h : cellplanemake_Between.f a0 a1 a2 = some r) :
    Calls Try.prog 23 #[.int .i64 a0, .int .i64 a1, .int .i64 a2] w fun e w' => e = .returned (.int .i64 r) ∧ Drawn0 w w' := by
  have H : ((cellplanemake_Mod.f a0 (wrap64 ((wrap64 (a2 - a1)) + 1))).bind fun t131 => (some (wrap64 (a1 + t131)))) = some r := h
  clear h
  replace H := Option.bind_eq_some_iff.mp H
  obtain ⟨t131, A40, H⟩ := H
  replace H : (some (wrap64 (a1 + t131))) = some r := H
  have A4 := Aside0.mk A40
  clear A40
  obtain rfl := Option.some.inj H
  go_enter Try.func23, Try.ntmps23
  go_wp2_with (first | ((with_reducible refine gate_callee (f := 14) rfl ?_); refine goesL_ (some 13) rfl rfl Try.func14 (by kernel_rfl) rfl #[.int .i64 a0, .int .i64 (wrap64 ((wrap64 (a2 - a1)) + 1))] rfl (by (try simp only [List.map_toArray, List.map_cons, List.map_nil]); first | done | rfl | (simp only [List.length_drop, List.length_take]; rfl)) ?_; (with_reducible refine (cellplanemake_Mod.calls a0 (wrap64 ((wrap64 (a2 - a1)) + 1)) t131 _ A4.out).mono ?_); rintro e w' ⟨rfl, ⟨nd, rfl⟩⟩; refine ⟨_, rfl, ?_⟩))
  go_ret
  exact ⟨by first | rfl | (simp; done) | (simp [*]; done), by repeat (first | exact Drawn0.refl _ | apply Drawn0.step)⟩

end Go.Proofs.Ytfoaaglcanogpaa.QProbePlays
