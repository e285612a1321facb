/- The law's own function returns true, for any hysteresis and any list of results. No condition. -/
import Derived.Test.YtfoaaglcanogpaaPlaysB
import Derived.Test.YtfoaaglcanogpaaPlaysC
namespace Go.Proofs.Ytfoaaglcanogpaa.QProbePlays
open Go.RowKit Go.Proofs.YtfoaaglcanogpaaW.PrintWords Go.Proofs.YtfoaaglcanogpaaW.PrintLast Go.Proofs.YtfoaaglcanogpaaW.PrintMore
attribute [local go_sem] max2_int min2_int max_two min_two max_three min_three max_four min_four
set_option linter.unusedVariables false
set_option linter.unusedSimpArgs false
theorem bs {α β : Type} (a : α) (f : α → Option β) : (some a).bind f = f a := rfl
theorem mod4 (x : Int) : ∃ y, cellplanemake_Mod.f x 4 = some y ∧ 0 ≤ y ∧ y ≤ 3 := by
  refine ⟨Int.tmod (wrap64 ((Int.tmod x 4) + 4)) 4, by unfold cellplanemake_Mod.f; rw [if_neg (by decide)], ?_, ?_⟩
  all_goals
    have h : wrap64 ((Int.tmod x 4) + 4) = (Int.tmod x 4) + 4 := by
      have h1 := Int.tmod_lt_of_pos x (show (0 : Int) < 4 by decide)
      have h2 := Int.lt_tmod_of_pos x (show (0 : Int) < 4 by decide)
      generalize Int.tmod x 4 = z at h1 h2 ⊢
      unfold wrap64
      omega
    rw [h]
    have h1 := Int.tmod_lt_of_pos x (show (0 : Int) < 4 by decide)
    have h2 := Int.lt_tmod_of_pos x (show (0 : Int) < 4 by decide)
    rw [Int.tmod_eq_emod_of_nonneg (by omega)]
    omega
theorem between14 (x : Int) : ∃ y, cellplanemake_Between.f x 1 4 = some y ∧ 1 ≤ y ∧ y ≤ 4 := by
  obtain ⟨y, h, h0, h1⟩ := mod4 x
  refine ⟨wrap64 (1 + y), ?_, ?_, ?_⟩
  · unfold cellplanemake_Between.f
    rw [show wrap64 (wrap64 (4 - 1) + 1) = 4 by decide +kernel, h]; rfl
  · unfold wrap64; omega
  · unfold wrap64; omega
theorem near_some (a b : Int) : ∃ f r, cellplanelaw22_near.f a b = some (f, r) ∧ 1 ≤ f ∧ f ≤ 4 ∧ 1 ≤ r ∧ r ≤ 4 := by
  obtain ⟨f, hf, f1, f2⟩ := between14 a
  obtain ⟨r, hr, r1, r2⟩ := between14 b
  refine ⟨f, r, ?_, f1, f2, r1, r2⟩
  unfold cellplanelaw22_near.f
  rw [hf]
  show (cellplanemake_Between.f b 1 4).bind _ = _
  rw [hr]; rfl
theorem cellplanelaw22_ProbePlays.all (a b : Int) (A1 : Option Addr) (c1 : Nat) (l1 : List Bool) (sm : Bool) (w : World) (hr1 : Kd.C Kd.bool w A1 l1.length l1) (hc1 : l1.length ≤ c1) : Calls Try.prog 8 #[.agg #[.int .i64 a, .int .i64 b], .slice A1 l1.length c1, .bool sm] w fun e w' => e = .returned (.bool true) ∧ Below w.heap.size w w' := by
  by_cases hl : (l1.length : Int) > 500
  · exact plays_long a b 0 0 A1 c1 l1 w hr1 hc1 sm hl
  · cases sm with
    | true =>
      obtain ⟨f, r, hn, h1, h2, h3, h4⟩ := near_some a b
      exact plays_good_small a b f r A1 c1 l1 w hr1 hc1 hl ⟨by omega, by omega, by omega, by omega⟩ hn
    | false =>
      by_cases h : limOk a b
      · exact plays_good a b a b A1 c1 l1 w hr1 hc1 hl h
      · exact plays_poor a b a b A1 c1 l1 w hr1 hc1 hl h
end Go.Proofs.Ytfoaaglcanogpaa.QProbePlays
