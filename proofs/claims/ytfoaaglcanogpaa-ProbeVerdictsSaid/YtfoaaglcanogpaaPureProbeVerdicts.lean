/- The verdicts of a list of results are the reference's. No condition. -/
import Derived.Test.YtfoaaglcanogpaaQProbeVerdictsx1
import Derived.Test.YtfoaaglcanogpaaQProbeVerdictsx2
namespace Go.Proofs.Ytfoaaglcanogpaa.Pure
open Go.RowKit Go.Proofs.Ytfoaaglcanogpaa.QProbeVerdicts Go.Proofs.YtfoaaglcanogpaaW.PrintWords Go.Proofs.YtfoaaglcanogpaaW.PrintLast Go.Proofs.YtfoaaglcanogpaaW.PrintMore
set_option linter.unusedVariables false
set_option linter.unusedSimpArgs false
theorem awake_10 : cellplanelaw22_awake.f 10 = some true := by decide +kernel
theorem awake_ge (k : Nat) (h : 10 ≤ k) : cellplanelaw22_awake.f k = some true := by
  obtain ⟨d, rfl⟩ : ∃ d, k = 10 + d := ⟨k - 10, by omega⟩
  clear h
  induction d with
  | zero => exact awake_10
  | succ d ih => exact cellplanelaw22_awake.mono (10 + d) _ ih
theorem w64 (i : Nat) (h : i < 1000) : wrap64 ((i : Int) + 1) = ((i + 1 : Nat) : Int) := by unfold wrap64; omega
theorem rdOf_get (l : List Bool) (i : Nat) (h : i < l.length) : rdOf false l (i : Int) = l[i] := by simp [rdOf, h]
theorem rd_get (l : List Int) (i : Nat) (h : i < l.length) : rd l (i : Int) = l[i] := by simp [rd, h]
theorem same_l0 (a : List Bool) (ha : a.length ≤ 500) : ∀ n i k, i + n = a.length → n < k → cellplaneref22_Same.l0 k a a (i : Int) = some true := by
  intro n
  induction n with
  | zero =>
    intro i k hi hk
    obtain ⟨k, rfl⟩ : ∃ j, k = j + 1 := ⟨k - 1, by omega⟩
    unfold cellplaneref22_Same.l0
    rw [if_neg (show ¬ ((i : Int) < (a.length : Int)) by omega)]
  | succ n ih =>
    intro i k hi hk
    obtain ⟨k, rfl⟩ : ∃ j, k = j + 1 := ⟨k - 1, by omega⟩
    unfold cellplaneref22_Same.l0
    rw [if_pos (show (i : Int) < (a.length : Int) by omega), if_pos (show (0 : Int) ≤ (i : Int) by omega), if_pos (show (i : Int) < (a.length : Int) by omega), if_neg (show ¬ ((rdOf false a (i : Int) != rdOf false a (i : Int)) = true) by simp), w64 i (by omega)]
    exact ih (i + 1) k (by omega) (by omega)
theorem same_self (a : List Bool) (ha : a.length ≤ 500) (k : Nat) (hk : 501 < k) : cellplaneref22_Same.f k a a = some true := by
  unfold cellplaneref22_Same.f
  rw [if_pos rfl]
  exact same_l0 a ha a.length 0 k (by omega) (by omega)
def hstep (hi lo : Int) (hot : Bool) (n : Int) : Bool := decide (hi < n) || (hot && decide (lo ≤ n))
def hspec (hi lo : Int) : Bool → List Int → List Bool
  | _, [] => []
  | hot, n :: l => hstep hi lo hot n :: hspec hi lo (hstep hi lo hot n) l
theorem hspec_length (hi lo : Int) : ∀ l hot, (hspec hi lo hot l).length = l.length
  | [], _ => rfl
  | _ :: l, _ => by simp [hspec, hspec_length hi lo l]
theorem hspec_drop (hi lo : Int) (hot : Bool) (l : List Int) (i : Nat) (h : i < l.length) :
    hspec hi lo hot (l.drop i) = hstep hi lo hot (rd l (i : Int)) :: hspec hi lo (hstep hi lo hot (rd l (i : Int))) (l.drop (i + 1)) := by
  rw [List.drop_eq_getElem_cons h, rd_get l i h]; rfl
theorem hot_l0 (hi lo : Int) (l : List Int) (hl : l.length ≤ 500) : ∀ n i hot out k, i + n = l.length → out.length = i → n < k →
    probe_Hot.l0 k hi lo hot out l (l.length : Int) (i : Int) = some (out ++ hspec hi lo hot (l.drop i), 0) := by
  intro n
  induction n with
  | zero =>
    intro i hot out k hi' ho hk
    obtain ⟨k, rfl⟩ : ∃ j, k = j + 1 := ⟨k - 1, by omega⟩
    unfold probe_Hot.l0
    rw [if_neg (show ¬ ((i : Int) < (l.length : Int)) by omega), List.drop_eq_nil_of_le (by omega)]
    simp [hspec]
  | succ n ih =>
    intro i hot out k hi' ho hk
    obtain ⟨k, rfl⟩ : ∃ j, k = j + 1 := ⟨k - 1, by omega⟩
    have hlt : i < l.length := by omega
    unfold probe_Hot.l0
    have hL : out.length < 140737488355328 := by omega
    have go : ∀ b, b = hstep hi lo hot (rd l (i : Int)) → probe_Hot.l0 k hi lo b (out ++ [b]) l (l.length : Int) (wrap64 ((i : Int) + 1)) = some (out ++ hspec hi lo hot (l.drop i), 0) := by
      rintro b rfl
      rw [w64 i (by omega), ih (i + 1) _ _ k (by omega) (by simp; omega) (by omega), hspec_drop hi lo hot l i hlt]
      simp
    rw [if_pos (show (i : Int) < (l.length : Int) by omega), if_pos (show (0 : Int) ≤ (i : Int) by omega), if_pos (show (i : Int) < (l.length : Int) by omega)]
    by_cases c1 : rd l (i : Int) > hi
    · rw [if_pos c1, if_pos hL]; exact go true (by simp [hstep]; omega)
    · rw [if_neg c1]
      by_cases c2 : rd l (i : Int) < lo
      · rw [if_pos c2, if_pos hL]; exact go false (by simp [hstep]; omega)
      · rw [if_neg c2, if_pos hL]; exact go hot (by cases hot <;> simp [hstep] <;> omega)
theorem hot_f (hi lo : Int) (l : List Int) (hl : l.length ≤ 500) (k : Nat) (hk : 501 < k) :
    probe_Hot.f k hi lo l = some (if lo > hi then ([], 1) else (hspec hi lo false l, 0)) := by
  unfold probe_Hot.f
  by_cases c : lo > hi
  · rw [if_pos c, if_pos c]
  · rw [if_neg c, if_neg c]
    have h := hot_l0 hi lo l hl l.length 0 false [] k (by omega) rfl (by omega)
    simpa using h
theorem mod4 (x : Int) : ∃ y, cellplanemake_Mod.f x 4 = some y ∧ 0 ≤ y ∧ y ≤ 3 := by
  refine ⟨Int.tmod (wrap64 ((Int.tmod x 4) + 4)) 4, by unfold cellplanemake_Mod.f; rw [if_neg (by decide)], ?_, ?_⟩
  all_goals
    have h : wrap64 ((Int.tmod x 4) + 4) = (Int.tmod x 4) + 4 := by
      have h1 := Int.tmod_lt_of_pos x (show (0 : Int) < 4 by decide)
      have h2 := Int.lt_tmod_of_pos x (show (0 : Int) < 4 by decide)
      generalize Int.tmod x 4 = z at h1 h2 ⊢
      unfold wrap64
      omega
    rw [h]
    have h1 := Int.tmod_lt_of_pos x (show (0 : Int) < 4 by decide)
    have h2 := Int.lt_tmod_of_pos x (show (0 : Int) < 4 by decide)
    rw [Int.tmod_eq_emod_of_nonneg (by omega)]
    omega
theorem between14 (x : Int) : ∃ y, cellplanemake_Between.f x 1 4 = some y ∧ 1 ≤ y ∧ y ≤ 4 := by
  obtain ⟨y, h, h0, h1⟩ := mod4 x
  refine ⟨wrap64 (1 + y), ?_, ?_, ?_⟩
  · unfold cellplanemake_Between.f
    rw [show wrap64 (wrap64 (4 - 1) + 1) = 4 by decide +kernel, h]; rfl
  · unfold wrap64; omega
  · unfold wrap64; omega
theorem near_some (a b : Int) : ∃ f r, cellplanelaw22_near.f a b = some (f, r) ∧ 1 ≤ f ∧ f ≤ 4 ∧ 1 ≤ r ∧ r ≤ 4 := by
  obtain ⟨f, hf, f1, f2⟩ := between14 a
  obtain ⟨r, hr, r1, r2⟩ := between14 b
  refine ⟨f, r, ?_, f1, f2, r1, r2⟩
  unfold cellplanelaw22_near.f
  rw [hf]
  show (cellplanemake_Between.f b 1 4).bind _ = _
  rw [hr]; rfl
theorem bs {α β : Type} (a : α) (f : α → Option β) : (some a).bind f = f a := rfl
theorem verdicts_some (f r : Int) (l : List Bool) (hl : l.length ≤ 500) : ∃ x e, probe_Verdicts.f f r l = some (x, e) ∧ cellplaneref22_Verdicts.f f r l = some (x, e) ∧ x.length ≤ 500 := by
  unfold probe_Verdicts.f cellplaneref22_Verdicts.f
  by_cases c : 1 ≤ f ∧ f ≤ 100 ∧ 1 ≤ r ∧ r ≤ 100
  · simp only [if_pos (show l.length < 140737488355328 by omega), if_pos c]
    exact ⟨_, _, rfl, rfl, by rw [vlist_length]; omega⟩
  · simp only [if_pos (show l.length < 140737488355328 by omega), if_neg c]
    exact ⟨_, _, rfl, rfl, by simp⟩
theorem round (k : Nat) (i : Int) (hi : i < 2) (hk : 501 < k) (l : List Bool) (hl : l.length ≤ 500) (a b : Int) :
    ∃ f r, cellplanelaw22_ProbeVerdicts.l0 (k + 1) l i a b = cellplanelaw22_ProbeVerdicts.l0 k l (wrap64 (i + 1)) f r := by
  obtain ⟨x, e, h1, h2, hx⟩ := verdicts_some a b l hl
  obtain ⟨f, r, hn, _⟩ := near_some a b
  refine ⟨f, r, ?_⟩
  rw [cellplanelaw22_ProbeVerdicts.l0, if_pos hi, h1, bs, h2, bs, same_self x hx k hk, bs, if_pos rfl, if_pos rfl, hn, bs]
/-- The verdicts of a list of results are the reference's. No condition. -/
theorem ProbeVerdicts (a0 a1 : Int) (l1 : List Bool) : ∃ k, cellplanelaw22_ProbeVerdicts.f k a0 a1 l1 = some true := by
  refine ⟨2000, ?_⟩
  unfold cellplanelaw22_ProbeVerdicts.f
  by_cases c : (l1.length : Int) > 500
  · rw [if_pos c, awake_ge 2000 (by omega), bs]
  · rw [if_neg c]
    obtain ⟨f, r, h⟩ := round 1999 0 (by omega) (by omega) l1 (by omega) a0 a1
    rw [h, show wrap64 (0 + 1) = 1 by decide +kernel]
    obtain ⟨f, r, h⟩ := round 1998 1 (by omega) (by omega) l1 (by omega) f r
    rw [h, show wrap64 (1 + 1) = 2 by decide +kernel, cellplanelaw22_ProbeVerdicts.l0, if_neg (by decide), awake_ge 1997 (by omega), bs]

end Go.Proofs.Ytfoaaglcanogpaa.Pure
