/- Without hysteresis the verdict is the last result. No condition. -/
import Derived.Test.YtfoaaglcanogpaaQProbeLastx1
import Derived.Test.YtfoaaglcanogpaaQProbeLastx2
namespace Go.Proofs.Ytfoaaglcanogpaa.Pure
open Go.RowKit Go.Proofs.Ytfoaaglcanogpaa.QProbeLast Go.Proofs.YtfoaaglcanogpaaW.PrintWords Go.Proofs.YtfoaaglcanogpaaW.PrintLast Go.Proofs.YtfoaaglcanogpaaW.PrintMore
set_option linter.unusedVariables false
set_option linter.unusedSimpArgs false
theorem awake_10 : cellplanelaw22_awake.f 10 = some true := by decide +kernel
theorem awake_ge (k : Nat) (h : 10 ≤ k) : cellplanelaw22_awake.f k = some true := by
  obtain ⟨d, rfl⟩ : ∃ d, k = 10 + d := ⟨k - 10, by omega⟩
  clear h
  induction d with
  | zero => exact awake_10
  | succ d ih => exact cellplanelaw22_awake.mono (10 + d) _ ih
theorem w64 (i : Nat) (h : i < 1000) : wrap64 ((i : Int) + 1) = ((i + 1 : Nat) : Int) := by unfold wrap64; omega
theorem rdOf_get (l : List Bool) (i : Nat) (h : i < l.length) : rdOf false l (i : Int) = l[i] := by simp [rdOf, h]
theorem rd_get (l : List Int) (i : Nat) (h : i < l.length) : rd l (i : Int) = l[i] := by simp [rd, h]
def hstep (hi lo : Int) (hot : Bool) (n : Int) : Bool := decide (hi < n) || (hot && decide (lo ≤ n))
def hspec (hi lo : Int) : Bool → List Int → List Bool
  | _, [] => []
  | hot, n :: l => hstep hi lo hot n :: hspec hi lo (hstep hi lo hot n) l
theorem hspec_length (hi lo : Int) : ∀ l hot, (hspec hi lo hot l).length = l.length
  | [], _ => rfl
  | _ :: l, _ => by simp [hspec, hspec_length hi lo l]
theorem hspec_drop (hi lo : Int) (hot : Bool) (l : List Int) (i : Nat) (h : i < l.length) :
    hspec hi lo hot (l.drop i) = hstep hi lo hot (rd l (i : Int)) :: hspec hi lo (hstep hi lo hot (rd l (i : Int))) (l.drop (i + 1)) := by
  rw [List.drop_eq_getElem_cons h, rd_get l i h]; rfl
theorem hot_l0 (hi lo : Int) (l : List Int) (hl : l.length ≤ 500) : ∀ n i hot out k, i + n = l.length → out.length = i → n < k →
    probe_Hot.l0 k hi lo hot out l (l.length : Int) (i : Int) = some (out ++ hspec hi lo hot (l.drop i), 0) := by
  intro n
  induction n with
  | zero =>
    intro i hot out k hi' ho hk
    obtain ⟨k, rfl⟩ : ∃ j, k = j + 1 := ⟨k - 1, by omega⟩
    unfold probe_Hot.l0
    rw [if_neg (show ¬ ((i : Int) < (l.length : Int)) by omega), List.drop_eq_nil_of_le (by omega)]
    simp [hspec]
  | succ n ih =>
    intro i hot out k hi' ho hk
    obtain ⟨k, rfl⟩ : ∃ j, k = j + 1 := ⟨k - 1, by omega⟩
    have hlt : i < l.length := by omega
    unfold probe_Hot.l0
    have hL : out.length < 140737488355328 := by omega
    have go : ∀ b, b = hstep hi lo hot (rd l (i : Int)) → probe_Hot.l0 k hi lo b (out ++ [b]) l (l.length : Int) (wrap64 ((i : Int) + 1)) = some (out ++ hspec hi lo hot (l.drop i), 0) := by
      rintro b rfl
      rw [w64 i (by omega), ih (i + 1) _ _ k (by omega) (by simp; omega) (by omega), hspec_drop hi lo hot l i hlt]
      simp
    rw [if_pos (show (i : Int) < (l.length : Int) by omega), if_pos (show (0 : Int) ≤ (i : Int) by omega), if_pos (show (i : Int) < (l.length : Int) by omega)]
    by_cases c1 : rd l (i : Int) > hi
    · rw [if_pos c1, if_pos hL]; exact go true (by simp [hstep]; omega)
    · rw [if_neg c1]
      by_cases c2 : rd l (i : Int) < lo
      · rw [if_pos c2, if_pos hL]; exact go false (by simp [hstep]; omega)
      · rw [if_neg c2, if_pos hL]; exact go hot (by cases hot <;> simp [hstep] <;> omega)
theorem hot_f (hi lo : Int) (l : List Int) (hl : l.length ≤ 500) (k : Nat) (hk : 501 < k) :
    probe_Hot.f k hi lo l = some (if lo > hi then ([], 1) else (hspec hi lo false l, 0)) := by
  unfold probe_Hot.f
  by_cases c : lo > hi
  · rw [if_pos c, if_pos c]
  · rw [if_neg c, if_neg c]
    have h := hot_l0 hi lo l hl l.length 0 false [] k (by omega) rfl (by omega)
    simpa using h
theorem bs {α β : Type} (a : α) (f : α → Option β) : (some a).bind f = f a := rfl
theorem vstep_11 (bad good : Bool) : vstep 1 1 bad 0 good = (!good, 0) := by cases bad <;> cases good <;> decide +kernel
theorem vlist_11 : ∀ (l : List Bool) (bad : Bool), vlist 1 1 bad 0 l = l.map (fun b => !b)
  | [], _ => rfl
  | b :: l, bad => by
    show (vstep 1 1 bad 0 b).1 :: vlist 1 1 (vstep 1 1 bad 0 b).1 (vstep 1 1 bad 0 b).2 l = _
    rw [vstep_11]
    simp [vlist_11 l]
theorem last_l0 (l : List Bool) (hl : l.length ≤ 500) : ∀ n i k, i + n = l.length → n < k →
    cellplanelaw22_ProbeLast.l0 k l (l.map (fun b => !b)) (i : Int) = some true := by
  intro n
  induction n with
  | zero =>
    intro i k hi' hk
    obtain ⟨k, rfl⟩ : ∃ j, k = j + 1 := ⟨k - 1, by omega⟩
    unfold cellplanelaw22_ProbeLast.l0
    rw [if_neg (show ¬ ((i : Int) < (l.length : Int)) by omega)]
  | succ n ih =>
    intro i k hi' hk
    obtain ⟨k, rfl⟩ : ∃ j, k = j + 1 := ⟨k - 1, by omega⟩
    have hlt : i < l.length := by omega
    unfold cellplanelaw22_ProbeLast.l0
    rw [if_pos (show (i : Int) < (l.length : Int) by omega), if_pos (show (0 : Int) ≤ (i : Int) by omega), if_pos (show (i : Int) < ((l.map (fun b => !b)).length : Int) by simp; omega), rdOf_get l i hlt, rdOf_get _ i (by simpa using hlt)]
    rw [if_neg (by simp), w64 i (by omega)]
    exact ih (i + 1) k (by omega) (by omega)
/-- Without hysteresis the verdict is the last result. No condition. -/
theorem ProbeLast (l0 : List Bool) : ∃ k, cellplanelaw22_ProbeLast.f k l0 = some true := by
  refine ⟨2000, ?_⟩
  unfold cellplanelaw22_ProbeLast.f
  by_cases c : (l0.length : Int) > 500
  · rw [if_pos c, awake_ge 2000 (by omega), bs]
  · rw [if_neg c]
    unfold probe_Verdicts.f
    rw [if_pos (show l0.length < 140737488355328 by omega), if_pos (show (1 : Int) ≤ 1 ∧ (1 : Int) ≤ 100 ∧ (1 : Int) ≤ 1 ∧ (1 : Int) ≤ 100 by decide), bs, awake_ge 2000 (by omega), bs, if_pos rfl]
    dsimp only
    rw [if_pos rfl, vlist_11, List.length_map, show ((l0.length : Int) != (l0.length : Int)) = false by simp]
    rw [cellplanelaw22_ProbeLast.j0, if_neg (by simp)]
    exact last_l0 l0 (by omega) l0.length 0 1999 (by omega) (by omega)

end Go.Proofs.Ytfoaaglcanogpaa.Pure
