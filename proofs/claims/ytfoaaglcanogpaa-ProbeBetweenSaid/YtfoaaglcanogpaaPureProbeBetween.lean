/- A load signal is hot above high, not below low, and stays as it was in between. No condition. -/
import Derived.Test.YtfoaaglcanogpaaQProbeBetweenx1
import Derived.Test.YtfoaaglcanogpaaQProbeBetweenx2
namespace Go.Proofs.Ytfoaaglcanogpaa.Pure
open Go.RowKit Go.Proofs.Ytfoaaglcanogpaa.QProbeBetween Go.Proofs.YtfoaaglcanogpaaW.PrintWords Go.Proofs.YtfoaaglcanogpaaW.PrintLast Go.Proofs.YtfoaaglcanogpaaW.PrintMore
set_option linter.unusedVariables false
set_option linter.unusedSimpArgs false
theorem awake_10 : cellplanelaw22_awake.f 10 = some true := by decide +kernel
theorem awake_ge (k : Nat) (h : 10 ≤ k) : cellplanelaw22_awake.f k = some true := by
  obtain ⟨d, rfl⟩ : ∃ d, k = 10 + d := ⟨k - 10, by omega⟩
  clear h
  induction d with
  | zero => exact awake_10
  | succ d ih => exact cellplanelaw22_awake.mono (10 + d) _ ih
theorem w64 (i : Nat) (h : i < 1000) : wrap64 ((i : Int) + 1) = ((i + 1 : Nat) : Int) := by unfold wrap64; omega
theorem rdOf_get (l : List Bool) (i : Nat) (h : i < l.length) : rdOf false l (i : Int) = l[i] := by simp [rdOf, h]
theorem rd_get (l : List Int) (i : Nat) (h : i < l.length) : rd l (i : Int) = l[i] := by simp [rd, h]
def hstep (hi lo : Int) (hot : Bool) (n : Int) : Bool := decide (hi < n) || (hot && decide (lo ≤ n))
def hspec (hi lo : Int) : Bool → List Int → List Bool
  | _, [] => []
  | hot, n :: l => hstep hi lo hot n :: hspec hi lo (hstep hi lo hot n) l
theorem hspec_length (hi lo : Int) : ∀ l hot, (hspec hi lo hot l).length = l.length
  | [], _ => rfl
  | _ :: l, _ => by simp [hspec, hspec_length hi lo l]
theorem hspec_drop (hi lo : Int) (hot : Bool) (l : List Int) (i : Nat) (h : i < l.length) :
    hspec hi lo hot (l.drop i) = hstep hi lo hot (rd l (i : Int)) :: hspec hi lo (hstep hi lo hot (rd l (i : Int))) (l.drop (i + 1)) := by
  rw [List.drop_eq_getElem_cons h, rd_get l i h]; rfl
theorem hot_l0 (hi lo : Int) (l : List Int) (hl : l.length ≤ 500) : ∀ n i hot out k, i + n = l.length → out.length = i → n < k →
    probe_Hot.l0 k hi lo hot out l (l.length : Int) (i : Int) = some (out ++ hspec hi lo hot (l.drop i), 0) := by
  intro n
  induction n with
  | zero =>
    intro i hot out k hi' ho hk
    obtain ⟨k, rfl⟩ : ∃ j, k = j + 1 := ⟨k - 1, by omega⟩
    unfold probe_Hot.l0
    rw [if_neg (show ¬ ((i : Int) < (l.length : Int)) by omega), List.drop_eq_nil_of_le (by omega)]
    simp [hspec]
  | succ n ih =>
    intro i hot out k hi' ho hk
    obtain ⟨k, rfl⟩ : ∃ j, k = j + 1 := ⟨k - 1, by omega⟩
    have hlt : i < l.length := by omega
    unfold probe_Hot.l0
    have hL : out.length < 140737488355328 := by omega
    have go : ∀ b, b = hstep hi lo hot (rd l (i : Int)) → probe_Hot.l0 k hi lo b (out ++ [b]) l (l.length : Int) (wrap64 ((i : Int) + 1)) = some (out ++ hspec hi lo hot (l.drop i), 0) := by
      rintro b rfl
      rw [w64 i (by omega), ih (i + 1) _ _ k (by omega) (by simp; omega) (by omega), hspec_drop hi lo hot l i hlt]
      simp
    rw [if_pos (show (i : Int) < (l.length : Int) by omega), if_pos (show (0 : Int) ≤ (i : Int) by omega), if_pos (show (i : Int) < (l.length : Int) by omega)]
    by_cases c1 : rd l (i : Int) > hi
    · rw [if_pos c1, if_pos hL]; exact go true (by simp [hstep]; omega)
    · rw [if_neg c1]
      by_cases c2 : rd l (i : Int) < lo
      · rw [if_pos c2, if_pos hL]; exact go false (by simp [hstep]; omega)
      · rw [if_neg c2, if_pos hL]; exact go hot (by cases hot <;> simp [hstep] <;> omega)
theorem hot_f (hi lo : Int) (l : List Int) (hl : l.length ≤ 500) (k : Nat) (hk : 501 < k) :
    probe_Hot.f k hi lo l = some (if lo > hi then ([], 1) else (hspec hi lo false l, 0)) := by
  unfold probe_Hot.f
  by_cases c : lo > hi
  · rw [if_pos c, if_pos c]
  · rw [if_neg c, if_neg c]
    have h := hot_l0 hi lo l hl l.length 0 false [] k (by omega) rfl (by omega)
    simpa using h
theorem bs {α β : Type} (a : α) (f : α → Option β) : (some a).bind f = f a := rfl
theorem hspec_at (hi lo : Int) : ∀ (l : List Int) (h : Bool) (i : Nat), i < l.length →
    (hspec hi lo h l).getD i false = hstep hi lo (if i = 0 then h else (hspec hi lo h l).getD (i - 1) false) (l.getD i 0)
  | [], _, i, hi' => by simp at hi'
  | n :: l, h, 0, _ => by simp [hspec]
  | n :: l, h, i + 1, hi' => by
    have ih := hspec_at hi lo l (hstep hi lo h n) i (by simpa using hi')
    show (hspec hi lo (hstep hi lo h n) l).getD i false = _
    rw [ih]
    cases i with
    | zero => simp [hspec]
    | succ j => simp [hspec]
theorem w64p (i : Nat) (h : i < 1000) : wrap64 (((i + 1 : Nat) : Int) - 1) = (i : Int) := by unfold wrap64; omega
theorem between_l0 (hi lo : Int) (hle : lo ≤ hi) (l : List Int) (hl : l.length ≤ 500) : ∀ n i k, i + n = l.length → n < k →
    cellplanelaw22_ProbeBetween.l0 k hi lo l (hspec hi lo false l) (i : Int) = some true := by
  intro n
  induction n with
  | zero =>
    intro i k hi' hk
    obtain ⟨k, rfl⟩ : ∃ j, k = j + 1 := ⟨k - 1, by omega⟩
    unfold cellplanelaw22_ProbeBetween.l0
    rw [if_neg (show ¬ ((i : Int) < (l.length : Int)) by omega)]
  | succ n ih =>
    intro i k hi' hk
    obtain ⟨k, rfl⟩ : ∃ j, k = j + 1 := ⟨k - 1, by omega⟩
    have hlt : i < l.length := by omega
    have go := ih (i + 1) k (by omega) (by omega)
    rw [← w64 i (by omega)] at go
    have hat := hspec_at hi lo l false i hlt
    have e1 : (hspec hi lo false l).getD i false = rdOf false (hspec hi lo false l) (i : Int) := by simp [rdOf]
    have e2 : l.getD i 0 = rd l (i : Int) := by simp [rd]
    rw [e1, e2] at hat
    unfold cellplanelaw22_ProbeBetween.l0
    have p1 : (i : Int) < (l.length : Int) := by omega
    have p2 : (0 : Int) ≤ (i : Int) := by omega
    have p3 : (i : Int) < ((hspec hi lo false l).length : Int) := by rw [hspec_length]; omega
    rw [if_pos p1]
    cases i with
    | zero =>
      rw [if_neg (show ¬ (((0 : Nat) : Int) > 0) by omega), if_pos p2]
      rw [if_pos rfl] at hat
      simp only [if_pos p3]
      generalize rdOf false (hspec hi lo false l) ((0 : Nat) : Int) = b at hat ⊢
      generalize rd l ((0 : Nat) : Int) = m at hat ⊢
      generalize cellplanelaw22_ProbeBetween.l0 k hi lo l (hspec hi lo false l) (wrap64 (((0 : Nat) : Int) + 1)) = z at go ⊢
      clear ih p1 p2 p3 e1 e2
      subst go
      subst hat
      simp only [hstep, Bool.false_and, Bool.or_false]
      repeat' split
      all_goals first | rfl | (exfalso; simp_all; done) | (exfalso; simp_all; omega)
    | succ j =>
      rw [if_pos (show ((j + 1 : Nat) : Int) > 0 by omega), w64p j (by omega)]
      rw [if_neg (by omega)] at hat
      have e3 : (hspec hi lo false l).getD (j + 1 - 1) false = rdOf false (hspec hi lo false l) (j : Int) := by simp [rdOf]
      rw [e3] at hat
      rw [if_pos (show (0 : Int) ≤ (j : Int) by omega), if_pos (show (j : Int) < ((hspec hi lo false l).length : Int) by omega), if_pos p2]
      simp only [if_pos p3]
      generalize rdOf false (hspec hi lo false l) ((j + 1 : Nat) : Int) = b at hat ⊢
      generalize rdOf false (hspec hi lo false l) (j : Int) = was at hat ⊢
      generalize rd l ((j + 1 : Nat) : Int) = m at hat ⊢
      generalize cellplanelaw22_ProbeBetween.l0 k hi lo l (hspec hi lo false l) (wrap64 (((j + 1 : Nat) : Int) + 1)) = z at go ⊢
      clear ih p1 p2 p3 e1 e2 e3
      subst go
      subst hat
      cases was <;> simp only [hstep, Bool.false_and, Bool.or_false, Bool.true_and]
      all_goals repeat' split
      all_goals first | rfl | (exfalso; simp_all; done) | (exfalso; simp_all; omega)
/-- A load signal is hot above high, not below low, and stays as it was in between. No condition. -/
theorem ProbeBetween : cellplanelaw22_ProbeBetween.Pure := by
  intro a0 a1 l2 _ _ _ _ _
  refine ⟨2000, ?_⟩
  unfold cellplanelaw22_ProbeBetween.f
  have jt : cellplanelaw22_ProbeBetween.j0 2000 a0 a1 l2 true = some true := by
    rw [cellplanelaw22_ProbeBetween.j0, if_pos rfl, awake_ge 1999 (by omega), bs]
  by_cases c : (l2.length : Int) > 500
  · rw [if_pos c]; exact jt
  · rw [if_neg c]
    by_cases c2 : a1 > a0
    · rw [decide_eq_true c2]; exact jt
    · rw [decide_eq_false c2]
      rw [cellplanelaw22_ProbeBetween.j0, if_neg (by simp), hot_f a0 a1 l2 (by omega) 1999 (by omega), bs, awake_ge 1999 (by omega), bs, if_pos rfl, if_neg c2]
      dsimp only
      rw [if_pos rfl, hspec_length, show ((l2.length : Int) != (l2.length : Int)) = false by simp]
      rw [cellplanelaw22_ProbeBetween.j1, if_neg (by simp)]
      exact between_l0 a0 a1 (by omega) l2 (by omega) l2.length 0 1998 (by omega) (by omega)

end Go.Proofs.Ytfoaaglcanogpaa.Pure
