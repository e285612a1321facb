/- A load signal is hot at the elements at which the reference's is, for any limits and any numbers. No condition. -/
import Derived.Test.YtfoaaglcanogpaaQProbeHotx1
import Derived.Test.YtfoaaglcanogpaaQProbeHotx2
namespace Go.Proofs.Ytfoaaglcanogpaa.Pure
open Go.RowKit Go.Proofs.Ytfoaaglcanogpaa.QProbeHot Go.Proofs.YtfoaaglcanogpaaW.PrintWords Go.Proofs.YtfoaaglcanogpaaW.PrintLast Go.Proofs.YtfoaaglcanogpaaW.PrintMore
set_option linter.unusedVariables false
set_option linter.unusedSimpArgs false
theorem awake_10 : cellplanelaw22_awake.f 10 = some true := by decide +kernel
theorem awake_ge (k : Nat) (h : 10 ≤ k) : cellplanelaw22_awake.f k = some true := by
  obtain ⟨d, rfl⟩ : ∃ d, k = 10 + d := ⟨k - 10, by omega⟩
  clear h
  induction d with
  | zero => exact awake_10
  | succ d ih => exact cellplanelaw22_awake.mono (10 + d) _ ih
theorem w64 (i : Nat) (h : i < 1000) : wrap64 ((i : Int) + 1) = ((i + 1 : Nat) : Int) := by unfold wrap64; omega
theorem rdOf_get (l : List Bool) (i : Nat) (h : i < l.length) : rdOf false l (i : Int) = l[i] := by simp [rdOf, h]
theorem rd_get (l : List Int) (i : Nat) (h : i < l.length) : rd l (i : Int) = l[i] := by simp [rd, h]
theorem same_l0 (a : List Bool) (ha : a.length ≤ 500) : ∀ n i k, i + n = a.length → n < k → cellplaneref22_Same.l0 k a a (i : Int) = some true := by
  intro n
  induction n with
  | zero =>
    intro i k hi hk
    obtain ⟨k, rfl⟩ : ∃ j, k = j + 1 := ⟨k - 1, by omega⟩
    unfold cellplaneref22_Same.l0
    rw [if_neg (show ¬ ((i : Int) < (a.length : Int)) by omega)]
  | succ n ih =>
    intro i k hi hk
    obtain ⟨k, rfl⟩ : ∃ j, k = j + 1 := ⟨k - 1, by omega⟩
    unfold cellplaneref22_Same.l0
    rw [if_pos (show (i : Int) < (a.length : Int) by omega), if_pos (show (0 : Int) ≤ (i : Int) by omega), if_pos (show (i : Int) < (a.length : Int) by omega), if_neg (show ¬ ((rdOf false a (i : Int) != rdOf false a (i : Int)) = true) by simp), w64 i (by omega)]
    exact ih (i + 1) k (by omega) (by omega)
theorem same_self (a : List Bool) (ha : a.length ≤ 500) (k : Nat) (hk : 501 < k) : cellplaneref22_Same.f k a a = some true := by
  unfold cellplaneref22_Same.f
  rw [if_pos rfl]
  exact same_l0 a ha a.length 0 k (by omega) (by omega)
def hstep (hi lo : Int) (hot : Bool) (n : Int) : Bool := decide (hi < n) || (hot && decide (lo ≤ n))
def hspec (hi lo : Int) : Bool → List Int → List Bool
  | _, [] => []
  | hot, n :: l => hstep hi lo hot n :: hspec hi lo (hstep hi lo hot n) l
theorem hspec_length (hi lo : Int) : ∀ l hot, (hspec hi lo hot l).length = l.length
  | [], _ => rfl
  | _ :: l, _ => by simp [hspec, hspec_length hi lo l]
theorem hspec_drop (hi lo : Int) (hot : Bool) (l : List Int) (i : Nat) (h : i < l.length) :
    hspec hi lo hot (l.drop i) = hstep hi lo hot (rd l (i : Int)) :: hspec hi lo (hstep hi lo hot (rd l (i : Int))) (l.drop (i + 1)) := by
  rw [List.drop_eq_getElem_cons h, rd_get l i h]; rfl
theorem hot_l0 (hi lo : Int) (l : List Int) (hl : l.length ≤ 500) : ∀ n i hot out k, i + n = l.length → out.length = i → n < k →
    probe_Hot.l0 k hi lo hot out l (l.length : Int) (i : Int) = some (out ++ hspec hi lo hot (l.drop i), 0) := by
  intro n
  induction n with
  | zero =>
    intro i hot out k hi' ho hk
    obtain ⟨k, rfl⟩ : ∃ j, k = j + 1 := ⟨k - 1, by omega⟩
    unfold probe_Hot.l0
    rw [if_neg (show ¬ ((i : Int) < (l.length : Int)) by omega), List.drop_eq_nil_of_le (by omega)]
    simp [hspec]
  | succ n ih =>
    intro i hot out k hi' ho hk
    obtain ⟨k, rfl⟩ : ∃ j, k = j + 1 := ⟨k - 1, by omega⟩
    have hlt : i < l.length := by omega
    unfold probe_Hot.l0
    have hL : out.length < 140737488355328 := by omega
    have go : ∀ b, b = hstep hi lo hot (rd l (i : Int)) → probe_Hot.l0 k hi lo b (out ++ [b]) l (l.length : Int) (wrap64 ((i : Int) + 1)) = some (out ++ hspec hi lo hot (l.drop i), 0) := by
      rintro b rfl
      rw [w64 i (by omega), ih (i + 1) _ _ k (by omega) (by simp; omega) (by omega), hspec_drop hi lo hot l i hlt]
      simp
    rw [if_pos (show (i : Int) < (l.length : Int) by omega), if_pos (show (0 : Int) ≤ (i : Int) by omega), if_pos (show (i : Int) < (l.length : Int) by omega)]
    by_cases c1 : rd l (i : Int) > hi
    · rw [if_pos c1, if_pos hL]; exact go true (by simp [hstep]; omega)
    · rw [if_neg c1]
      by_cases c2 : rd l (i : Int) < lo
      · rw [if_pos c2, if_pos hL]; exact go false (by simp [hstep]; omega)
      · rw [if_neg c2, if_pos hL]; exact go hot (by cases hot <;> simp [hstep] <;> omega)
theorem hot_f (hi lo : Int) (l : List Int) (hl : l.length ≤ 500) (k : Nat) (hk : 501 < k) :
    probe_Hot.f k hi lo l = some (if lo > hi then ([], 1) else (hspec hi lo false l, 0)) := by
  unfold probe_Hot.f
  by_cases c : lo > hi
  · rw [if_pos c, if_pos c]
  · rw [if_neg c, if_neg c]
    have h := hot_l0 hi lo l hl l.length 0 false [] k (by omega) rfl (by omega)
    simpa using h
theorem rhot_l0 (hi lo : Int) (l : List Int) (hl : l.length ≤ 500) : ∀ n i hot out k, i + n = l.length → out.length = i → n < k →
    cellplaneref22_Hot.l0 k hi lo l out hot (i : Int) = some (out ++ hspec hi lo hot (l.drop i), 0) := by
  intro n
  induction n with
  | zero =>
    intro i hot out k hi' ho hk
    obtain ⟨k, rfl⟩ : ∃ j, k = j + 1 := ⟨k - 1, by omega⟩
    unfold cellplaneref22_Hot.l0
    rw [if_neg (show ¬ ((i : Int) < (l.length : Int)) by omega), List.drop_eq_nil_of_le (by omega)]
    simp [hspec]
  | succ n ih =>
    intro i hot out k hi' ho hk
    obtain ⟨k, rfl⟩ : ∃ j, k = j + 1 := ⟨k - 1, by omega⟩
    have hlt : i < l.length := by omega
    unfold cellplaneref22_Hot.l0
    have hL : out.length < 140737488355328 := by omega
    have go : ∀ b, b = hstep hi lo hot (rd l (i : Int)) → cellplaneref22_Hot.l0 k hi lo l (out ++ [b]) b (wrap64 ((i : Int) + 1)) = some (out ++ hspec hi lo hot (l.drop i), 0) := by
      rintro b rfl
      rw [w64 i (by omega), ih (i + 1) _ _ k (by omega) (by simp; omega) (by omega), hspec_drop hi lo hot l i hlt]
      simp
    rw [if_pos (show (i : Int) < (l.length : Int) by omega), if_pos (show (0 : Int) ≤ (i : Int) by omega)]
    by_cases c1 : rd l (i : Int) > hi
    · rw [if_pos c1, if_pos hL]; exact go true (by simp [hstep]; omega)
    · rw [if_neg c1]
      cases hot
      · rw [if_neg (by simp), if_pos hL]; exact go false (by simp [hstep]; omega)
      · rw [if_pos rfl, if_pos hL]; exact go _ (by simp [hstep]; omega)
theorem rhot_f (hi lo : Int) (l : List Int) (hl : l.length ≤ 500) (k : Nat) (hk : 501 < k) :
    cellplaneref22_Hot.f k hi lo l = some (if lo > hi then ([], 1) else (hspec hi lo false l, 0)) := by
  unfold cellplaneref22_Hot.f
  by_cases c : lo > hi
  · rw [if_pos c, if_pos c]
  · rw [if_neg c, if_neg c]
    have h := rhot_l0 hi lo l hl l.length 0 false [] k (by omega) rfl (by omega)
    simpa using h
theorem bs {α β : Type} (a : α) (f : α → Option β) : (some a).bind f = f a := rfl
theorem j2_true (hi lo : Int) (x : List Int) (hx : x.length ≤ 500) (k : Nat) (hk : 505 < k) : cellplanelaw22_ProbeHot.j2 k hi lo x = some true := by
  obtain ⟨k, rfl⟩ : ∃ j, k = j + 1 := ⟨k - 1, by omega⟩
  rw [cellplanelaw22_ProbeHot.j2]
  rw [hot_f hi lo x hx k (by omega), bs, rhot_f hi lo x hx k (by omega), bs, awake_ge k (by omega), bs, if_pos rfl, same_self _ (by split <;> simp [hspec_length, hx]) k (by omega), bs, if_pos rfl]
  simp
theorem mod8 (x : Int) : ∃ y, cellplanemake_Mod.f x 8 = some y := ⟨_, by unfold cellplanemake_Mod.f; rw [if_neg (by decide)]⟩
theorem j1_true (hi lo : Int) (s : Bool) (x : List Int) (hx : x.length ≤ 500) (k : Nat) (hk : 506 < k) : cellplanelaw22_ProbeHot.j1 k hi lo s x = some true := by
  obtain ⟨k, rfl⟩ : ∃ j, k = j + 1 := ⟨k - 1, by omega⟩
  rw [cellplanelaw22_ProbeHot.j1]
  cases s
  · rw [if_neg (by simp)]; exact j2_true hi lo x hx k (by omega)
  · obtain ⟨a, ha⟩ := mod8 hi
    obtain ⟨b, hb⟩ := mod8 lo
    rw [if_pos rfl, ha, bs, hb, bs]; exact j2_true a b x hx k (by omega)
theorem l0_true (hi lo : Int) (s : Bool) : ∀ n i (x : List Int) k, x.length ≤ 500 → i + n = x.length → n + 508 < k → cellplanelaw22_ProbeHot.l0 k hi lo s x (i : Int) = some true := by
  intro n
  induction n with
  | zero =>
    intro i x k hx hi' hk
    obtain ⟨k, rfl⟩ : ∃ j, k = j + 1 := ⟨k - 1, by omega⟩
    unfold cellplanelaw22_ProbeHot.l0
    rw [if_neg (show ¬ ((i : Int) < (x.length : Int)) by omega)]
    exact j1_true hi lo s x hx k (by omega)
  | succ n ih =>
    intro i x k hx hi' hk
    obtain ⟨k, rfl⟩ : ∃ j, k = j + 1 := ⟨k - 1, by omega⟩
    unfold cellplanelaw22_ProbeHot.l0
    rw [if_pos (show (i : Int) < (x.length : Int) by omega)]
    cases s
    · rw [if_neg (by simp)]; exact j1_true hi lo false x hx k (by omega)
    · obtain ⟨a, ha⟩ := mod8 (rd x (i : Int))
      rw [if_pos rfl, if_pos (show (0 : Int) ≤ (i : Int) by omega), ha, bs, w64 i (by omega)]
      exact ih (i + 1) _ k (by simp; omega) (by simp; omega) (by omega)
/-- A load signal is hot at the same elements as the reference's, for any limits and numbers. No condition. -/
theorem ProbeHot : cellplanelaw22_ProbeHot.Pure := by
  intro a0 a1 l2 a3 _ _ _ _ _
  refine ⟨2000, ?_⟩
  unfold cellplanelaw22_ProbeHot.f
  by_cases c : (l2.length : Int) > 500
  · rw [if_pos c, awake_ge 2000 (by omega), bs]
  · rw [if_neg c, bs, if_pos (show ([] : List Int).length + l2.length < 17592186044416 by simp; omega)]
    have h := l0_true a0 a1 a3 l2.length 0 l2 2000 (by omega) (by omega) (by omega)
    simpa using h

end Go.Proofs.Ytfoaaglcanogpaa.Pure
