/- The verdict changes to bad only behind Fall bad results in a row, and to good only behind Rise good ones. No condition. -/
import Derived.Test.YtfoaaglcanogpaaQProbeHoldsx1
import Derived.Test.YtfoaaglcanogpaaQProbeHoldsx2
namespace Go.Proofs.Ytfoaaglcanogpaa.Pure
open Go.RowKit Go.Proofs.Ytfoaaglcanogpaa.QProbeHolds Go.Proofs.YtfoaaglcanogpaaW.PrintWords Go.Proofs.YtfoaaglcanogpaaW.PrintLast Go.Proofs.YtfoaaglcanogpaaW.PrintMore
set_option linter.unusedVariables false
set_option linter.unusedSimpArgs false
theorem awake_10 : cellplanelaw22_awake.f 10 = some true := by decide +kernel
theorem awake_ge (k : Nat) (h : 10 ≤ k) : cellplanelaw22_awake.f k = some true := by
  obtain ⟨d, rfl⟩ : ∃ d, k = 10 + d := ⟨k - 10, by omega⟩
  clear h
  induction d with
  | zero => exact awake_10
  | succ d ih => exact cellplanelaw22_awake.mono (10 + d) _ ih
theorem w64 (i : Nat) (h : i < 1000) : wrap64 ((i : Int) + 1) = ((i + 1 : Nat) : Int) := by unfold wrap64; omega
theorem rdOf_get (l : List Bool) (i : Nat) (h : i < l.length) : rdOf false l (i : Int) = l[i] := by simp [rdOf, h]
theorem rd_get (l : List Int) (i : Nat) (h : i < l.length) : rd l (i : Int) = l[i] := by simp [rd, h]
def hstep (hi lo : Int) (hot : Bool) (n : Int) : Bool := decide (hi < n) || (hot && decide (lo ≤ n))
def hspec (hi lo : Int) : Bool → List Int → List Bool
  | _, [] => []
  | hot, n :: l => hstep hi lo hot n :: hspec hi lo (hstep hi lo hot n) l
theorem hspec_length (hi lo : Int) : ∀ l hot, (hspec hi lo hot l).length = l.length
  | [], _ => rfl
  | _ :: l, _ => by simp [hspec, hspec_length hi lo l]
theorem hspec_drop (hi lo : Int) (hot : Bool) (l : List Int) (i : Nat) (h : i < l.length) :
    hspec hi lo hot (l.drop i) = hstep hi lo hot (rd l (i : Int)) :: hspec hi lo (hstep hi lo hot (rd l (i : Int))) (l.drop (i + 1)) := by
  rw [List.drop_eq_getElem_cons h, rd_get l i h]; rfl
theorem hot_l0 (hi lo : Int) (l : List Int) (hl : l.length ≤ 500) : ∀ n i hot out k, i + n = l.length → out.length = i → n < k →
    probe_Hot.l0 k hi lo hot out l (l.length : Int) (i : Int) = some (out ++ hspec hi lo hot (l.drop i), 0) := by
  intro n
  induction n with
  | zero =>
    intro i hot out k hi' ho hk
    obtain ⟨k, rfl⟩ : ∃ j, k = j + 1 := ⟨k - 1, by omega⟩
    unfold probe_Hot.l0
    rw [if_neg (show ¬ ((i : Int) < (l.length : Int)) by omega), List.drop_eq_nil_of_le (by omega)]
    simp [hspec]
  | succ n ih =>
    intro i hot out k hi' ho hk
    obtain ⟨k, rfl⟩ : ∃ j, k = j + 1 := ⟨k - 1, by omega⟩
    have hlt : i < l.length := by omega
    unfold probe_Hot.l0
    have hL : out.length < 140737488355328 := by omega
    have go : ∀ b, b = hstep hi lo hot (rd l (i : Int)) → probe_Hot.l0 k hi lo b (out ++ [b]) l (l.length : Int) (wrap64 ((i : Int) + 1)) = some (out ++ hspec hi lo hot (l.drop i), 0) := by
      rintro b rfl
      rw [w64 i (by omega), ih (i + 1) _ _ k (by omega) (by simp; omega) (by omega), hspec_drop hi lo hot l i hlt]
      simp
    rw [if_pos (show (i : Int) < (l.length : Int) by omega), if_pos (show (0 : Int) ≤ (i : Int) by omega), if_pos (show (i : Int) < (l.length : Int) by omega)]
    by_cases c1 : rd l (i : Int) > hi
    · rw [if_pos c1, if_pos hL]; exact go true (by simp [hstep]; omega)
    · rw [if_neg c1]
      by_cases c2 : rd l (i : Int) < lo
      · rw [if_pos c2, if_pos hL]; exact go false (by simp [hstep]; omega)
      · rw [if_neg c2, if_pos hL]; exact go hot (by cases hot <;> simp [hstep] <;> omega)
theorem hot_f (hi lo : Int) (l : List Int) (hl : l.length ≤ 500) (k : Nat) (hk : 501 < k) :
    probe_Hot.f k hi lo l = some (if lo > hi then ([], 1) else (hspec hi lo false l, 0)) := by
  unfold probe_Hot.f
  by_cases c : lo > hi
  · rw [if_pos c, if_pos c]
  · rw [if_neg c, if_neg c]
    have h := hot_l0 hi lo l hl l.length 0 false [] k (by omega) rfl (by omega)
    simpa using h
theorem mod4 (x : Int) : ∃ y, cellplanemake_Mod.f x 4 = some y ∧ 0 ≤ y ∧ y ≤ 3 := by
  refine ⟨Int.tmod (wrap64 ((Int.tmod x 4) + 4)) 4, by unfold cellplanemake_Mod.f; rw [if_neg (by decide)], ?_, ?_⟩
  all_goals
    have h : wrap64 ((Int.tmod x 4) + 4) = (Int.tmod x 4) + 4 := by
      have h1 := Int.tmod_lt_of_pos x (show (0 : Int) < 4 by decide)
      have h2 := Int.lt_tmod_of_pos x (show (0 : Int) < 4 by decide)
      generalize Int.tmod x 4 = z at h1 h2 ⊢
      unfold wrap64
      omega
    rw [h]
    have h1 := Int.tmod_lt_of_pos x (show (0 : Int) < 4 by decide)
    have h2 := Int.lt_tmod_of_pos x (show (0 : Int) < 4 by decide)
    rw [Int.tmod_eq_emod_of_nonneg (by omega)]
    omega
theorem between14 (x : Int) : ∃ y, cellplanemake_Between.f x 1 4 = some y ∧ 1 ≤ y ∧ y ≤ 4 := by
  obtain ⟨y, h, h0, h1⟩ := mod4 x
  refine ⟨wrap64 (1 + y), ?_, ?_, ?_⟩
  · unfold cellplanemake_Between.f
    rw [show wrap64 (wrap64 (4 - 1) + 1) = 4 by decide +kernel, h]; rfl
  · unfold wrap64; omega
  · unfold wrap64; omega
theorem near_some (a b : Int) : ∃ f r, cellplanelaw22_near.f a b = some (f, r) ∧ 1 ≤ f ∧ f ≤ 4 ∧ 1 ≤ r ∧ r ≤ 4 := by
  obtain ⟨f, hf, f1, f2⟩ := between14 a
  obtain ⟨r, hr, r1, r2⟩ := between14 b
  refine ⟨f, r, ?_, f1, f2, r1, r2⟩
  unfold cellplanelaw22_near.f
  rw [hf]
  show (cellplanemake_Between.f b 1 4).bind _ = _
  rw [hr]; rfl
theorem bs {α β : Type} (a : α) (f : α → Option β) : (some a).bind f = f a := rfl
theorem vdrop (f r : Int) (bad : Bool) (run : Int) (l : List Bool) (i : Nat) (h : i < l.length) :
    vlist f r bad run (l.drop i) = (vstep f r bad run (rdOf false l (i : Int))).1 :: vlist f r (vstep f r bad run (rdOf false l (i : Int))).1 (vstep f r bad run (rdOf false l (i : Int))).2 (l.drop (i + 1)) := by
  have h' := vlist_drop f r bad run l (i : Int) (by omega) (by omega)
  simpa using h'
theorem w64s (i j : Nat) (h : i < 1000) (h2 : j ≤ i) : wrap64 ((i : Int) - (j : Int)) = ((i - j : Nat) : Int) := by unfold wrap64; omega
/-- The inner loop: the results in a row are all of the kind that speaks against the verdict. -/
theorem holds_l1 (f r : Int) (l x : List Bool) (bad : Bool) (i : Nat) (hi : i < l.length) (hl : l.length ≤ 500) (hx : x.length = l.length) (n : Nat)
    (hall : ∀ j, j < n → j ≤ i ∧ rdOf false l ((i - j : Nat) : Int) = bad) (z : Option Bool) :
    ∀ m j k, j + m = n → m < k → (∀ k', k' + m + 1 = k → cellplanelaw22_ProbeHolds.l0 k' l x (rdOf false x (i : Int)) (wrap64 ((i : Int) + 1)) f r = z) →
      cellplanelaw22_ProbeHolds.l1 k l x bad (i : Int) (n : Int) (j : Int) f r = z := by
  intro m
  induction m with
  | zero =>
    intro j k hj hk hz
    obtain ⟨k, rfl⟩ : ∃ j, k = j + 1 := ⟨k - 1, by omega⟩
    rw [cellplanelaw22_ProbeHolds.l1, if_neg (show ¬ ((j : Int) < (n : Int)) by omega), if_pos (show (0 : Int) ≤ (i : Int) by omega), if_pos (show (i : Int) < (x.length : Int) by omega)]
    exact hz k (by omega)
  | succ m ih =>
    intro j k hj hk hz
    obtain ⟨k, rfl⟩ : ∃ j, k = j + 1 := ⟨k - 1, by omega⟩
    obtain ⟨h1, h2⟩ := hall j (by omega)
    rw [cellplanelaw22_ProbeHolds.l1, if_pos (show (j : Int) < (n : Int) by omega), w64s i j (by omega) h1, if_neg (show ¬ (((i - j : Nat) : Int) < 0) by omega), if_pos (show (0 : Int) ≤ ((i - j : Nat) : Int) by omega),
      if_pos (show ((i - j : Nat) : Int) < (l.length : Int) by omega), h2, if_neg (show ¬ ((bad != bad) = true) by simp)]
    rw [show wrap64 ((j : Int) + 1) = ((j + 1 : Nat) : Int) by unfold wrap64; omega]
    exact ih (j + 1) k (by omega) (by omega) (fun k' hk' => hz k' (by omega))
/-- The outer loop, told with the state behind the results before i. -/
theorem holds_l0 (f r : Int) (f1 : 1 ≤ f) (f2 : f ≤ 4) (r1 : 1 ≤ r) (r2 : r ≤ 4) (l x : List Bool) (hl : l.length ≤ 500) (hx : x.length = l.length) :
    ∀ n i k (bad : Bool) (run : Nat), i + n = l.length → 8 * n < k → x.drop i = vlist f r bad (run : Int) (l.drop i) → run ≤ i → (run : Int) < (if bad = true then r else f) → (∀ j, j < run → rdOf false l ((i - 1 - j : Nat) : Int) = bad) →
      cellplanelaw22_ProbeHolds.l0 k l x bad (i : Int) f r = some true := by
  intro n
  induction n with
  | zero =>
    intro i k bad run hi hk _ _ _ _
    obtain ⟨k, rfl⟩ : ∃ j, k = j + 1 := ⟨k - 1, by omega⟩
    rw [cellplanelaw22_ProbeHolds.l0, if_neg (show ¬ ((i : Int) < (x.length : Int)) by omega)]
  | succ n ih =>
    intro i k bad run hi hk hd hr hlim hall
    obtain ⟨k, rfl⟩ : ∃ j, k = j + 1 := ⟨k - 1, by omega⟩
    have hlt : i < l.length := by omega
    rw [vdrop f r bad run l i hlt, List.drop_eq_getElem_cons (by omega : i < x.length)] at hd
    injection hd with hx0 hd
    have hxi : rdOf false x (i : Int) = (vstep f r bad (run : Int) (rdOf false l (i : Int))).1 := by rw [rdOf_get x i (by omega)]; exact hx0
    rw [cellplanelaw22_ProbeHolds.l0, if_pos (show (i : Int) < (x.length : Int) by omega), if_pos (show (0 : Int) ≤ (i : Int) by omega)]
    by_cases c1 : (rdOf false l (i : Int) != bad) = true
    · have hs : vstep f r bad (run : Int) (rdOf false l (i : Int)) = (bad, 0) := by unfold vstep; rw [if_pos c1]
      rw [hs] at hxi hd
      rw [hxi, if_pos (by simp), w64 i (by omega)]
      exact ih (i + 1) k bad 0 (by omega) (by omega) hd (by omega) (by simp; split <;> omega) (fun j hj => by omega)
    · have hgood : rdOf false l (i : Int) = bad := by simpa using c1
      have hw : wrap64 ((run : Int) + 1) = (run : Int) + 1 := by
        have : (run : Int) < 4 := by split at hlim <;> omega
        unfold wrap64; omega
      by_cases c2 : (run : Int) + 1 = (if bad = true then r else f)
      · have hs : vstep f r bad (run : Int) (rdOf false l (i : Int)) = (!bad, 0) := by unfold vstep; rw [if_neg c1, hw, if_pos c2]
        rw [hs] at hxi hd
        have hrest : ∀ k', 8 * n < k' → cellplanelaw22_ProbeHolds.l0 k' l x (rdOf false x (i : Int)) (wrap64 ((i : Int) + 1)) f r = some true := by
          intro k' hk'
          rw [hxi, w64 i (by omega)]
          exact ih (i + 1) k' (!bad) 0 (by omega) hk' hd (by omega) (by simp; split <;> omega) (fun j hj => by omega)
        have hA : ∀ j, j < run + 1 → j ≤ i ∧ rdOf false l ((i - j : Nat) : Int) = bad := by
          intro j hj
          refine ⟨by omega, ?_⟩
          cases j with
          | zero => exact hgood
          | succ j => rw [show i - (j + 1) = i - 1 - j by omega]; exact hall j (by omega)
        have h4 : run + 1 ≤ 4 := by split at c2 <;> omega
        have hj2 : ∀ k', 8 * n + 7 ≤ k' → cellplanelaw22_ProbeHolds.j2 k' l x bad (i : Int) (((run + 1 : Nat)) : Int) f r = some true := by
          intro k' hk'
          obtain ⟨k', rfl⟩ : ∃ j, k' = j + 1 := ⟨k' - 1, by omega⟩
          rw [cellplanelaw22_ProbeHolds.j2]
          exact holds_l1 f r l x bad i hlt hl hx (run + 1) hA (some true) (run + 1) 0 k' (by omega) (by omega) (fun k'' hk'' => hrest k'' (by omega))
        rw [hxi, if_neg (by simp)]
        cases bad with
        | true =>
          rw [if_pos rfl] at c2 ⊢
          have := hj2 k (by omega)
          rwa [show (((run + 1 : Nat)) : Int) = r by omega] at this
        | false =>
          rw [if_neg (by simp)] at c2 ⊢
          have := hj2 k (by omega)
          rwa [show (((run + 1 : Nat)) : Int) = f by omega] at this
      · have hs : vstep f r bad (run : Int) (rdOf false l (i : Int)) = (bad, (run : Int) + 1) := by unfold vstep; rw [if_neg c1, hw, if_neg c2]
        rw [hs] at hxi hd
        rw [hxi, if_pos (by simp), w64 i (by omega)]
        refine ih (i + 1) k bad (run + 1) (by omega) (by omega) hd (by omega) (by split at hlim <;> split at c2 <;> simp_all <;> omega) (fun j hj => ?_)
        cases j with
        | zero => exact hgood
        | succ j => rw [show i + 1 - 1 - (j + 1) = i - 1 - j by omega]; exact hall j (by omega)
/-- The verdict changes only behind as many results in a row as its limit. No condition. -/
theorem ProbeHolds (a0 a1 : Int) (l1 : List Bool) : ∃ k, cellplanelaw22_ProbeHolds.f k a0 a1 l1 = some true := by
  refine ⟨5000, ?_⟩
  unfold cellplanelaw22_ProbeHolds.f
  by_cases c : (l1.length : Int) > 500
  · rw [if_pos c, awake_ge 5000 (by omega), bs]
  · rw [if_neg c]
    obtain ⟨f, r, hn, f1, f2, r1, r2⟩ := near_some a0 a1
    rw [hn, bs]
    unfold probe_Verdicts.f
    dsimp only
    rw [if_pos (show l1.length < 140737488355328 by omega), if_pos (show 1 ≤ f ∧ f ≤ 100 ∧ 1 ≤ r ∧ r ≤ 100 by omega), bs, awake_ge 5000 (by omega), bs, if_pos rfl]
    dsimp only
    rw [if_pos rfl, vlist_length, show ((l1.length : Int) != (l1.length : Int)) = false by simp, cellplanelaw22_ProbeHolds.j0, if_neg (by simp)]
    exact holds_l0 f r f1 f2 r1 r2 l1 _ (by omega) (vlist_length f r l1 false 0) l1.length 0 4999 false 0 (by omega) (by omega) rfl (by omega) (by simp; omega) (fun j hj => by omega)

end Go.Proofs.Ytfoaaglcanogpaa.Pure
