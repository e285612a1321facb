/- Plain facts: All and the reference's All come to the same, for at most 100000 bytes; the frames of few records. -/
import Derived.Test.YtjmbcdbnglconaaQFrameAllx1
import Derived.Test.YtjmbcdbnglconaaQFrameAllx2
import Derived.Test.YtjmbcdbnglconaaQFrameAllx3
import Derived.Test.YtjmbcdbnglconaaQFrameAllx4
import Derived.Test.YtjmbcdbnglconaaFrameMath
namespace Go.Proofs.Ytjmbcdbnglconaa.Pure
open Go.RowKit Go.Proofs.Ytjmbcdbnglconaa.QFrameAll Go.Proofs.YtjmbcdbnglconaaW.PrintWords Go.Proofs.YtjmbcdbnglconaaW.PrintLast Go.Proofs.YtjmbcdbnglconaaW.PrintMore Go.Proofs.Ytjmbcdbnglconaa.WM Go.Proofs.Ytjmbcdbnglconaa.FM
set_option linter.unusedVariables false
set_option linter.unusedSimpArgs false

/-! ### put, copied, Int -/
theorem put_l0 (f : Nat) : ∀ (k : Nat) (b : List Int) (u : Int), f < k → 0 ≤ u → u < 2 * 128 ^ f → b.length + f + 1 ≤ 140737488355328 →
    wire_put.l0 k b u = some (b ++ encN (f + 1) u) := by
  induction f with
  | zero =>
    intro k b u hk h0 h1 hb
    obtain ⟨k, rfl⟩ : ∃ m, k = m + 1 := ⟨k - 1, by omega⟩
    have hu : u < 2 := by simpa using h1
    simp only [wire_put.l0]
    rw [if_neg (by omega), if_pos (by omega), encN_small 0 (by omega)]
    have e : u % 256 = u := by omega
    rw [e]
  | succ f ih =>
    intro k b u hk h0 h1 hb
    obtain ⟨k, rfl⟩ : ∃ m, k = m + 1 := ⟨k - 1, by omega⟩
    simp only [wire_put.l0]
    by_cases h : 128 ≤ u
    · have hlt : u / 128 < 2 * 128 ^ f := by
        have e : (128 : Int) ^ (f + 1) = 128 ^ f * 128 := Int.pow_succ _ _
        rw [e] at h1
        omega
      have e : u % 256 % 128 = u % 128 := by omega
      rw [if_pos (by omega), if_pos (by omega), or_u8 (by omega) (by omega), e, ih k _ (u / 128) (by omega) (by omega) hlt (by simp; omega), encN_big (f + 1) h]
      simp
    · have e : u % 256 = u := by omega
      rw [if_neg (by omega), if_pos (by omega), encN_small (f + 1) h, e]
theorem put_f {k : Nat} {b : List Int} {n : Int} (hk : 10 ≤ k) (h : -9223372036854775808 ≤ n) (h2 : n ≤ 9223372036854775807) (hb : b.length + 10 ≤ 140737488355328) : wire_put.f k b n = some (b ++ int n) := by
  unfold wire_put.f
  have hc := code_range h h2
  have e : (2 : Int) * 128 ^ 9 = 18446744073709551616 := by decide
  rw [code_xor h h2, put_l0 9 k b (code n) (by omega) hc.1 (by omega) (by omega)]
  rfl
theorem copied_f {b : List Int} (hb : b.length < 140737488355328) : wire_copied.f b = some b := by
  unfold wire_copied.f
  rw [if_pos (by simpa using hb)]
  rfl
theorem Int_f {k : Nat} {b : List Int} {n : Int} (hk : 10 ≤ k) (h : -9223372036854775808 ≤ n) (h2 : n ≤ 9223372036854775807) (hb : b.length + 10 ≤ 140737488355328) : wire_Int.f k b n = some (b ++ int n) := by
  unfold wire_Int.f
  rw [copied_f (by omega), bs, put_f hk h h2 hb, bs]

/-! ### TakeInt -/
theorem take_value {i : Nat} (hi : i ≤ 9) {acc x : Int} (ha : 0 ≤ acc) (ha1 : acc < 128 ^ i) (h0 : 0 ≤ x) (h1 : x < 128) (h9 : i = 9 → x ≤ 1) :
    Go.bits .xor .i64 (wrap64 ((Go.bits .or .u64 acc (shl .u64 (IntKind.u64.wrap (x)) (wrap64 (7 * (i : Int))))) / 2)) (wrap64 (-(wrap64 (Go.bits .and .u64 (Go.bits .or .u64 acc (shl .u64 (IntKind.u64.wrap (x)) (wrap64 (7 * (i : Int))))) 1)))) = dec (acc + x * 128 ^ i) := by
  have hl := acc_last hi ha ha1 h0 h1 h9
  have e : IntKind.u64.wrap x = x := by rw [wrap_u64]; omega
  rw [e, wrap_7 hi, shl_7 hi h0 hl.1, or_7 hi ha ha1 h0 hl.1, dec_xor hl.2.1 hl.2.2]
theorem take_j1 {i : Nat} (hi : i ≤ 9) {acc x : Int} (ha : 0 ≤ acc) (ha1 : acc < 128 ^ i) (h0 : 0 ≤ x) (h1 : x < 128) (k : Nat) (fl : Bool) :
    wire_TakeInt.j1 (k + 1) acc (i : Int) x fl = if fl = true ∨ i = 9 ∧ 1 < x then some (0, 0, 18) else some (dec (acc + x * 128 ^ i), (i : Int) + 1, 0) := by
  simp only [wire_TakeInt.j1]
  cases fl with
  | true => simp
  | false =>
    have hw : wrap64 ((i : Int) + 1) = (i : Int) + 1 := wrap_id (by omega) (by omega)
    have h7 : 0 ≤ wrap64 (7 * (i : Int)) := by rw [wrap_7 hi]; omega
    rw [if_neg (by simp), hw]
    by_cases h9 : i = 9
    · rw [if_pos (by omega)]
      by_cases hx : x > 1
      · rw [if_pos hx, if_pos (Or.inr ⟨h9, hx⟩)]
      · rw [if_neg hx, if_pos h7, if_neg (by simp; omega), take_value hi ha ha1 h0 h1 (fun _ => by omega)]
    · rw [if_neg (by omega), if_pos h7, if_neg (by simp [h9]), take_value hi ha ha1 h0 h1 (fun h => absurd h h9)]
theorem scan_step {i : Nat} (hi : i ≤ 9) (c : Int) (l : List Int) (acc : Int) : scan (c :: l) i acc =
    if 128 ≤ c then scan l (i + 1) (acc + (c - 128) * 128 ^ i)
    else if 0 < i ∧ c = 0 ∨ i = 9 ∧ 1 < c then (0, 0, 18)
    else (dec (acc + c * 128 ^ i), (i : Int) + 1, 0) := by rw [scan, if_neg (show ¬i = 10 by omega)]
theorem take_l0 {l : List Int} (hb : Bytes l) (hl : l.length ≤ 140737488355328) (d : Nat) : ∀ (k i : Nat) (acc acc' : Int), i + d = 10 → d + 2 ≤ k → i ≤ l.length → (i < 10 → acc = acc' ∧ 0 ≤ acc ∧ acc < 128 ^ i) →
    wire_TakeInt.l0 k l acc l (l.length : Int) (i : Int) = some (scan (l.drop i) i acc') := by
  induction d with
  | zero =>
    intro k i acc acc' hi hk hil ha
    obtain ⟨k, rfl⟩ : ∃ m, k = m + 1 := ⟨k - 1, by omega⟩
    obtain rfl : i = 10 := by omega
    simp only [wire_TakeInt.l0]
    by_cases h : 10 < l.length
    · rw [List.drop_eq_getElem_cons h, scan, if_pos (show (10 : Nat) = 10 from rfl), if_pos (show ((10 : Nat) : Int) < (l.length : Int) by omega), if_pos (show (0 : Int) ≤ ((10 : Nat) : Int) by omega), if_pos (show ((10 : Nat) : Int) < (l.length : Int) by omega), if_pos (show ((10 : Nat) : Int) = 10 by omega)]
    · rw [List.drop_eq_nil_of_le (by omega), scan, if_pos (show (10 : Nat) ≤ 10 from Nat.le_refl _), if_neg (show ¬((10 : Nat) : Int) < (l.length : Int) by omega), if_pos (show (l.length : Int) ≥ 10 by omega)]
  | succ d ih =>
    intro k i acc acc' hi hk hil ha
    obtain ⟨k, rfl⟩ : ∃ m, k = m + 1 := ⟨k - 1, by omega⟩
    obtain ⟨rfl, ha0, ha1⟩ := ha (by omega)
    have hi9 : i ≤ 9 := by omega
    simp only [wire_TakeInt.l0]
    by_cases h : i < l.length
    · have hc := hb _ (List.getElem_mem h)
      rw [List.drop_eq_getElem_cons h, scan_step hi9, if_pos (show (i : Int) < (l.length : Int) by omega), if_pos (show (0 : Int) ≤ (i : Int) by omega), if_pos (show (i : Int) < (l.length : Int) by omega), if_neg (show ¬(i : Int) = 10 by omega), rd_nat l h]
      generalize l[i] = c at hc ⊢
      by_cases h1 : 128 ≤ c
      · have hw : wrap64 ((i : Int) + 1) = ((i + 1 : Nat) : Int) := by unfold wrap64; omega
        have e : (c - 128) % 256 = c - 128 := by omega
        rw [if_pos h1, if_pos (show c ≥ 128 from h1), if_pos (show 0 ≤ wrap64 (7 * (i : Int)) by rw [wrap_7 hi9]; omega), hw, e]
        refine ih k (i + 1) _ _ (by omega) (by omega) (by omega) (fun hi10 => ?_)
        have hs := small_7 (i := i) (by omega) (x := c - 128) (by omega) (by omega)
        have hu := acc_up ha0 ha1 (x := c - 128) (by omega) (by omega)
        rw [wrap_7 hi9, shl_7 hi9 (by omega) hs, or_7 hi9 ha0 ha1 (by omega) hs]
        exact ⟨rfl, hu⟩
      · obtain ⟨k, rfl⟩ : ∃ m, k = m + 1 := ⟨k - 1, by omega⟩
        rw [if_neg h1, if_neg (show ¬c ≥ 128 from h1)]
        by_cases h0 : 0 < i
        · rw [if_pos (show (i : Int) > 0 by omega), take_j1 hi9 ha0 ha1 hc.1 (by omega) k]
          by_cases hbad : 0 < i ∧ c = 0 ∨ i = 9 ∧ 1 < c
          · have hb2 : (c == 0) = true ∨ i = 9 ∧ 1 < c := by
              rcases hbad with h2 | h2
              · left; simp [h2.2]
              · right; exact h2
            rw [if_pos hbad, if_pos hb2]
          · have hb2 : ¬((c == 0) = true ∨ i = 9 ∧ 1 < c) := by
              intro h2
              refine hbad ?_
              rcases h2 with h2 | h2
              · left; exact ⟨h0, by simpa using h2⟩
              · right; exact h2
            rw [if_neg hbad, if_neg hb2]
        · have hbad : ¬(0 < i ∧ c = 0 ∨ i = 9 ∧ 1 < c) := by omega
          have hb2 : ¬(false = true ∨ i = 9 ∧ 1 < c) := by simp; omega
          rw [if_neg (show ¬(i : Int) > 0 by omega), take_j1 hi9 ha0 ha1 hc.1 (by omega) k, if_neg hbad, if_neg hb2]
    · rw [List.drop_eq_nil_of_le (by omega), scan, if_neg (show ¬10 ≤ i by omega), if_neg (show ¬(i : Int) < (l.length : Int) by omega), if_neg (show ¬(l.length : Int) ≥ 10 by omega)]
theorem TakeInt_f {k : Nat} {l : List Int} (hb : Bytes l) (hl : l.length ≤ 140737488355328) (hk : 12 ≤ k) : wire_TakeInt.f k l = some (take l) := by
  have := take_l0 hb hl 10 k 0 0 0 (by omega) (by omega) (by omega) (fun _ => ⟨rfl, by omega, by simp⟩)
  simpa [wire_TakeInt.f, take] using this

/-! ### SameBytes -/
theorem Same_f {l m : List Int} (hl : Bytes l) (hm : Bytes m) : cellplaneref01_SameBytes.f l m = some (decide (l = m)) := by
  unfold cellplaneref01_SameBytes.f
  rw [str_same hl hm]

/-! ### the reference's Int -/
theorem refcode_f {n : Int} (h : -9223372036854775808 ≤ n) (h2 : n ≤ 9223372036854775807) : cellplaneref01_code.f n = some (code n) := by
  unfold cellplaneref01_code.f code
  by_cases h0 : 0 ≤ n
  · have e : IntKind.u64.wrap (2 * IntKind.u64.wrap n) = 2 * n := by rw [wrap_u64, wrap_u64]; omega
    rw [if_pos h0, if_pos h0, e]
  · have e0 : wrap64 (-wrap64 (n + 1)) = -(n + 1) := by rw [wrap_id (a := n + 1) (by omega) (by omega), wrap_id (by omega) (by omega)]
    have e : IntKind.u64.wrap (IntKind.u64.wrap (2 * IntKind.u64.wrap (wrap64 (-wrap64 (n + 1)))) + 1) = -2 * n - 1 := by rw [e0, wrap_u64, wrap_u64, wrap_u64]; omega
    rw [if_neg (by omega), if_neg h0, e]
theorem refint_l0 (f : Nat) : ∀ (k : Nat) (b : List Int) (u : Int), f < k → 0 ≤ u → u < 2 * 128 ^ f → f ≤ 9 → b.length + f + 1 ≤ 140737488355328 →
    cellplaneref01_Int.l0 k b u = some (b ++ encN (f + 1) u) := by
  induction f with
  | zero =>
    intro k b u hk h0 h1 hf hb
    obtain ⟨k, rfl⟩ : ∃ m, k = m + 1 := ⟨k - 1, by omega⟩
    have hu : u < 2 := by simpa using h1
    simp only [cellplaneref01_Int.l0]
    rw [if_neg (by omega), if_pos (by omega), encN_small 0 (by omega)]
    have e : u % 256 = u := by omega
    rw [e]
  | succ f ih =>
    intro k b u hk h0 h1 hf hb
    obtain ⟨k, rfl⟩ : ∃ m, k = m + 1 := ⟨k - 1, by omega⟩
    simp only [cellplaneref01_Int.l0]
    by_cases h : 128 ≤ u
    · have hlt : u / 128 < 2 * 128 ^ f := by
        have e : (128 : Int) ^ (f + 1) = 128 ^ f * 128 := Int.pow_succ _ _
        rw [e] at h1
        omega
      have hbig : u < 18446744073709551616 := by
        have h2 := pow_128_le (show f + 1 ≤ 9 by omega)
        have e9 : (128 : Int) ^ 9 = 9223372036854775808 := by decide
        omega
      have e1 : Int.tmod u 128 = u % 128 := by rw [Int.tmod_eq_emod_of_nonneg h0]
      have e2 : IntKind.u64.wrap (Int.tdiv u 128) = u / 128 := by
        rw [Int.tdiv_eq_ediv_of_nonneg h0, wrap_u64]
        omega
      have e3 : (u % 128 + 128) % 256 = u % 128 + 128 := by omega
      rw [if_pos (by omega), if_pos (by omega), e1, e2, e3, ih k _ (u / 128) (by omega) (by omega) hlt (by omega) (by simp; omega), encN_big (f + 1) h]
      simp
    · have e : u % 256 = u := by omega
      rw [if_neg (by omega), if_pos (by omega), encN_small (f + 1) h, e]
theorem refInt_f {k : Nat} {b : List Int} {n : Int} (hk : 10 ≤ k) (h : -9223372036854775808 ≤ n) (h2 : n ≤ 9223372036854775807) (hb : b.length + 10 ≤ 140737488355328) : cellplaneref01_Int.f k b n = some (b ++ int n) := by
  unfold cellplaneref01_Int.f
  have hc := code_range h h2
  have e : (2 : Int) * 128 ^ 9 = 18446744073709551616 := by decide
  rw [bs, if_pos (by simp; omega), refcode_f h h2, bs, List.nil_append, refint_l0 9 k b (code n) (by omega) hc.1 (by omega) (by omega) (by omega)]
  rfl

/-! ### the reference's TakeInt -/
theorem refdec {u : Int} (h : 0 ≤ u) (h2 : u < 18446744073709551616) :
    (if Int.tmod u 2 = 0 then some (wrap64 (IntKind.u64.wrap (Int.tdiv u 2))) else some (wrap64 ((wrap64 (-(wrap64 (IntKind.u64.wrap (Int.tdiv u 2))))) - 1))) = some (dec u) := by
  rw [Int.tmod_eq_emod_of_nonneg h, Int.tdiv_eq_ediv_of_nonneg h]
  have e : IntKind.u64.wrap (u / 2) = u / 2 := by rw [wrap_u64]; omega
  rw [e, wrap_id (a := u / 2) (by omega) (by omega), wrap_id (a := -(u / 2)) (by omega) (by omega), wrap_id (a := -(u / 2) - 1) (by omega) (by omega)]
  unfold dec
  by_cases hu : u % 2 = 0
  · rw [if_pos hu, if_pos hu]
  · rw [if_neg hu, if_neg hu]
theorem reftake_j1 {l : List Int} {i : Nat} (hil : i < l.length) (hi : i ≤ 9) {acc : Int} (ha : 0 ≤ acc) (ha1 : acc < 128 ^ i) (h0 : 0 ≤ l[i]) (h1 : l[i] < 128) (h9 : i = 9 → l[i] ≤ 1) (k : Nat) :
    cellplaneref01_TakeInt.j1 (k + 1) l acc (i : Int) false = some (dec (acc + l[i] * 128 ^ i), (i : Int) + 1, 0) := by
  rw [cellplaneref01_TakeInt.j1]
  have hw : wrap64 ((i : Int) + 1) = (i : Int) + 1 := wrap_id (by omega) (by omega)
  have hl := acc_last hi ha ha1 h0 h1 h9
  have e : IntKind.u64.wrap l[i] = l[i] := by rw [wrap_u64]; omega
  have hd := refdec hl.2.1 hl.2.2
  rw [if_neg (show ¬false = true by simp), if_pos (show (0 : Int) ≤ (i : Int) by omega), if_pos (show (i : Int) < (l.length : Int) by omega), wrap_7u hi, if_pos (show (0 : Int) ≤ ((7 * i : Nat) : Int) by omega), rd_nat l hil, e, shl_7 hi h0 hl.1, or_7 hi ha ha1 h0 hl.1, hw]
  by_cases hu : Int.tmod (acc + l[i] * 128 ^ i) 2 = 0
  · rw [if_pos hu] at hd ⊢
    rw [Option.some.inj hd]
  · rw [if_neg hu] at hd ⊢
    rw [Option.some.inj hd]
theorem reftake_bad {l : List Int} {i : Int} {acc : Int} (k : Nat) : cellplaneref01_TakeInt.j1 (k + 1) l acc i true = some (0, 0, 18) := by
  rw [cellplaneref01_TakeInt.j1]
  rw [if_pos (show true = true from rfl)]
theorem reftake_l0 {l : List Int} (hb : Bytes l) (hl : l.length ≤ 140737488355328) (d : Nat) : ∀ (k i : Nat) (acc acc' : Int), i + d = 10 → d + 2 ≤ k → i ≤ l.length → (i < 10 → acc = acc' ∧ 0 ≤ acc ∧ acc < 128 ^ i) →
    cellplaneref01_TakeInt.l0 k l acc (i : Int) = some (scan (l.drop i) i acc') := by
  induction d with
  | zero =>
    intro k i acc acc' hi hk hil ha
    obtain ⟨k, rfl⟩ : ∃ m, k = m + 1 := ⟨k - 1, by omega⟩
    obtain rfl : i = 10 := by omega
    simp only [cellplaneref01_TakeInt.l0]
    rw [if_neg (show ¬((10 : Nat) : Int) < 10 by omega)]
    by_cases h : 10 < l.length
    · rw [List.drop_eq_getElem_cons h, scan, if_pos (show (10 : Nat) = 10 from rfl)]
    · rw [List.drop_eq_nil_of_le (by omega), scan, if_pos (show (10 : Nat) ≤ 10 from Nat.le_refl _)]
  | succ d ih =>
    intro k i acc acc' hi hk hil ha
    obtain ⟨k, rfl⟩ : ∃ m, k = m + 1 := ⟨k - 1, by omega⟩
    obtain ⟨rfl, ha0, ha1⟩ := ha (by omega)
    have hi9 : i ≤ 9 := by omega
    simp only [cellplaneref01_TakeInt.l0]
    rw [if_pos (show (i : Int) < 10 by omega)]
    by_cases h : i < l.length
    · have hc := hb _ (List.getElem_mem h)
      rw [List.drop_eq_getElem_cons h, scan_step hi9, if_neg (show ¬(i : Int) = (l.length : Int) by omega), if_pos (show (0 : Int) ≤ (i : Int) by omega), if_pos (show (i : Int) < (l.length : Int) by omega), rd_nat l h]
      by_cases h1 : 128 ≤ l[i]
      · have hw : wrap64 ((i : Int) + 1) = ((i + 1 : Nat) : Int) := by unfold wrap64; omega
        have e : (l[i] - 128) % 256 = l[i] - 128 := by omega
        rw [if_pos h1, if_neg (show ¬l[i] < 128 by omega), wrap_7u hi9, if_pos (show (0 : Int) ≤ ((7 * i : Nat) : Int) by omega), hw, e]
        refine ih k (i + 1) _ _ (by omega) (by omega) (by omega) (fun hi10 => ?_)
        have hs := small_7 (i := i) (by omega) (x := l[i] - 128) (by omega) (by omega)
        have hu := acc_up ha0 ha1 (x := l[i] - 128) (by omega) (by omega)
        rw [shl_7 hi9 (by omega) hs, or_7 hi9 ha0 ha1 (by omega) hs]
        exact ⟨rfl, hu⟩
      · obtain ⟨k, rfl⟩ : ∃ m, k = m + 1 := ⟨k - 1, by omega⟩
        rw [if_neg h1, if_pos (show l[i] < 128 by omega)]
        have last : (i = 9 → l[i] ≤ 1) → cellplaneref01_TakeInt.j1 (k + 1) l acc (i : Int) false = some (dec (acc + l[i] * 128 ^ i), (i : Int) + 1, 0) := fun h9 => reftake_j1 h hi9 ha0 ha1 hc.1 (by omega) h9 k
        by_cases h0 : 0 < i
        · rw [if_pos (show (i : Int) > 0 by omega)]
          by_cases hz : l[i] = 0
          · rw [if_pos hz, if_pos (show 0 < i ∧ l[i] = 0 ∨ i = 9 ∧ 1 < l[i] from Or.inl ⟨h0, hz⟩), reftake_bad]
          · rw [if_neg hz]
            by_cases h9 : i = 9
            · rw [if_pos (show (i : Int) = 9 by omega)]
              by_cases hx : 1 < l[i]
              · rw [decide_eq_true (show l[i] > 1 from hx), if_pos (show 0 < i ∧ l[i] = 0 ∨ i = 9 ∧ 1 < l[i] from Or.inr ⟨h9, hx⟩), reftake_bad]
              · rw [decide_eq_false (show ¬l[i] > 1 from hx), if_neg (show ¬(0 < i ∧ l[i] = 0 ∨ i = 9 ∧ 1 < l[i]) by omega), last (fun _ => by omega)]
            · rw [if_neg (show ¬(i : Int) = 9 by omega), if_neg (show ¬(0 < i ∧ l[i] = 0 ∨ i = 9 ∧ 1 < l[i]) by omega), last (fun h => absurd h h9)]
        · rw [if_neg (show ¬(i : Int) > 0 by omega), if_neg (show ¬(i : Int) = 9 by omega), if_neg (show ¬(0 < i ∧ l[i] = 0 ∨ i = 9 ∧ 1 < l[i]) by omega), last (fun h => by omega)]
    · rw [List.drop_eq_nil_of_le (by omega), scan, if_neg (show ¬10 ≤ i by omega), if_pos (show (i : Int) = (l.length : Int) by omega)]
theorem refTakeInt_f {k : Nat} {l : List Int} (hb : Bytes l) (hl : l.length ≤ 140737488355328) (hk : 12 ≤ k) : cellplaneref01_TakeInt.f k l = some (take l) := by
  have := reftake_l0 hb hl 10 k 0 0 0 (by omega) (by omega) (by omega) (fun _ => ⟨rfl, by omega, by simp⟩)
  simpa [cellplaneref01_TakeInt.f, take] using this

/-! ### the sum -/
theorem mixf (a b : Int) : digest_Mix.f a b = some (M.mix a b) := by rw [digest_Mix.f, M.mix]
theorem byte_at {l : List Int} (hb : Bytes l) {i : Nat} (hi : i < l.length) : 0 ≤ l[i] ∧ l[i] ≤ 255 := hb _ (List.getElem_mem hi)
theorem wrap_rd {l : List Int} (hb : Bytes l) {i : Nat} (hi : i < l.length) : wrap64 (rd l (i : Int)) = l[i] := by
  have := byte_at hb hi
  rw [rd_nat l hi]
  unfold wrap64
  omega
theorem wrap_up {i : Nat} (hi : i ≤ 140737488355328) : wrap64 ((i : Int) + 1) = ((i + 1 : Nat) : Int) := by
  unfold wrap64
  omega
theorem bytes_l0 (l x1 : List Int) (hb : Bytes l) (hl : l.length ≤ 140737488355328) (d : Nat) :
    ∀ (k : Nat) (h : Int) (i : Nat), i ≤ l.length → l.length - i = d → d < k →
      digest_bytes.l0 k h x1 l (l.length : Int) (i : Int) = some (M.mix (M.many h (l.drop i)) x1.length) := by
  induction d with
  | zero =>
    intro k h i h1 hd hk
    obtain ⟨k, rfl⟩ : ∃ m, k = m + 1 := ⟨k - 1, by omega⟩
    have e : i = l.length := by omega
    simp only [digest_bytes.l0]
    rw [if_neg (by omega), mixf, e]
    simp [M.many]
  | succ d ih =>
    intro k h i h1 hd hk
    obtain ⟨k, rfl⟩ : ∃ m, k = m + 1 := ⟨k - 1, by omega⟩
    have hi : i < l.length := by omega
    simp only [digest_bytes.l0]
    rw [if_pos (by omega), if_pos (by omega), if_pos (by omega), mixf, wrap_rd hb hi, wrap_up (by omega), bs, ih k _ (i + 1) (by omega) (by omega) (by omega), List.drop_eq_getElem_cons hi]
    rfl
theorem Sum_f {l : List Int} (hb : Bytes l) (hl : l.length ≤ 140737488355328) {k : Nat} (hk : l.length < k) (key : Int) : digest_Sum.f k key l = some (sumOf key l) := by
  unfold digest_Sum.f digest_bytes.f
  have := bytes_l0 l l hb hl l.length k (M.mix 14695981039346656037 key) 0 (by omega) (by omega) hk
  rw [List.drop_zero] at this
  have e : digest_bytes.l0 k (M.mix 14695981039346656037 key) l l (l.length : Int) 0 = digest_bytes.l0 k (M.mix 14695981039346656037 key) l l (l.length : Int) ((0 : Nat) : Int) := rfl
  rw [mixf, bs, e, this, bs]
  rfl

/-! ### Put -/
theorem fput_l0 {p : List Int} {s : Int} (d : Nat) : ∀ (k i : Nat) (out : List Int), i + d = 8 → d < k → out.length + d + p.length < 140737488355328 →
    frame_Put.l0 k p out s (i : Int) = some (out ++ (eightN d (s / 256 ^ i) ++ p)) := by
  induction d with
  | zero =>
    intro k i out hi hk hl
    obtain ⟨k, rfl⟩ : ∃ m, k = m + 1 := ⟨k - 1, by omega⟩
    simp only [frame_Put.l0]
    rw [if_neg (show ¬(i : Int) < 8 by omega), if_pos (by omega)]
    rfl
  | succ d ih =>
    intro k i out hi hk hl
    obtain ⟨k, rfl⟩ : ∃ m, k = m + 1 := ⟨k - 1, by omega⟩
    simp only [frame_Put.l0]
    have e : s / 256 ^ i / 256 = s / 256 ^ (i + 1) := by rw [Int.pow_succ, Int.ediv_ediv_of_nonneg (Int.le_of_lt (pow_256_pos i))]
    rw [if_pos (show (i : Int) < 8 by omega), wrap_8 (by omega), if_pos (show (0 : Int) ≤ ((8 * i : Nat) : Int) by omega), if_pos (by omega), shr_8 (by omega), wrap_up (by omega), ih k (i + 1) _ (by omega) (by omega) (by simp; omega)]
    simp only [eightN, List.append_assoc, List.singleton_append, e]
    rfl
/-- What Put appends. -/
def put (key : Int) (p : List Int) : List Int := if (p.length : Int) > 65536 then [] else fr key p
theorem put_len (key : Int) (p : List Int) : (put key p).length ≤ 65554 := by
  unfold put
  split
  · simp
  · have := (int_len (p.length : Int)).1
    rw [fr_len]
    omega
theorem Put_f {k : Nat} {b p : List Int} {key : Int} (hp : Bytes p) (hk : 65560 ≤ k) (hb : b.length ≤ 140737488280000) : frame_Put.f k b key p = some (b ++ put key p) := by
  unfold frame_Put.f put
  by_cases h : (p.length : Int) > 65536
  · rw [if_pos h, if_pos h, if_pos (by simp; omega), List.nil_append, List.append_nil]
  · have h10 := (int_len (p.length : Int)).1
    rw [if_neg h, if_neg h, Int_f (by omega) (by omega) (by omega) (by omega), bs, Sum_f hp (by omega) (by omega), bs]
    have := fput_l0 (p := p) (s := sumOf key p) 8 k 0 (b ++ int (p.length : Int)) (by omega) (by omega) (by rw [List.length_append]; omega)
    have e : frame_Put.l0 k p (b ++ int (p.length : Int)) (sumOf key p) 0 = frame_Put.l0 k p (b ++ int (p.length : Int)) (sumOf key p) ((0 : Nat) : Int) := rfl
    have e1 : sumOf key p / 256 ^ 0 = sumOf key p := by simp
    rw [e, this, e1, List.append_assoc]
    rfl
theorem put_small {key : Int} {p : List Int} (h : p.length ≤ 65536) : put key p = fr key p := by unfold put; rw [if_neg (by omega)]
theorem put_bytes {key : Int} {p : List Int} (hp : Bytes p) : Bytes (put key p) := by
  unfold put
  split
  · exact Bytes.nil
  · exact fr_bytes hp (by omega)

/-! ### Take -/
theorem number_l0 {q : List Int} (hb : Bytes q) (hq : q.length = 8) (d : Nat) : ∀ (k i : Nat) (acc : Int), i + d = 8 → d < k → 0 ≤ acc → acc < 256 ^ i →
    frame_number.l0 k acc q (q.length : Int) (i : Int) = some (acc + 256 ^ i * num (q.drop i)) := by
  induction d with
  | zero =>
    intro k i acc hi hk h0 h1
    obtain ⟨k, rfl⟩ : ∃ m, k = m + 1 := ⟨k - 1, by omega⟩
    simp only [frame_number.l0]
    rw [if_neg (show ¬(i : Int) < (q.length : Int) by omega), List.drop_eq_nil_of_le (by omega)]
    simp [num]
  | succ d ih =>
    intro k i acc hi hk h0 h1
    obtain ⟨k, rfl⟩ : ∃ m, k = m + 1 := ⟨k - 1, by omega⟩
    have hlt : i < q.length := by omega
    have hx := byte_at hb hlt
    have e : IntKind.u64.wrap q[i] = q[i] := by rw [wrap_u64]; omega
    have hu := acc_8 h0 h1 hx.1 hx.2
    simp only [frame_number.l0]
    rw [if_pos (show (i : Int) < (q.length : Int) by omega), if_pos (show (0 : Int) ≤ (i : Int) by omega), if_pos (show (i : Int) < (q.length : Int) by omega), wrap_8 (by omega), if_pos (show (0 : Int) ≤ ((8 * i : Nat) : Int) by omega), rd_nat q hlt, e, shl_8 (by omega) hx.1 hx.2, or_8 (by omega) h0 h1 hx.1 hx.2, wrap_up (by omega), ih k (i + 1) _ (by omega) (by omega) hu.1 hu.2, List.drop_eq_getElem_cons hlt]
    simp only [num]
    congr 1
    rw [Int.mul_add, Int.pow_succ, ← Int.mul_assoc, Int.mul_comm q[i]]
    omega
theorem number_f {k : Nat} {b : List Int} (hb : Bytes b) (h8 : 8 ≤ b.length) (hk : 8 < k) : frame_number.f k b = some (num (b.take 8)) := by
  unfold frame_number.f
  have hl : (b.take 8).length = 8 := by rw [List.length_take]; omega
  have := number_l0 (hb.take 8) hl 8 k 0 0 (by omega) (by omega) (by omega) (by simp)
  rw [if_pos (by omega)]
  have e : frame_number.l0 k 0 (b.take 8) ((b.take 8).length : Int) 0 = frame_number.l0 k 0 (b.take 8) ((b.take 8).length : Int) ((0 : Nat) : Int) := rfl
  rw [e, this]
  simp
theorem aux_end {k n L : Int} (h : 0 ≤ k) (hk : k ≤ 140737488355328) (hn : 0 ≤ n) (hn2 : n ≤ 65536) (hL : 0 ≤ L) (hL2 : L ≤ 140737488355328) :
    wrap64 (L - k) = L - k ∧ wrap64 (8 + n) = n + 8 ∧ wrap64 (n + 8) = n + 8 ∧ wrap64 (k + 8) = k + 8 ∧ wrap64 (k + 8 + n) = k + 8 + n := by
  unfold wrap64
  omega
theorem aux_cut {b : List Int} {j : Nat} {n : Int} (n0 : ¬n < 0) (hs : ¬(b.length : Int) - (j : Int) < n + 8) : ((b.drop (j + 8)).take n.toNat).length = n.toNat := by
  rw [List.length_take, List.length_drop]
  omega
theorem cut_is (b : List Int) {k n : Int} (hk : 0 ≤ k) (hn : 0 ≤ n) : (b.take (k + 8 + n).toNat).drop (k + 8).toNat = (b.drop (k.toNat + 8)).take n.toNat := by
  rw [List.drop_take]
  have e1 : (k + 8).toNat = k.toNat + 8 := by omega
  have e2 : (k + 8 + n).toNat - (k.toNat + 8) = n.toNat := by omega
  rw [e1, e2]
theorem fTake_f {k : Nat} {b : List Int} {key : Int} (hb : Bytes b) (hl : b.length ≤ 140737488355328) (hk : 65560 ≤ k) : frame_Take.f k b key = some (ftake key b) := by
  unfold frame_Take.f ftake
  rw [TakeInt_f hb hl (by omega), bs]
  have ht : take b = ((take b).1, (take b).2.1, (take b).2.2) := rfl
  generalize hn : (take b).1 = n at ht ⊢
  generalize hu : (take b).2.1 = u at ht ⊢
  generalize he : (take b).2.2 = e at ht ⊢
  rcases take_is hb ht with ⟨rfl, hr, j, rfl, h1, hj, hjl⟩ | ⟨rfl, rfl, h17⟩
  · rw [if_pos rfl, if_pos rfl]
    by_cases n0 : n < 0
    · rw [if_pos n0, if_pos n0]
    · rw [if_neg n0, if_neg n0]
      by_cases nb : n > 65536
      · rw [if_pos nb, if_pos nb]
      · have a1 : (0 : Int) ≤ (j : Int) := by omega
        have a2 : (j : Int) ≤ 140737488355328 := by omega
        have a3 : 0 ≤ n := by omega
        have a4 : n ≤ 65536 := by omega
        have a5 : (0 : Int) ≤ (b.length : Int) := by omega
        have a6 : (b.length : Int) ≤ 140737488355328 := by omega
        by_cases hs : (b.length : Int) - (j : Int) < n + 8
        · have hw := aux_end a1 a2 a3 a4 a5 a6
          rw [if_neg nb, if_neg nb, hw.1, hw.2.1, if_pos hs, if_pos hs]
        · have hd : Bytes (b.drop j) := hb.drop j
          have hp : Bytes ((b.drop (j + 8)).take n.toNat) := (hb.drop _).take _
          have hpl : ((b.drop (j + 8)).take n.toNat).length = n.toNat := aux_cut n0 hs
          have c1 : (0 : Int) ≤ (j : Int) + 8 := by omega
          have c2 : (j : Int) + 8 ≤ (j : Int) + 8 + n := by omega
          have c3 : (j : Int) + 8 + n ≤ (b.length : Int) := by omega
          have c4 : (0 : Int) ≤ (j : Int) := by omega
          have c5 : (j : Int) ≤ (b.length : Int) := by omega
          have c6 : 0 ≤ n := by omega
          have c7 : 8 ≤ (b.drop j).length := by rw [List.length_drop]; omega
          have c8 : ((b.drop (j + 8)).take n.toNat).length ≤ 140737488355328 := by rw [hpl]; omega
          have c9 : ((b.drop (j + 8)).take n.toNat).length < k := by rw [hpl]; omega
          have c10 : ([] : List Int).length + ((b.drop (j + 8)).take n.toNat).length < 140737488355328 := by rw [List.length_nil, hpl]; omega
          have hnum := number_f (k := k) hd c7 (by omega)
          have hsm := Sum_f hp c8 c9 key
          have hw := aux_end a1 a2 a3 a4 a5 a6
          rw [if_neg nb, if_neg nb, hw.1, hw.2.1, hw.2.2.2.1, hw.2.2.2.2, if_neg hs, if_neg hs, if_pos c1, if_pos c2, if_pos c3, if_pos c4, if_pos c5, cut_is b c4 c6, Int.toNat_natCast, hnum, bs, hsm, bs]
          by_cases hsum : num ((b.drop j).take 8) = sumOf key ((b.drop (j + 8)).take n.toNat)
          · rw [if_pos hsum, if_pos hsum, if_pos c10, List.nil_append]
          · rw [if_neg hsum, if_neg hsum]
  · rw [if_neg (by omega), if_neg (by omega)]

/-! ### the sanity check -/
theorem awake_f {k : Nat} (hk : 65560 ≤ k) : cellplanelaw03_awake.f k = some true := by
  have hb : Bytes [7] := fun x hx => by simp at hx; omega
  have i1 : int 1 = [2] := by decide +kernel
  have hlen : (fr 5 [7]).length = 10 := by rw [fr_len]; show (int 1).length + 8 + 1 = 10; rw [i1]; rfl
  have hfb : Bytes (fr 5 [7]) := fr_bytes hb (by simp)
  have hm : mx (wrap64 (((fr 5 [7]).length : Int) - 1)) 0 = 9 := by rw [hlen]; decide +kernel
  have t1 := ftake_fr (key := 5) (p := [7]) (by simp) []
  rw [List.append_nil, hlen] at t1
  have t2 := ftake_cut (a := 5) (key := 5) (p := [7]) (by simp) (j := 9) (by rw [hlen]; omega)
  unfold cellplanelaw03_awake.f
  rw [Put_f hb (by omega) (by simp), bs, List.nil_append, put_small (by simp), fTake_f hfb (by omega) hk, bs, hm, if_pos (by omega), if_pos (by rw [hlen]; omega)]
  show (frame_Take.f k ((fr 5 [7]).take 9) 5).bind _ = _
  rw [fTake_f (hfb.take 9) (by rw [List.length_take]; omega) hk, bs, t1, t2, hlen]
  rfl

/-! ### the reference's sum -/
theorem refmixf (a b : Int) : cellplaneref02_Mix.f a b = some (M.mix a b) := by rw [cellplaneref02_Mix.f, M.mix]
theorem all_l0 (l : List Int) (hb : Bytes l) (hl : l.length ≤ 140737488355328) (d : Nat) :
    ∀ (k : Nat) (h : Int) (i : Nat), i ≤ l.length → l.length - i = d → d < k →
      cellplaneref02_all.l0 k h l (i : Int) = some (M.mix (M.many h (l.drop i)) l.length) := by
  induction d with
  | zero =>
    intro k h i h1 hd hk
    obtain ⟨k, rfl⟩ : ∃ m, k = m + 1 := ⟨k - 1, by omega⟩
    have e : i = l.length := by omega
    simp only [cellplaneref02_all.l0]
    rw [if_neg (by omega), refmixf, e]
    simp [M.many]
  | succ d ih =>
    intro k h i h1 hd hk
    obtain ⟨k, rfl⟩ : ∃ m, k = m + 1 := ⟨k - 1, by omega⟩
    have hi : i < l.length := by omega
    simp only [cellplaneref02_all.l0]
    rw [if_pos (by omega), if_pos (by omega), refmixf, wrap_rd hb hi, wrap_up (by omega), bs, ih k _ (i + 1) (by omega) (by omega) (by omega), List.drop_eq_getElem_cons hi]
    rfl
theorem refSum_f {l : List Int} (hb : Bytes l) (hl : l.length ≤ 140737488355328) {k : Nat} (hk : l.length < k) (key : Int) : cellplaneref02_Sum.f k key l = some (sumOf key l) := by
  unfold cellplaneref02_Sum.f cellplaneref02_all.f
  have := all_l0 l hb hl l.length k (M.mix 14695981039346656037 key) 0 (by omega) (by omega) hk
  rw [List.drop_zero] at this
  have e : cellplaneref02_all.l0 k (M.mix 14695981039346656037 key) l 0 = cellplaneref02_all.l0 k (M.mix 14695981039346656037 key) l ((0 : Nat) : Int) := rfl
  rw [refmixf, bs, e, this, bs]
  rfl

/-! ### the reference's Put -/
theorem eight_l0 {s : Int} (d : Nat) : ∀ (k i : Nat) (out : List Int), i + d = 8 → d < k → out.length + d < 140737488355328 →
    cellplaneref02_Eight.l0 k s out (i : Int) = some (out ++ eightN d (s / 256 ^ i)) := by
  induction d with
  | zero =>
    intro k i out hi hk hl
    obtain ⟨k, rfl⟩ : ∃ m, k = m + 1 := ⟨k - 1, by omega⟩
    simp only [cellplaneref02_Eight.l0]
    rw [if_neg (show ¬(i : Int) < 8 by omega)]
    simp [eightN]
  | succ d ih =>
    intro k i out hi hk hl
    obtain ⟨k, rfl⟩ : ∃ m, k = m + 1 := ⟨k - 1, by omega⟩
    simp only [cellplaneref02_Eight.l0]
    have e : s / 256 ^ i / 256 = s / 256 ^ (i + 1) := by rw [Int.pow_succ, Int.ediv_ediv_of_nonneg (Int.le_of_lt (pow_256_pos i))]
    rw [if_pos (show (i : Int) < 8 by omega), wrap_8u (by omega), if_pos (show (0 : Int) ≤ ((8 * i : Nat) : Int) by omega), if_pos (by omega), shr_8 (by omega), wrap_up (by omega), ih k (i + 1) _ (by omega) (by omega) (by simp; omega)]
    simp only [eightN, List.append_assoc, List.singleton_append, e]
theorem Eight_f {k : Nat} {b : List Int} {s : Int} (hk : 8 < k) (hb : b.length + 8 < 140737488355328) : cellplaneref02_Eight.f k b s = some (b ++ eight s) := by
  unfold cellplaneref02_Eight.f
  have := eight_l0 (s := s) 8 k 0 b (by omega) (by omega) (by omega)
  have e : cellplaneref02_Eight.l0 k s b 0 = cellplaneref02_Eight.l0 k s b ((0 : Nat) : Int) := rfl
  have e1 : s / 256 ^ 0 = s := by simp
  rw [bs, if_pos (by simp; omega), List.nil_append, e, this, e1]
  rfl
theorem refPut_f {k : Nat} {b p : List Int} {key : Int} (hp : Bytes p) (hk : 65560 ≤ k) (hb : b.length ≤ 140737488280000) : cellplaneref03_Put.f k b key p = some (b ++ put key p) := by
  unfold cellplaneref03_Put.f put
  by_cases h : (p.length : Int) > 65536
  · rw [if_pos h, if_pos h, bs, if_pos (by simp; omega), List.nil_append, List.append_nil]
  · have h10 := (int_len (p.length : Int)).1
    rw [if_neg h, if_neg h, refInt_f (by omega) (by omega) (by omega) (by omega), bs, refSum_f hp (by omega) (by omega), bs, Eight_f (by omega) (by rw [List.length_append]; omega), bs, if_pos (by rw [List.length_append, List.length_append, eight_len]; omega)]
    simp [fr]

/-! ### the reference's Take -/
theorem back_l0 {q : List Int} (hb : Bytes q) (hq : q.length = 8) (d : Nat) : ∀ (k i : Nat) (acc : Int), i + d = 8 → d < k → 0 ≤ acc → acc < 256 ^ i →
    cellplaneref02_Back.l0 k q acc (i : Int) = some (acc + 256 ^ i * num (q.drop i)) := by
  induction d with
  | zero =>
    intro k i acc hi hk h0 h1
    obtain ⟨k, rfl⟩ : ∃ m, k = m + 1 := ⟨k - 1, by omega⟩
    simp only [cellplaneref02_Back.l0]
    rw [if_neg (show ¬(i : Int) < 8 by omega), List.drop_eq_nil_of_le (by omega)]
    simp [num]
  | succ d ih =>
    intro k i acc hi hk h0 h1
    obtain ⟨k, rfl⟩ : ∃ m, k = m + 1 := ⟨k - 1, by omega⟩
    have hlt : i < q.length := by omega
    have hx := byte_at hb hlt
    have e : IntKind.u64.wrap q[i] = q[i] := by rw [wrap_u64]; omega
    have hu := acc_8 h0 h1 hx.1 hx.2
    simp only [cellplaneref02_Back.l0]
    rw [if_pos (show (i : Int) < 8 by omega), if_pos (show (i : Int) < (q.length : Int) by omega), if_pos (show (0 : Int) ≤ (i : Int) by omega), wrap_8u (by omega), if_pos (show (0 : Int) ≤ ((8 * i : Nat) : Int) by omega), rd_nat q hlt, e, shl_8 (by omega) hx.1 hx.2, or_8 (by omega) h0 h1 hx.1 hx.2, wrap_up (by omega), ih k (i + 1) _ (by omega) (by omega) hu.1 hu.2, List.drop_eq_getElem_cons hlt]
    simp only [num]
    congr 1
    rw [Int.mul_add, Int.pow_succ, ← Int.mul_assoc, Int.mul_comm q[i]]
    omega
theorem Back_f {k : Nat} {q : List Int} (hb : Bytes q) (hq : q.length = 8) (hk : 8 < k) : cellplaneref02_Back.f k q = some (num q) := by
  unfold cellplaneref02_Back.f
  have := back_l0 hb hq 8 k 0 0 (by omega) (by omega) (by omega) (by simp)
  have e : cellplaneref02_Back.l0 k q 0 0 = cellplaneref02_Back.l0 k q 0 ((0 : Nat) : Int) := rfl
  rw [e, this]
  simp
theorem refTake_f {k : Nat} {b : List Int} {key : Int} (hb : Bytes b) (hl : b.length ≤ 140737488355328) (hk : 65560 ≤ k) : cellplaneref03_Take.f k b key = some (ftake key b) := by
  unfold cellplaneref03_Take.f ftake
  rw [refTakeInt_f hb hl (by omega), bs]
  have ht : take b = ((take b).1, (take b).2.1, (take b).2.2) := rfl
  generalize hn : (take b).1 = n at ht ⊢
  generalize hu : (take b).2.1 = u at ht ⊢
  generalize he : (take b).2.2 = e at ht ⊢
  rcases take_is hb ht with ⟨rfl, hr, j, rfl, h1, hj, hjl⟩ | ⟨rfl, rfl, h17⟩
  · rw [if_pos rfl, if_pos rfl]
    by_cases n0 : n < 0
    · rw [if_pos n0, if_pos n0]
    · rw [if_neg n0, if_neg n0]
      by_cases nb : n > 65536
      · rw [if_pos nb, if_pos nb]
      · have a1 : (0 : Int) ≤ (j : Int) := by omega
        have a2 : (j : Int) ≤ 140737488355328 := by omega
        have a3 : 0 ≤ n := by omega
        have a4 : n ≤ 65536 := by omega
        have a5 : (0 : Int) ≤ (b.length : Int) := by omega
        have a6 : (b.length : Int) ≤ 140737488355328 := by omega
        by_cases hs : (b.length : Int) - (j : Int) < n + 8
        · have hw := aux_end a1 a2 a3 a4 a5 a6
          rw [if_neg nb, if_neg nb, hw.1, hw.2.2.1, if_pos hs, if_pos hs]
        · have hp : Bytes ((b.drop (j + 8)).take n.toNat) := (hb.drop _).take _
          have hpl : ((b.drop (j + 8)).take n.toNat).length = n.toNat := aux_cut n0 hs
          have e8 : (b.take ((j : Int) + 8).toNat).drop j = (b.drop j).take 8 := by
            rw [List.drop_take]
            congr 1
            omega
          have hq : ((b.drop j).take 8).length = 8 := by rw [List.length_take, List.length_drop]; omega
          have c1 : (0 : Int) ≤ (j : Int) + 8 := by omega
          have c2 : (j : Int) + 8 ≤ (j : Int) + 8 + n := by omega
          have c3 : (j : Int) + 8 + n ≤ (b.length : Int) := by omega
          have c4 : (0 : Int) ≤ (j : Int) := by omega
          have c5 : (j : Int) ≤ (j : Int) + 8 := by omega
          have c55 : (j : Int) + 8 ≤ (b.length : Int) := by omega
          have c6 : 0 ≤ n := by omega
          have c8 : ((b.drop (j + 8)).take n.toNat).length ≤ 140737488355328 := by rw [hpl]; omega
          have c9 : ((b.drop (j + 8)).take n.toNat).length < k := by rw [hpl]; omega
          have c10 : ([] : List Int).length + ((b.drop (j + 8)).take n.toNat).length < 140737488355328 := by rw [List.length_nil, hpl]; omega
          have hbk := Back_f (k := k) ((hb.drop j).take 8) hq (by omega)
          have hsm := refSum_f hp c8 c9 key
          have hw := aux_end a1 a2 a3 a4 a5 a6
          rw [if_neg nb, if_neg nb, hw.1, hw.2.2.1, if_neg hs, if_neg hs, bs, hw.2.2.2.1, hw.2.2.2.2, if_pos c1, if_pos c2, if_pos c3, cut_is b c4 c6, Int.toNat_natCast, if_pos c10, bs, List.nil_append, hsm, bs, if_pos c4, if_pos c5, if_pos c55, e8, hbk, bs]
          by_cases hsum : num ((b.drop j).take 8) = sumOf key ((b.drop (j + 8)).take n.toNat)
          · rw [if_pos hsum.symm, if_pos hsum]
          · rw [if_neg (fun h => hsum h.symm), if_neg hsum]
  · rw [if_neg (by omega), if_neg (by omega)]

/-! ### few -/
theorem rd_rows (l : List (List Int)) {i : Nat} (hi : i < l.length) : rd_L1 l (i : Int) = l[i] := by simp [rd_L1, hi]
/-- At most 20 records of at most 300 bytes. -/
def Few (l : List (List Int)) : Prop := l.length ≤ 20 ∧ ∀ x ∈ l, x.length ≤ 300
theorem few_l0 {l : List (List Int)} (hl : l.length ≤ 20) (d : Nat) : ∀ (k i : Nat), l.length - i = d → i ≤ l.length → d < k → (∀ j (h : j < i) (h2 : j < l.length), l[j].length ≤ 300) →
    cellplanelaw03_few.l0 k l (i : Int) = some true ∧ (∀ x ∈ l, x.length ≤ 300) ∨ cellplanelaw03_few.l0 k l (i : Int) = some false := by
  induction d with
  | zero =>
    intro k i hd hi hk hb
    obtain ⟨k, rfl⟩ : ∃ m, k = m + 1 := ⟨k - 1, by omega⟩
    left
    refine ⟨?_, fun x hx => ?_⟩
    · rw [cellplanelaw03_few.l0, if_neg (by omega)]
    · obtain ⟨j, hj, rfl⟩ := List.getElem_of_mem hx
      exact hb j (by omega) hj
  | succ d ih =>
    intro k i hd hi hk hb
    obtain ⟨k, rfl⟩ : ∃ m, k = m + 1 := ⟨k - 1, by omega⟩
    have hlt : i < l.length := by omega
    have c1 : (i : Int) < (l.length : Int) := by omega
    have c2 : (0 : Int) ≤ (i : Int) := by omega
    rw [cellplanelaw03_few.l0, if_pos c1, if_pos c2, rd_rows l hlt]
    by_cases h : (l[i].length : Int) > 300
    · right
      rw [if_pos h]
    · have hi2 : i ≤ 140737488355328 := by omega
      rw [if_neg h, wrap_up hi2]
      refine ih k (i + 1) (by omega) (by omega) (by omega) (fun j hj hj2 => ?_)
      by_cases e : j = i
      · subst e; omega
      · exact hb j (by omega) hj2
theorem few_f {k : Nat} {l : List (List Int)} (hk : 30 ≤ k) : cellplanelaw03_few.f k l = some true ∧ Few l ∨ cellplanelaw03_few.f k l = some false := by
  unfold cellplanelaw03_few.f
  by_cases h : (l.length : Int) > 20
  · right; rw [if_pos h]
  · rw [if_neg h]
    rcases few_l0 (l := l) (by omega) l.length k 0 (by omega) (by omega) (by omega) (fun j hj => by omega) with h2 | h2
    · exact .inl ⟨h2.1, by omega, h2.2⟩
    · exact .inr h2
/-- All elements are made of bytes. -/
def AllBytes (l : List (List Int)) : Prop := ∀ x ∈ l, Bytes x
/-- The frames of records. -/
def frs (key : Int) (l : List (List Int)) : List Int := l.flatMap (fr key)
theorem frs_snoc (key : Int) (l : List (List Int)) {i : Nat} (hi : i < l.length) : frs key (l.take (i + 1)) = frs key (l.take i) ++ fr key l[i] := by
  unfold frs
  rw [List.take_succ_eq_append_getElem hi, List.flatMap_append, List.flatMap_cons, List.flatMap_nil, List.append_nil]
theorem frs_split (key : Int) (l : List (List Int)) {i : Nat} (hi : i < l.length) : frs key l = frs key (l.take i) ++ (fr key l[i] ++ frs key (l.drop (i + 1))) := by
  have h : l = l.take i ++ l[i] :: l.drop (i + 1) := by rw [← List.drop_eq_getElem_cons hi, List.take_append_drop]
  have h2 : frs key l = frs key (l.take i ++ l[i] :: l.drop (i + 1)) := congrArg (frs key) h
  rw [h2]
  unfold frs
  rw [List.flatMap_append, List.flatMap_cons]
theorem frs_len {key : Int} {l : List (List Int)} (h : ∀ x ∈ l, x.length ≤ 300) : (frs key l).length ≤ 318 * l.length := by
  induction l with
  | nil => simp [frs]
  | cons x l ih =>
    have h1 := h x List.mem_cons_self
    have h2 := ih (fun y hy => h y (List.mem_cons_of_mem _ hy))
    have h3 := fr_len key x
    have h4 := (int_len (x.length : Int)).1
    have e : frs key (x :: l) = fr key x ++ frs key l := by simp [frs]
    rw [e, List.length_append, List.length_cons]
    omega
theorem frs_bytes {key : Int} {l : List (List Int)} (hb : AllBytes l) (h : ∀ x ∈ l, x.length ≤ 300) : Bytes (frs key l) := by
  induction l with
  | nil => exact Bytes.nil
  | cons x l ih =>
    have e : frs key (x :: l) = fr key x ++ frs key l := by simp [frs]
    have hx := h x List.mem_cons_self
    rw [e]
    exact (fr_bytes (hb x List.mem_cons_self) (by omega)).append (ih (fun y hy => hb y (List.mem_cons_of_mem _ hy)) (fun y hy => h y (List.mem_cons_of_mem _ hy)))

/-! ### All -/
/-- What All returns, from a place on; f: how many rounds at most. -/
def allN : Nat → Int → List Int → List (List Int) → Nat → List (List Int) × Int
  | 0, _, _, out, at_ => (out, at_)
  | f + 1, key, b, out, at_ =>
    if at_ < b.length then
      if (ftake key (b.drop at_)).2.2 = 0 then allN f key b (out ++ [(ftake key (b.drop at_)).1]) (at_ + (ftake key (b.drop at_)).2.1.toNat)
      else (out, at_)
    else (out, at_)
theorem ftake_step {key : Int} {b : List Int} (hb : Bytes b) (h : (ftake key b).2.2 = 0) : 9 ≤ (ftake key b).2.1 ∧ (ftake key b).2.1 ≤ b.length := by
  unfold ftake at h ⊢
  have ht : take b = ((take b).1, (take b).2.1, (take b).2.2) := rfl
  generalize hn : (take b).1 = n at ht h ⊢
  generalize hu : (take b).2.1 = u at ht h ⊢
  generalize he : (take b).2.2 = e at ht h ⊢
  rcases take_is hb ht with ⟨rfl, hr, j, rfl, h1, hj, hjl⟩ | ⟨rfl, rfl, h17⟩
  · rw [if_pos rfl] at h ⊢
    by_cases n0 : n < 0
    · rw [if_pos n0] at h; simp at h
    · rw [if_neg n0] at h ⊢
      by_cases nb : n > 65536
      · rw [if_pos nb] at h; simp at h
      · rw [if_neg nb] at h ⊢
        by_cases hs : (b.length : Int) - (j : Int) < n + 8
        · rw [if_pos hs] at h; simp at h
        · rw [if_neg hs] at h ⊢
          split at h
          · rename_i hsum
            rw [if_pos hsum]
            dsimp only
            omega
          · simp at h
  · have h0 : ¬e = 0 := by omega
    rw [if_neg h0] at h
    exact absurd h h0
theorem fall_l0 {key : Int} {b : List Int} (hb : Bytes b) (hl : b.length ≤ 1000000) (d : Nat) : ∀ (k at_ : Nat) (out : List (List Int)), b.length - at_ ≤ d → at_ ≤ b.length → d + 65562 ≤ k → out.length ≤ at_ →
    frame_All.l0 k b key out (at_ : Int) = some (allN (d + 1) key b out at_) := by
  induction d with
  | zero =>
    intro k at_ out hd ha hk ho
    obtain ⟨k, rfl⟩ : ∃ m, k = m + 1 := ⟨k - 1, by omega⟩
    have c1 : ¬(at_ : Int) < (b.length : Int) := by omega
    have c2 : ¬at_ < b.length := by omega
    rw [frame_All.l0, allN, if_neg c1, if_neg c2]
  | succ d ih =>
    intro k at_ out hd ha hk ho
    obtain ⟨k, rfl⟩ : ∃ m, k = m + 1 := ⟨k - 1, by omega⟩
    rw [frame_All.l0, allN]
    by_cases h : at_ < b.length
    · have c1 : (at_ : Int) < (b.length : Int) := by omega
      have c2 : (0 : Int) ≤ (at_ : Int) := by omega
      have c3 : (at_ : Int) ≤ (b.length : Int) := by omega
      have c4 : (b.drop at_).length ≤ 140737488355328 := by rw [List.length_drop]; omega
      have c5 : 65560 ≤ k := by omega
      have c6 : out.length < 5864062014805 := by omega
      have hdb := hb.drop at_
      rw [if_pos c1, if_pos c2, if_pos c3, if_pos h, Int.toNat_natCast, fTake_f hdb c4 c5, bs]
      by_cases he : (ftake key (b.drop at_)).2.2 = 0
      · have hst := ftake_step hdb he
        rw [if_pos he, if_pos he, if_pos c6]
        have hdl : (b.drop at_).length = b.length - at_ := List.length_drop
        have hw : wrap64 ((at_ : Int) + (ftake key (b.drop at_)).2.1) = ((at_ + (ftake key (b.drop at_)).2.1.toNat : Nat) : Int) := by
          unfold wrap64
          omega
        rw [hw]
        clear hw
        exact ih k _ _ (by omega) (by omega) (by omega) (by rw [List.length_append, List.length_singleton]; omega)
      · rw [if_neg he, if_neg he]
    · have c1 : ¬(at_ : Int) < (b.length : Int) := by omega
      rw [if_neg c1, if_neg h]
theorem All_f {k : Nat} {key : Int} {b : List Int} (hb : Bytes b) (hl : b.length ≤ 1000000) (hk : 1065562 ≤ k) : frame_All.f k b key = some (allN (b.length + 1) key b [] 0) := by
  unfold frame_All.f
  exact fall_l0 hb hl b.length k 0 [] (by omega) (by omega) (by omega) (by simp)

/-! ### the reference's All -/
theorem refall_l0 {key : Int} {b : List Int} (hb : Bytes b) (hl : b.length ≤ 1000000) (d : Nat) : ∀ (k at_ : Nat) (out : List (List Int)), b.length - at_ ≤ d → at_ ≤ b.length → d + 65562 ≤ k → out.length ≤ at_ →
    cellplaneref03_All.l0 k b key out (at_ : Int) = some (allN (d + 1) key b out at_) := by
  induction d with
  | zero =>
    intro k at_ out hd ha hk ho
    obtain ⟨k, rfl⟩ : ∃ m, k = m + 1 := ⟨k - 1, by omega⟩
    have c1 : ¬(at_ : Int) < (b.length : Int) := by omega
    have c2 : ¬at_ < b.length := by omega
    rw [cellplaneref03_All.l0, allN, if_neg c1, if_neg c2]
  | succ d ih =>
    intro k at_ out hd ha hk ho
    obtain ⟨k, rfl⟩ : ∃ m, k = m + 1 := ⟨k - 1, by omega⟩
    rw [cellplaneref03_All.l0, allN]
    by_cases h : at_ < b.length
    · have c1 : (at_ : Int) < (b.length : Int) := by omega
      have c2 : (0 : Int) ≤ (at_ : Int) := by omega
      have c3 : (at_ : Int) ≤ (b.length : Int) := by omega
      have c4 : (b.drop at_).length ≤ 140737488355328 := by rw [List.length_drop]; omega
      have c5 : 65560 ≤ k := by omega
      have c6 : out.length < 5864062014805 := by omega
      have hdb := hb.drop at_
      rw [if_pos c1, if_pos c2, if_pos c3, if_pos h, Int.toNat_natCast, refTake_f hdb c4 c5, bs]
      by_cases he : (ftake key (b.drop at_)).2.2 = 0
      · have hst := ftake_step hdb he
        rw [if_pos he, if_pos he, if_pos c6]
        have hdl : (b.drop at_).length = b.length - at_ := List.length_drop
        have hw : wrap64 ((at_ : Int) + (ftake key (b.drop at_)).2.1) = ((at_ + (ftake key (b.drop at_)).2.1.toNat : Nat) : Int) := by
          unfold wrap64
          omega
        rw [hw]
        clear hw
        exact ih k _ _ (by omega) (by omega) (by omega) (by rw [List.length_append, List.length_singleton]; omega)
      · rw [if_neg he, if_neg he]
    · have c1 : ¬(at_ : Int) < (b.length : Int) := by omega
      rw [if_neg c1, if_neg h]
theorem refAll_f {k : Nat} {key : Int} {b : List Int} (hb : Bytes b) (hl : b.length ≤ 1000000) (hk : 1065562 ≤ k) : cellplaneref03_All.f k b key = some (allN (b.length + 1) key b [] 0) := by
  unfold cellplaneref03_All.f
  exact refall_l0 hb hl b.length k 0 [] (by omega) (by omega) (by omega) (by simp)

/-! ### Same -/
theorem same_l0 {l : List (List Int)} (hb : AllBytes l) (hl : l.length ≤ 1000000) (d : Nat) : ∀ (k i : Nat), l.length - i = d → i ≤ l.length → d < k → cellplaneref03_Same.l0 k l l (i : Int) = some true := by
  induction d with
  | zero =>
    intro k i hd hi hk
    obtain ⟨k, rfl⟩ : ∃ m, k = m + 1 := ⟨k - 1, by omega⟩
    have c1 : ¬(i : Int) < (l.length : Int) := by omega
    rw [cellplaneref03_Same.l0, if_neg c1]
  | succ d ih =>
    intro k i hd hi hk
    obtain ⟨k, rfl⟩ : ∃ m, k = m + 1 := ⟨k - 1, by omega⟩
    have hlt : i < l.length := by omega
    have c1 : (i : Int) < (l.length : Int) := by omega
    have c2 : (0 : Int) ≤ (i : Int) := by omega
    have hx := hb _ (List.getElem_mem hlt)
    have hi2 : i ≤ 140737488355328 := by omega
    rw [cellplaneref03_Same.l0, if_pos c1, if_pos c2, if_pos c1, rd_rows l hlt, Same_f hx hx, bs, decide_eq_true rfl, if_pos rfl, wrap_up hi2]
    exact ih k (i + 1) (by omega) (by omega) (by omega)
theorem fSame_f {k : Nat} {l : List (List Int)} (hb : AllBytes l) (hl : l.length ≤ 1000000) (hk : l.length < k) : cellplaneref03_Same.f k l l = some true := by
  unfold cellplaneref03_Same.f
  rw [if_pos rfl]
  exact same_l0 hb hl l.length k 0 (by omega) (by omega) hk

/-! ### whole -/
theorem whole_l0 {key : Int} {l : List (List Int)} (hb : AllBytes l) (hl : Few l) (d : Nat) : ∀ (k i : Nat), l.length - i = d → i ≤ l.length → d + 65600 ≤ k →
    cellplanelaw03_whole.l0 k l key (frs key (l.take i)) (i : Int) = some (frs key l) := by
  have hl20 := hl.1
  induction d with
  | zero =>
    intro k i hd hi hk
    obtain ⟨k, rfl⟩ : ∃ m, k = m + 1 := ⟨k - 1, by omega⟩
    have c1 : ¬(i : Int) < (l.length : Int) := by omega
    have e : l.take i = l := List.take_of_length_le (by omega)
    rw [cellplanelaw03_whole.l0, if_neg c1, e]
  | succ d ih =>
    intro k i hd hi hk
    obtain ⟨k, rfl⟩ : ∃ m, k = m + 1 := ⟨k - 1, by omega⟩
    have hlt : i < l.length := by omega
    have hx := hl.2 _ (List.getElem_mem hlt)
    have hxb := hb _ (List.getElem_mem hlt)
    have c1 : (i : Int) < (l.length : Int) := by omega
    have c2 : (0 : Int) ≤ (i : Int) := by omega
    have hfl := frs_len (key := key) (l := l.take i) (fun x hx => hl.2 x (List.mem_of_mem_take hx))
    have htl : (l.take i).length ≤ 20 := by rw [List.length_take]; omega
    have hi2 : i ≤ 140737488355328 := by omega
    rw [cellplanelaw03_whole.l0, if_pos c1, if_pos c2, rd_rows l hlt, refPut_f hxb (by omega) (by omega), bs, put_small (by omega), ← frs_snoc key l hlt, wrap_up hi2]
    exact ih k (i + 1) (by omega) (by omega) (by omega)
theorem whole_f {k : Nat} {key : Int} {l : List (List Int)} (hb : AllBytes l) (hl : Few l) (hk : 65700 ≤ k) : cellplanelaw03_whole.f k l key = some (frs key l) := by
  unfold cellplanelaw03_whole.f
  exact whole_l0 hb hl l.length k 0 (by omega) (by omega) (by have := hl.1; omega)

/-! ### what both return for any bytes -/
theorem ftake_bytes {key : Int} {b : List Int} (hb : Bytes b) : Bytes (ftake key b).1 := by
  unfold ftake
  repeat' split
  all_goals first | exact Bytes.nil | exact (hb.drop _).take _
theorem allN_bytes {key : Int} {b : List Int} (hb : Bytes b) : ∀ (f : Nat) (out : List (List Int)) (at_ : Nat), AllBytes out → AllBytes (allN f key b out at_).1 ∧ (allN f key b out at_).1.length ≤ out.length + f
  | 0, out, at_, ho => ⟨ho, Nat.le_refl _⟩
  | f + 1, out, at_, ho => by
    rw [allN]
    split
    · split
      · have h := allN_bytes (key := key) hb f (out ++ [(ftake key (b.drop at_)).1]) (at_ + (ftake key (b.drop at_)).2.1.toNat) (fun x hx => by
          rcases List.mem_append.1 hx with h1 | h1
          · exact ho x h1
          · rw [List.mem_singleton.1 h1]; exact ftake_bytes (hb.drop at_))
        exact ⟨h.1, by have := h.2; rw [List.length_append, List.length_singleton] at this; omega⟩
      · exact ⟨ho, by dsimp only; omega⟩
    · exact ⟨ho, by dsimp only; omega⟩
/-- All and the reference's All come to the same. -/
theorem alls {key : Int} {b : List Int} (hb : Bytes b) (hl : b.length ≤ 100000) : ∃ ls n, frame_All.f 2000000 b key = some (ls, n) ∧ cellplaneref03_All.f 2000000 b key = some (ls, n) ∧ cellplaneref03_Same.f 2000000 ls ls = some true := by
  have h := allN_bytes (key := key) hb (b.length + 1) [] 0 (fun x hx => absurd hx (by simp))
  have h2 := h.2
  rw [List.length_nil] at h2
  exact ⟨_, _, All_f hb (by omega) (by omega), refAll_f hb (by omega) (by omega), fSame_f h.1 (Nat.le_trans h2 (by omega)) (Nat.lt_of_le_of_lt h2 (by omega))⟩
theorem place {a n : Int} (hn : 0 < n) (hn2 : n ≤ 140737488351232) : 0 ≤ Int.tmod (wrap64 (Int.tmod a n + n)) n ∧ Int.tmod (wrap64 (Int.tmod a n + n)) n < n := by
  have h1 : -n < Int.tmod a n := Int.lt_tmod_of_pos a hn
  have h2 : Int.tmod a n < n := Int.tmod_lt_of_pos a hn
  have e : wrap64 (Int.tmod a n + n) = Int.tmod a n + n := by unfold wrap64; omega
  rw [e]
  exact ⟨Int.tmod_nonneg _ (by omega), Int.tmod_lt_of_pos _ hn⟩
theorem place2 {a : Int} {L : Nat} (hL : L ≤ 10000) : 0 ≤ (wrap64 (wrap64 (a.tmod (wrap64 ((L : Int) + 1)) + (L : Int)) + 1)).tmod (wrap64 ((L : Int) + 1)) ∧ (wrap64 (wrap64 (a.tmod (wrap64 ((L : Int) + 1)) + (L : Int)) + 1)).tmod (wrap64 ((L : Int) + 1)) ≤ (L : Int) := by
  have e : wrap64 ((L : Int) + 1) = (L : Int) + 1 := by unfold wrap64; omega
  rw [e]
  have h1 : -((L : Int) + 1) < Int.tmod a ((L : Int) + 1) := Int.lt_tmod_of_pos a (by omega)
  have h2 : Int.tmod a ((L : Int) + 1) < (L : Int) + 1 := Int.tmod_lt_of_pos a (by omega)
  generalize Int.tmod a ((L : Int) + 1) = z at h1 h2 ⊢
  have e1 : wrap64 (wrap64 (z + (L : Int)) + 1) = z + (L : Int) + 1 := by clear e; unfold wrap64; omega
  rw [e1]
  have h3 := Int.tmod_lt_of_pos (z + (L : Int) + 1) (show (0 : Int) < (L : Int) + 1 by omega)
  clear e e1
  exact ⟨Int.tmod_nonneg _ (by omega), by omega⟩

end Go.Proofs.Ytjmbcdbnglconaa.Pure
