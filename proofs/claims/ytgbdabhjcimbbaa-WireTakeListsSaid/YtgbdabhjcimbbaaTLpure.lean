/- Plain facts: TakeText and TakeInts come to what the reference's come to, for at most 1000 bytes. -/
import Derived.Test.YtgbdabhjcimbbaaQWireTakeListsx1
import Derived.Test.YtgbdabhjcimbbaaQWireTakeListsx2
import Derived.Test.YtgbdabhjcimbbaaQWireTakeListsx3
import Derived.Test.YtgbdabhjcimbbaaWireMath
namespace Go.Proofs.Ytgbdabhjcimbbaa.Pure
open Go.RowKit Go.Proofs.Ytgbdabhjcimbbaa.QWireTakeLists Go.Proofs.YtgbdabhjcimbbaaW.PrintWords Go.Proofs.YtgbdabhjcimbbaaW.PrintLast Go.Proofs.YtgbdabhjcimbbaaW.PrintMore Go.Proofs.Ytgbdabhjcimbbaa.WM
set_option linter.unusedVariables false
set_option linter.unusedSimpArgs false

/-! ### put, copied, Int -/
theorem put_l0 (f : Nat) : ∀ (k : Nat) (b : List Int) (u : Int), f < k → 0 ≤ u → u < 2 * 128 ^ f → b.length + f + 1 ≤ 140737488355328 →
    wire_put.l0 k b u = some (b ++ encN (f + 1) u) := by
  induction f with
  | zero =>
    intro k b u hk h0 h1 hb
    obtain ⟨k, rfl⟩ : ∃ m, k = m + 1 := ⟨k - 1, by omega⟩
    have hu : u < 2 := by simpa using h1
    simp only [wire_put.l0]
    rw [if_neg (by omega), if_pos (by omega), encN_small 0 (by omega)]
    have e : u % 256 = u := by omega
    rw [e]
  | succ f ih =>
    intro k b u hk h0 h1 hb
    obtain ⟨k, rfl⟩ : ∃ m, k = m + 1 := ⟨k - 1, by omega⟩
    simp only [wire_put.l0]
    by_cases h : 128 ≤ u
    · have hlt : u / 128 < 2 * 128 ^ f := by
        have e : (128 : Int) ^ (f + 1) = 128 ^ f * 128 := Int.pow_succ _ _
        rw [e] at h1
        omega
      have e : u % 256 % 128 = u % 128 := by omega
      rw [if_pos (by omega), if_pos (by omega), or_u8 (by omega) (by omega), e, ih k _ (u / 128) (by omega) (by omega) hlt (by simp; omega), encN_big (f + 1) h]
      simp
    · have e : u % 256 = u := by omega
      rw [if_neg (by omega), if_pos (by omega), encN_small (f + 1) h, e]
theorem put_f {k : Nat} {b : List Int} {n : Int} (hk : 10 ≤ k) (h : -9223372036854775808 ≤ n) (h2 : n ≤ 9223372036854775807) (hb : b.length + 10 ≤ 140737488355328) : wire_put.f k b n = some (b ++ int n) := by
  unfold wire_put.f
  have hc := code_range h h2
  have e : (2 : Int) * 128 ^ 9 = 18446744073709551616 := by decide
  rw [code_xor h h2, put_l0 9 k b (code n) (by omega) hc.1 (by omega) (by omega)]
  rfl
theorem copied_f {b : List Int} (hb : b.length < 140737488355328) : wire_copied.f b = some b := by
  unfold wire_copied.f
  rw [if_pos (by simpa using hb)]
  rfl
theorem Int_f {k : Nat} {b : List Int} {n : Int} (hk : 10 ≤ k) (h : -9223372036854775808 ≤ n) (h2 : n ≤ 9223372036854775807) (hb : b.length + 10 ≤ 140737488355328) : wire_Int.f k b n = some (b ++ int n) := by
  unfold wire_Int.f
  rw [copied_f (by omega), bs, put_f hk h h2 hb, bs]

/-! ### TakeInt -/
theorem take_value {i : Nat} (hi : i ≤ 9) {acc x : Int} (ha : 0 ≤ acc) (ha1 : acc < 128 ^ i) (h0 : 0 ≤ x) (h1 : x < 128) (h9 : i = 9 → x ≤ 1) :
    Go.bits .xor .i64 (wrap64 ((Go.bits .or .u64 acc (shl .u64 (IntKind.u64.wrap (x)) (wrap64 (7 * (i : Int))))) / 2)) (wrap64 (-(wrap64 (Go.bits .and .u64 (Go.bits .or .u64 acc (shl .u64 (IntKind.u64.wrap (x)) (wrap64 (7 * (i : Int))))) 1)))) = dec (acc + x * 128 ^ i) := by
  have hl := acc_last hi ha ha1 h0 h1 h9
  have e : IntKind.u64.wrap x = x := by rw [wrap_u64]; omega
  rw [e, wrap_7 hi, shl_7 hi h0 hl.1, or_7 hi ha ha1 h0 hl.1, dec_xor hl.2.1 hl.2.2]
theorem take_j1 {i : Nat} (hi : i ≤ 9) {acc x : Int} (ha : 0 ≤ acc) (ha1 : acc < 128 ^ i) (h0 : 0 ≤ x) (h1 : x < 128) (k : Nat) (fl : Bool) :
    wire_TakeInt.j1 (k + 1) acc (i : Int) x fl = if fl = true ∨ i = 9 ∧ 1 < x then some (0, 0, 18) else some (dec (acc + x * 128 ^ i), (i : Int) + 1, 0) := by
  simp only [wire_TakeInt.j1]
  cases fl with
  | true => simp
  | false =>
    have hw : wrap64 ((i : Int) + 1) = (i : Int) + 1 := wrap_id (by omega) (by omega)
    have h7 : 0 ≤ wrap64 (7 * (i : Int)) := by rw [wrap_7 hi]; omega
    rw [if_neg (by simp), hw]
    by_cases h9 : i = 9
    · rw [if_pos (by omega)]
      by_cases hx : x > 1
      · rw [if_pos hx, if_pos (Or.inr ⟨h9, hx⟩)]
      · rw [if_neg hx, if_pos h7, if_neg (by simp; omega), take_value hi ha ha1 h0 h1 (fun _ => by omega)]
    · rw [if_neg (by omega), if_pos h7, if_neg (by simp [h9]), take_value hi ha ha1 h0 h1 (fun h => absurd h h9)]
theorem scan_step {i : Nat} (hi : i ≤ 9) (c : Int) (l : List Int) (acc : Int) : scan (c :: l) i acc =
    if 128 ≤ c then scan l (i + 1) (acc + (c - 128) * 128 ^ i)
    else if 0 < i ∧ c = 0 ∨ i = 9 ∧ 1 < c then (0, 0, 18)
    else (dec (acc + c * 128 ^ i), (i : Int) + 1, 0) := by rw [scan, if_neg (show ¬i = 10 by omega)]
theorem take_l0 {l : List Int} (hb : Bytes l) (hl : l.length ≤ 140737488355328) (d : Nat) : ∀ (k i : Nat) (acc acc' : Int), i + d = 10 → d + 2 ≤ k → i ≤ l.length → (i < 10 → acc = acc' ∧ 0 ≤ acc ∧ acc < 128 ^ i) →
    wire_TakeInt.l0 k l acc l (l.length : Int) (i : Int) = some (scan (l.drop i) i acc') := by
  induction d with
  | zero =>
    intro k i acc acc' hi hk hil ha
    obtain ⟨k, rfl⟩ : ∃ m, k = m + 1 := ⟨k - 1, by omega⟩
    obtain rfl : i = 10 := by omega
    simp only [wire_TakeInt.l0]
    by_cases h : 10 < l.length
    · rw [List.drop_eq_getElem_cons h, scan, if_pos (show (10 : Nat) = 10 from rfl), if_pos (show ((10 : Nat) : Int) < (l.length : Int) by omega), if_pos (show (0 : Int) ≤ ((10 : Nat) : Int) by omega), if_pos (show ((10 : Nat) : Int) < (l.length : Int) by omega), if_pos (show ((10 : Nat) : Int) = 10 by omega)]
    · rw [List.drop_eq_nil_of_le (by omega), scan, if_pos (show (10 : Nat) ≤ 10 from Nat.le_refl _), if_neg (show ¬((10 : Nat) : Int) < (l.length : Int) by omega), if_pos (show (l.length : Int) ≥ 10 by omega)]
  | succ d ih =>
    intro k i acc acc' hi hk hil ha
    obtain ⟨k, rfl⟩ : ∃ m, k = m + 1 := ⟨k - 1, by omega⟩
    obtain ⟨rfl, ha0, ha1⟩ := ha (by omega)
    have hi9 : i ≤ 9 := by omega
    simp only [wire_TakeInt.l0]
    by_cases h : i < l.length
    · have hc := hb _ (List.getElem_mem h)
      rw [List.drop_eq_getElem_cons h, scan_step hi9, if_pos (show (i : Int) < (l.length : Int) by omega), if_pos (show (0 : Int) ≤ (i : Int) by omega), if_pos (show (i : Int) < (l.length : Int) by omega), if_neg (show ¬(i : Int) = 10 by omega), rd_nat l h]
      generalize l[i] = c at hc ⊢
      by_cases h1 : 128 ≤ c
      · have hw : wrap64 ((i : Int) + 1) = ((i + 1 : Nat) : Int) := by unfold wrap64; omega
        have e : (c - 128) % 256 = c - 128 := by omega
        rw [if_pos h1, if_pos (show c ≥ 128 from h1), if_pos (show 0 ≤ wrap64 (7 * (i : Int)) by rw [wrap_7 hi9]; omega), hw, e]
        refine ih k (i + 1) _ _ (by omega) (by omega) (by omega) (fun hi10 => ?_)
        have hs := small_7 (i := i) (by omega) (x := c - 128) (by omega) (by omega)
        have hu := acc_up ha0 ha1 (x := c - 128) (by omega) (by omega)
        rw [wrap_7 hi9, shl_7 hi9 (by omega) hs, or_7 hi9 ha0 ha1 (by omega) hs]
        exact ⟨rfl, hu⟩
      · obtain ⟨k, rfl⟩ : ∃ m, k = m + 1 := ⟨k - 1, by omega⟩
        rw [if_neg h1, if_neg (show ¬c ≥ 128 from h1)]
        by_cases h0 : 0 < i
        · rw [if_pos (show (i : Int) > 0 by omega), take_j1 hi9 ha0 ha1 hc.1 (by omega) k]
          by_cases hbad : 0 < i ∧ c = 0 ∨ i = 9 ∧ 1 < c
          · have hb2 : (c == 0) = true ∨ i = 9 ∧ 1 < c := by
              rcases hbad with h2 | h2
              · left; simp [h2.2]
              · right; exact h2
            rw [if_pos hbad, if_pos hb2]
          · have hb2 : ¬((c == 0) = true ∨ i = 9 ∧ 1 < c) := by
              intro h2
              refine hbad ?_
              rcases h2 with h2 | h2
              · left; exact ⟨h0, by simpa using h2⟩
              · right; exact h2
            rw [if_neg hbad, if_neg hb2]
        · have hbad : ¬(0 < i ∧ c = 0 ∨ i = 9 ∧ 1 < c) := by omega
          have hb2 : ¬(false = true ∨ i = 9 ∧ 1 < c) := by simp; omega
          rw [if_neg (show ¬(i : Int) > 0 by omega), take_j1 hi9 ha0 ha1 hc.1 (by omega) k, if_neg hbad, if_neg hb2]
    · rw [List.drop_eq_nil_of_le (by omega), scan, if_neg (show ¬10 ≤ i by omega), if_neg (show ¬(i : Int) < (l.length : Int) by omega), if_neg (show ¬(l.length : Int) ≥ 10 by omega)]
theorem TakeInt_f {k : Nat} {l : List Int} (hb : Bytes l) (hl : l.length ≤ 140737488355328) (hk : 12 ≤ k) : wire_TakeInt.f k l = some (take l) := by
  have := take_l0 hb hl 10 k 0 0 0 (by omega) (by omega) (by omega) (fun _ => ⟨rfl, by omega, by simp⟩)
  simpa [wire_TakeInt.f, take] using this

/-! ### SameBytes -/
theorem Same_f {l m : List Int} (hl : Bytes l) (hm : Bytes m) : cellplaneref01_SameBytes.f l m = some (decide (l = m)) := by
  unfold cellplaneref01_SameBytes.f
  rw [str_same hl hm]

/-! ### the sanity check -/
theorem bytes_lit {l : List Int} (h : l.all (fun x => decide (0 ≤ x) && decide (x ≤ 255)) = true) : Bytes l := fun x hx => by
  have := List.all_eq_true.1 h x hx
  simpa using this
theorem awake_f {k : Nat} (hk : 12 ≤ k) : cellplanelaw01_awake.f k = some true := by
  have t1 : take [128, 1] = (64, 2, 0) := by decide +kernel
  have t2 : take [128, 0] = (0, 0, 18) := by decide +kernel
  have i1 : int (-1) = [1] := by decide +kernel
  have i2 : int 64 = [128, 1] := by decide +kernel
  unfold cellplanelaw01_awake.f
  rw [TakeInt_f (bytes_lit (by decide)) (by decide) hk, TakeInt_f (bytes_lit (by decide)) (by decide) hk, t1, t2, Int_f (by omega) (by omega) (by omega) (by simp), Int_f (by omega) (by omega) (by omega) (by simp), i1, i2]
  simp only [List.nil_append, bs]
  rw [Same_f (bytes_lit (by decide)) (bytes_lit (by decide)), Same_f (bytes_lit (by decide)) (bytes_lit (by decide))]
  simp

/-! ### the reference's Int -/
theorem refcode_f {n : Int} (h : -9223372036854775808 ≤ n) (h2 : n ≤ 9223372036854775807) : cellplaneref01_code.f n = some (code n) := by
  unfold cellplaneref01_code.f code
  by_cases h0 : 0 ≤ n
  · have e : IntKind.u64.wrap (2 * IntKind.u64.wrap n) = 2 * n := by rw [wrap_u64, wrap_u64]; omega
    rw [if_pos h0, if_pos h0, e]
  · have e0 : wrap64 (-wrap64 (n + 1)) = -(n + 1) := by rw [wrap_id (a := n + 1) (by omega) (by omega), wrap_id (by omega) (by omega)]
    have e : IntKind.u64.wrap (IntKind.u64.wrap (2 * IntKind.u64.wrap (wrap64 (-wrap64 (n + 1)))) + 1) = -2 * n - 1 := by rw [e0, wrap_u64, wrap_u64, wrap_u64]; omega
    rw [if_neg (by omega), if_neg h0, e]
theorem refint_l0 (f : Nat) : ∀ (k : Nat) (b : List Int) (u : Int), f < k → 0 ≤ u → u < 2 * 128 ^ f → f ≤ 9 → b.length + f + 1 ≤ 140737488355328 →
    cellplaneref01_Int.l0 k b u = some (b ++ encN (f + 1) u) := by
  induction f with
  | zero =>
    intro k b u hk h0 h1 hf hb
    obtain ⟨k, rfl⟩ : ∃ m, k = m + 1 := ⟨k - 1, by omega⟩
    have hu : u < 2 := by simpa using h1
    simp only [cellplaneref01_Int.l0]
    rw [if_neg (by omega), if_pos (by omega), encN_small 0 (by omega)]
    have e : u % 256 = u := by omega
    rw [e]
  | succ f ih =>
    intro k b u hk h0 h1 hf hb
    obtain ⟨k, rfl⟩ : ∃ m, k = m + 1 := ⟨k - 1, by omega⟩
    simp only [cellplaneref01_Int.l0]
    by_cases h : 128 ≤ u
    · have hlt : u / 128 < 2 * 128 ^ f := by
        have e : (128 : Int) ^ (f + 1) = 128 ^ f * 128 := Int.pow_succ _ _
        rw [e] at h1
        omega
      have hbig : u < 18446744073709551616 := by
        have h2 := pow_128_le (show f + 1 ≤ 9 by omega)
        have e9 : (128 : Int) ^ 9 = 9223372036854775808 := by decide
        omega
      have e1 : Int.tmod u 128 = u % 128 := by rw [Int.tmod_eq_emod_of_nonneg h0]
      have e2 : IntKind.u64.wrap (Int.tdiv u 128) = u / 128 := by
        rw [Int.tdiv_eq_ediv_of_nonneg h0, wrap_u64]
        omega
      have e3 : (u % 128 + 128) % 256 = u % 128 + 128 := by omega
      rw [if_pos (by omega), if_pos (by omega), e1, e2, e3, ih k _ (u / 128) (by omega) (by omega) hlt (by omega) (by simp; omega), encN_big (f + 1) h]
      simp
    · have e : u % 256 = u := by omega
      rw [if_neg (by omega), if_pos (by omega), encN_small (f + 1) h, e]
theorem refInt_f {k : Nat} {b : List Int} {n : Int} (hk : 10 ≤ k) (h : -9223372036854775808 ≤ n) (h2 : n ≤ 9223372036854775807) (hb : b.length + 10 ≤ 140737488355328) : cellplaneref01_Int.f k b n = some (b ++ int n) := by
  unfold cellplaneref01_Int.f
  have hc := code_range h h2
  have e : (2 : Int) * 128 ^ 9 = 18446744073709551616 := by decide
  rw [bs, if_pos (by simp; omega), refcode_f h h2, bs, List.nil_append, refint_l0 9 k b (code n) (by omega) hc.1 (by omega) (by omega) (by omega)]
  rfl

/-! ### the reference's TakeInt -/
theorem refdec {u : Int} (h : 0 ≤ u) (h2 : u < 18446744073709551616) :
    (if Int.tmod u 2 = 0 then some (wrap64 (IntKind.u64.wrap (Int.tdiv u 2))) else some (wrap64 ((wrap64 (-(wrap64 (IntKind.u64.wrap (Int.tdiv u 2))))) - 1))) = some (dec u) := by
  rw [Int.tmod_eq_emod_of_nonneg h, Int.tdiv_eq_ediv_of_nonneg h]
  have e : IntKind.u64.wrap (u / 2) = u / 2 := by rw [wrap_u64]; omega
  rw [e, wrap_id (a := u / 2) (by omega) (by omega), wrap_id (a := -(u / 2)) (by omega) (by omega), wrap_id (a := -(u / 2) - 1) (by omega) (by omega)]
  unfold dec
  by_cases hu : u % 2 = 0
  · rw [if_pos hu, if_pos hu]
  · rw [if_neg hu, if_neg hu]
theorem reftake_j1 {l : List Int} {i : Nat} (hil : i < l.length) (hi : i ≤ 9) {acc : Int} (ha : 0 ≤ acc) (ha1 : acc < 128 ^ i) (h0 : 0 ≤ l[i]) (h1 : l[i] < 128) (h9 : i = 9 → l[i] ≤ 1) (k : Nat) :
    cellplaneref01_TakeInt.j1 (k + 1) l acc (i : Int) false = some (dec (acc + l[i] * 128 ^ i), (i : Int) + 1, 0) := by
  rw [cellplaneref01_TakeInt.j1]
  have hw : wrap64 ((i : Int) + 1) = (i : Int) + 1 := wrap_id (by omega) (by omega)
  have hl := acc_last hi ha ha1 h0 h1 h9
  have e : IntKind.u64.wrap l[i] = l[i] := by rw [wrap_u64]; omega
  have hd := refdec hl.2.1 hl.2.2
  rw [if_neg (show ¬false = true by simp), if_pos (show (0 : Int) ≤ (i : Int) by omega), if_pos (show (i : Int) < (l.length : Int) by omega), wrap_7u hi, if_pos (show (0 : Int) ≤ ((7 * i : Nat) : Int) by omega), rd_nat l hil, e, shl_7 hi h0 hl.1, or_7 hi ha ha1 h0 hl.1, hw]
  by_cases hu : Int.tmod (acc + l[i] * 128 ^ i) 2 = 0
  · rw [if_pos hu] at hd ⊢
    rw [Option.some.inj hd]
  · rw [if_neg hu] at hd ⊢
    rw [Option.some.inj hd]
theorem reftake_bad {l : List Int} {i : Int} {acc : Int} (k : Nat) : cellplaneref01_TakeInt.j1 (k + 1) l acc i true = some (0, 0, 18) := by
  rw [cellplaneref01_TakeInt.j1]
  rw [if_pos (show true = true from rfl)]
theorem reftake_l0 {l : List Int} (hb : Bytes l) (hl : l.length ≤ 140737488355328) (d : Nat) : ∀ (k i : Nat) (acc acc' : Int), i + d = 10 → d + 2 ≤ k → i ≤ l.length → (i < 10 → acc = acc' ∧ 0 ≤ acc ∧ acc < 128 ^ i) →
    cellplaneref01_TakeInt.l0 k l acc (i : Int) = some (scan (l.drop i) i acc') := by
  induction d with
  | zero =>
    intro k i acc acc' hi hk hil ha
    obtain ⟨k, rfl⟩ : ∃ m, k = m + 1 := ⟨k - 1, by omega⟩
    obtain rfl : i = 10 := by omega
    simp only [cellplaneref01_TakeInt.l0]
    rw [if_neg (show ¬((10 : Nat) : Int) < 10 by omega)]
    by_cases h : 10 < l.length
    · rw [List.drop_eq_getElem_cons h, scan, if_pos (show (10 : Nat) = 10 from rfl)]
    · rw [List.drop_eq_nil_of_le (by omega), scan, if_pos (show (10 : Nat) ≤ 10 from Nat.le_refl _)]
  | succ d ih =>
    intro k i acc acc' hi hk hil ha
    obtain ⟨k, rfl⟩ : ∃ m, k = m + 1 := ⟨k - 1, by omega⟩
    obtain ⟨rfl, ha0, ha1⟩ := ha (by omega)
    have hi9 : i ≤ 9 := by omega
    simp only [cellplaneref01_TakeInt.l0]
    rw [if_pos (show (i : Int) < 10 by omega)]
    by_cases h : i < l.length
    · have hc := hb _ (List.getElem_mem h)
      rw [List.drop_eq_getElem_cons h, scan_step hi9, if_neg (show ¬(i : Int) = (l.length : Int) by omega), if_pos (show (0 : Int) ≤ (i : Int) by omega), if_pos (show (i : Int) < (l.length : Int) by omega), rd_nat l h]
      by_cases h1 : 128 ≤ l[i]
      · have hw : wrap64 ((i : Int) + 1) = ((i + 1 : Nat) : Int) := by unfold wrap64; omega
        have e : (l[i] - 128) % 256 = l[i] - 128 := by omega
        rw [if_pos h1, if_neg (show ¬l[i] < 128 by omega), wrap_7u hi9, if_pos (show (0 : Int) ≤ ((7 * i : Nat) : Int) by omega), hw, e]
        refine ih k (i + 1) _ _ (by omega) (by omega) (by omega) (fun hi10 => ?_)
        have hs := small_7 (i := i) (by omega) (x := l[i] - 128) (by omega) (by omega)
        have hu := acc_up ha0 ha1 (x := l[i] - 128) (by omega) (by omega)
        rw [shl_7 hi9 (by omega) hs, or_7 hi9 ha0 ha1 (by omega) hs]
        exact ⟨rfl, hu⟩
      · obtain ⟨k, rfl⟩ : ∃ m, k = m + 1 := ⟨k - 1, by omega⟩
        rw [if_neg h1, if_pos (show l[i] < 128 by omega)]
        have last : (i = 9 → l[i] ≤ 1) → cellplaneref01_TakeInt.j1 (k + 1) l acc (i : Int) false = some (dec (acc + l[i] * 128 ^ i), (i : Int) + 1, 0) := fun h9 => reftake_j1 h hi9 ha0 ha1 hc.1 (by omega) h9 k
        by_cases h0 : 0 < i
        · rw [if_pos (show (i : Int) > 0 by omega)]
          by_cases hz : l[i] = 0
          · rw [if_pos hz, if_pos (show 0 < i ∧ l[i] = 0 ∨ i = 9 ∧ 1 < l[i] from Or.inl ⟨h0, hz⟩), reftake_bad]
          · rw [if_neg hz]
            by_cases h9 : i = 9
            · rw [if_pos (show (i : Int) = 9 by omega)]
              by_cases hx : 1 < l[i]
              · rw [decide_eq_true (show l[i] > 1 from hx), if_pos (show 0 < i ∧ l[i] = 0 ∨ i = 9 ∧ 1 < l[i] from Or.inr ⟨h9, hx⟩), reftake_bad]
              · rw [decide_eq_false (show ¬l[i] > 1 from hx), if_neg (show ¬(0 < i ∧ l[i] = 0 ∨ i = 9 ∧ 1 < l[i]) by omega), last (fun _ => by omega)]
            · rw [if_neg (show ¬(i : Int) = 9 by omega), if_neg (show ¬(0 < i ∧ l[i] = 0 ∨ i = 9 ∧ 1 < l[i]) by omega), last (fun h => absurd h h9)]
        · rw [if_neg (show ¬(i : Int) > 0 by omega), if_neg (show ¬(i : Int) = 9 by omega), if_neg (show ¬(0 < i ∧ l[i] = 0 ∨ i = 9 ∧ 1 < l[i]) by omega), last (fun h => by omega)]
    · rw [List.drop_eq_nil_of_le (by omega), scan, if_neg (show ¬10 ≤ i by omega), if_pos (show (i : Int) = (l.length : Int) by omega)]
theorem refTakeInt_f {k : Nat} {l : List Int} (hb : Bytes l) (hl : l.length ≤ 140737488355328) (hk : 12 ≤ k) : cellplaneref01_TakeInt.f k l = some (take l) := by
  have := reftake_l0 hb hl 10 k 0 0 0 (by omega) (by omega) (by omega) (fun _ => ⟨rfl, by omega, by simp⟩)
  simpa [cellplaneref01_TakeInt.f, take] using this

/-! ### SameInts -/
theorem sameints_l0 {l m : List Int} (hlm : l.length = m.length) (hlen : l.length ≤ 140737488351232) (d : Nat) : ∀ (k i : Nat), l.length - i = d → i ≤ l.length → d < k →
    cellplaneref01_SameInts.l0 k l m (i : Int) = some (decide (l.drop i = m.drop i)) := by
  induction d with
  | zero =>
    intro k i hd hi hk
    obtain ⟨k, rfl⟩ : ∃ m, k = m + 1 := ⟨k - 1, by omega⟩
    simp only [cellplaneref01_SameInts.l0]
    rw [if_neg (show ¬(i : Int) < (l.length : Int) by omega), List.drop_eq_nil_of_le (by omega), List.drop_eq_nil_of_le (by omega), decide_eq_true rfl]
  | succ d ih =>
    intro k i hd hi hk
    obtain ⟨k, rfl⟩ : ∃ m, k = m + 1 := ⟨k - 1, by omega⟩
    have hlt : i < l.length := by omega
    have hlt2 : i < m.length := by omega
    have hw : wrap64 ((i : Int) + 1) = ((i + 1 : Nat) : Int) := by unfold wrap64; omega
    simp only [cellplaneref01_SameInts.l0]
    rw [if_pos (show (i : Int) < (l.length : Int) by omega), if_pos (show (0 : Int) ≤ (i : Int) by omega), if_pos (show (i : Int) < (m.length : Int) by omega), rd_nat l hlt, rd_nat m hlt2, List.drop_eq_getElem_cons hlt, List.drop_eq_getElem_cons hlt2]
    by_cases e : l[i] = m[i]
    · rw [if_pos e, hw, ih k (i + 1) (by omega) (by omega) (by omega), e]
      congr 1
      by_cases h : l.drop (i + 1) = m.drop (i + 1)
      · rw [decide_eq_true h, decide_eq_true (by rw [h])]
      · rw [decide_eq_false h, decide_eq_false (fun h2 => h (List.cons.inj h2).2)]
    · rw [if_neg e, decide_eq_false (fun h2 => e (List.cons.inj h2).1)]
theorem SameInts_f {k : Nat} {l m : List Int} (hlen : l.length ≤ 140737488351232) (hk : l.length < k) : cellplaneref01_SameInts.f k l m = some (decide (l = m)) := by
  unfold cellplaneref01_SameInts.f
  by_cases h : l.length = m.length
  · rw [if_pos (show (l.length : Int) = (m.length : Int) by omega)]
    have := sameints_l0 h hlen l.length k 0 (by omega) (by omega) hk
    rw [List.drop_zero, List.drop_zero] at this
    exact this
  · rw [if_neg (show ¬(l.length : Int) = (m.length : Int) by omega), decide_eq_false (fun e => h (by rw [e]))]

/-! ### length -/
/-- A length and the number of its bytes, or an error. -/
def lenOf (l : List Int) : Int × Int × Int := if (take l).2.2 = 0 then (if (take l).1 < 0 then (0, 0, 18) else (if (take l).1 > 65536 then (0, 0, 2) else ((take l).1, (take l).2.1, 0))) else (0, 0, (take l).2.2)
theorem length_f {k : Nat} {l : List Int} (hb : Bytes l) (hl : l.length ≤ 140737488355328) (hk : 12 ≤ k) : wire_length.f k l = some (lenOf l) := by
  unfold wire_length.f lenOf
  rw [TakeInt_f hb hl hk, bs]
  generalize take l = t
  split
  · split
    · rfl
    · split <;> rfl
  · rfl
theorem lenOf_int {n : Int} (h : 0 ≤ n) (h2 : n ≤ 65536) (more : List Int) : lenOf (int n ++ more) = (n, ((int n).length : Int), 0) := by
  unfold lenOf
  rw [take_int (by omega) (by omega) more, if_pos rfl, if_neg (by omega), if_neg (by omega)]

/-! ### TakeText, TakeInts and the reference's -/
theorem lenOf_is {l : List Int} (hb : Bytes l) {n k e : Int} (h : lenOf l = (n, k, e)) :
    (e = 0 ∧ 0 ≤ n ∧ n ≤ 65536 ∧ ∃ j : Nat, k = (j : Int) ∧ j ≤ l.length) ∨ e ≠ 0 := by
  unfold lenOf at h
  rcases ht : take l with ⟨n', k', e'⟩
  rw [ht] at h
  dsimp only at h
  rcases take_is hb ht with ⟨he, _, j, hk, _, hj, _⟩ | ⟨_, _, he⟩
  · rw [if_pos he] at h
    by_cases c1 : n' < 0
    · rw [if_pos c1] at h
      simp only [Prod.mk.injEq] at h
      right; omega
    · rw [if_neg c1] at h
      by_cases c2 : n' > 65536
      · rw [if_pos c2] at h
        simp only [Prod.mk.injEq] at h
        right; omega
      · rw [if_neg c2] at h
        simp only [Prod.mk.injEq] at h
        left
        exact ⟨by omega, by omega, by omega, j, by omega, hj⟩
  · rw [if_neg (by omega)] at h
    simp only [Prod.mk.injEq] at h
    right; omega
theorem reflength_f {k : Nat} {l : List Int} (hb : Bytes l) (hl : l.length ≤ 140737488355328) (hk : 12 ≤ k) : cellplaneref01_length.f k l = some (lenOf l) := by
  unfold cellplaneref01_length.f lenOf
  rw [refTakeInt_f hb hl hk, bs]
  generalize take l = t
  split
  · split
    · rfl
    · split <;> rfl
  · rfl
theorem texts {k : Nat} {l : List Int} (hb : Bytes l) (hl : l.length ≤ 1000) (hk : 12 ≤ k) :
    ∃ s j e, wire_TakeText.f k l = some (s, j, e) ∧ cellplaneref01_TakeText.f k l = some (s, j, e) := by
  unfold wire_TakeText.f cellplaneref01_TakeText.f
  rw [length_f hb (by omega) hk, reflength_f hb (by omega) hk, bs]
  rcases ht : lenOf l with ⟨n, k', e⟩
  dsimp only
  rcases lenOf_is hb ht with ⟨he, h0, h1, j, hj, hjl⟩ | he
  · rw [if_pos he]
    subst hj
    by_cases c : (l.length : Int) - (j : Int) < n
    · have w1 : wrap64 ((l.length : Int) - (j : Int)) = (l.length : Int) - (j : Int) := by unfold wrap64; omega
      rw [w1, if_pos c]
      exact ⟨_, _, _, rfl, rfl⟩
    · have c1 : (0 : Int) ≤ (j : Int) := by omega
      have c2 : (j : Int) ≤ (j : Int) + n := by omega
      have c3 : (j : Int) + n ≤ (l.length : Int) := by omega
      have w2 : wrap64 ((j : Int) + n) = (j : Int) + n := by unfold wrap64; omega
      have w1 : wrap64 ((l.length : Int) - (j : Int)) = (l.length : Int) - (j : Int) := by clear w2; unfold wrap64; omega
      rw [w1, w2, if_neg c, if_pos c1, if_pos c2, if_pos c3]
      exact ⟨_, _, _, rfl, rfl⟩
  · rw [if_neg he]
    exact ⟨_, _, _, rfl, rfl⟩
theorem take_none : take [] = (0, 0, 17) := by decide
theorem intlists_l0 {l : List Int} (hb : Bytes l) (hl : l.length ≤ 1000) {n : Int} (hn : n ≤ 65536) (d : Nat) : ∀ (k j : Nat) (i : Int) (out : List Int), l.length - j ≤ d → j ≤ l.length → out.length ≤ j → 0 ≤ i → i ≤ 65536 → d + 14 ≤ k →
    ∃ m x e, wire_TakeInts.l0 k l (j : Int) out n i = some (m, x, e) ∧ cellplaneref01_TakeInts.l0 k l n (j : Int) out i = some (m, x, e) ∧ m.length ≤ 1000 := by
  induction d with
  | zero =>
    intro k j i out hd hj ho h0 h1 hk
    obtain ⟨k, rfl⟩ : ∃ m, k = m + 1 := ⟨k - 1, by omega⟩
    simp only [wire_TakeInts.l0, cellplaneref01_TakeInts.l0]
    by_cases c : i < n
    · have e0 : l.drop j = [] := List.drop_eq_nil_of_le (by omega)
      have c1 : (0 : Int) ≤ (j : Int) := by omega
      have c2 : (j : Int) ≤ (l.length : Int) := by omega
      have c3 : 12 ≤ k := by omega
      rw [if_pos c, if_pos c, if_pos c1, if_pos c1, if_pos c2, if_pos c2, Int.toNat_natCast, e0, TakeInt_f Bytes.nil (Nat.zero_le _) c3, refTakeInt_f Bytes.nil (Nat.zero_le _) c3, bs, bs, take_none]
      dsimp only
      rw [if_neg (show ¬((17 : Int) = 0) by decide), if_neg (show ¬((17 : Int) = 0) by decide)]
      exact ⟨_, _, _, rfl, rfl, Nat.zero_le _⟩
    · rw [if_neg c, if_neg c]
      exact ⟨_, _, _, rfl, rfl, by omega⟩
  | succ d ih =>
    intro k j i out hd hj ho h0 h1 hk
    obtain ⟨k, rfl⟩ : ∃ m, k = m + 1 := ⟨k - 1, by omega⟩
    simp only [wire_TakeInts.l0, cellplaneref01_TakeInts.l0]
    by_cases c : i < n
    · have c1 : (0 : Int) ≤ (j : Int) := by omega
      have c2 : (j : Int) ≤ (l.length : Int) := by omega
      have c3 : 12 ≤ k := by omega
      have c4 : (l.drop j).length ≤ 140737488355328 := by rw [List.length_drop]; omega
      have c5 : out.length < 17592186044416 := by omega
      rw [if_pos c, if_pos c, if_pos c1, if_pos c1, if_pos c2, if_pos c2, Int.toNat_natCast, TakeInt_f (hb.drop j) c4 c3, refTakeInt_f (hb.drop j) c4 c3, bs, bs]
      rcases ht : take (l.drop j) with ⟨v, k', e⟩
      dsimp only
      rcases take_is (hb.drop j) ht with ⟨he, _, q, hq, hq1, hql, _⟩ | ⟨_, _, he⟩
      · rw [List.length_drop] at hql
        have d1 : l.length - (j + q) ≤ d := by omega
        have d2 : j + q ≤ l.length := by omega
        have d3 : (out ++ [v]).length ≤ j + q := by rw [List.length_append, List.length_singleton]; omega
        have d4 : 0 ≤ i + 1 := by omega
        have d5 : i + 1 ≤ 65536 := by omega
        have d6 : d + 14 ≤ k := by omega
        have w1 : wrap64 ((j : Int) + (q : Int)) = ((j + q : Nat) : Int) := by unfold wrap64; omega
        have w2 : wrap64 (i + 1) = i + 1 := by clear w1; unfold wrap64; omega
        rw [if_pos he, if_pos he, if_pos c5, if_pos c5, hq, w1, w2]
        exact ih k (j + q) (i + 1) _ d1 d2 d3 d4 d5 d6
      · have he2 : ¬ e = 0 := by omega
        rw [if_neg he2, if_neg he2]
        exact ⟨_, _, _, rfl, rfl, Nat.zero_le _⟩
    · rw [if_neg c, if_neg c]
      exact ⟨_, _, _, rfl, rfl, by omega⟩
theorem intlists {k : Nat} {l : List Int} (hb : Bytes l) (hl : l.length ≤ 1000) (hk : 1100 ≤ k) :
    ∃ m x e, wire_TakeInts.f k l = some (m, x, e) ∧ cellplaneref01_TakeInts.f k l = some (m, x, e) ∧ m.length ≤ 1000 := by
  unfold wire_TakeInts.f cellplaneref01_TakeInts.f
  rw [length_f hb (by omega) (by omega), reflength_f hb (by omega) (by omega), bs, bs]
  rcases ht : lenOf l with ⟨n, k', e⟩
  dsimp only
  rcases lenOf_is hb ht with ⟨he, h0, h1, j, hj, hjl⟩ | he
  · rw [if_pos he, if_pos he, hj]
    exact intlists_l0 hb hl h1 l.length k j 0 [] (by omega) (by omega) (by simp) (by omega) (by omega) (by omega)
  · rw [if_neg he, if_neg he]
    exact ⟨_, _, _, rfl, rfl, Nat.zero_le _⟩

end Go.Proofs.Ytgbdabhjcimbbaa.Pure
