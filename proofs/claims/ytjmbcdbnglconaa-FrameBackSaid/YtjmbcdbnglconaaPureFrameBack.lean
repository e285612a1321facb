/- Take returns the record that was put, whatever follows. -/
import Derived.Test.YtjmbcdbnglconaaQFrameBackx1
import Derived.Test.YtjmbcdbnglconaaQFrameBackx2
import Derived.Test.YtjmbcdbnglconaaFrameMath
namespace Go.Proofs.Ytjmbcdbnglconaa.Pure
open Go.RowKit Go.Proofs.Ytjmbcdbnglconaa.QFrameBack Go.Proofs.YtjmbcdbnglconaaW.PrintWords Go.Proofs.YtjmbcdbnglconaaW.PrintLast Go.Proofs.YtjmbcdbnglconaaW.PrintMore Go.Proofs.Ytjmbcdbnglconaa.WM Go.Proofs.Ytjmbcdbnglconaa.FM
set_option linter.unusedVariables false
set_option linter.unusedSimpArgs false

/-! ### put, copied, Int -/
theorem put_l0 (f : Nat) : ∀ (k : Nat) (b : List Int) (u : Int), f < k → 0 ≤ u → u < 2 * 128 ^ f → b.length + f + 1 ≤ 225179981368000 →
    wire_put.l0 k b u = some (b ++ encN (f + 1) u) := by
  induction f with
  | zero =>
    intro k b u hk h0 h1 hb
    obtain ⟨k, rfl⟩ : ∃ m, k = m + 1 := ⟨k - 1, by omega⟩
    have hu : u < 2 := by simpa using h1
    simp only [wire_put.l0]
    rw [if_neg (by omega), if_pos (by omega), encN_small 0 (by omega)]
    have e : u % 256 = u := by omega
    rw [e]
  | succ f ih =>
    intro k b u hk h0 h1 hb
    obtain ⟨k, rfl⟩ : ∃ m, k = m + 1 := ⟨k - 1, by omega⟩
    simp only [wire_put.l0]
    by_cases h : 128 ≤ u
    · have hlt : u / 128 < 2 * 128 ^ f := by
        have e : (128 : Int) ^ (f + 1) = 128 ^ f * 128 := Int.pow_succ _ _
        rw [e] at h1
        omega
      have e : u % 256 % 128 = u % 128 := by omega
      rw [if_pos (by omega), if_pos (by omega), or_u8 (by omega) (by omega), e, ih k _ (u / 128) (by omega) (by omega) hlt (by simp; omega), encN_big (f + 1) h]
      simp
    · have e : u % 256 = u := by omega
      rw [if_neg (by omega), if_pos (by omega), encN_small (f + 1) h, e]
theorem put_f {k : Nat} {b : List Int} {n : Int} (hk : 10 ≤ k) (h : -9223372036854775808 ≤ n) (h2 : n ≤ 9223372036854775807) (hb : b.length + 10 ≤ 225179981368000) : wire_put.f k b n = some (b ++ int n) := by
  unfold wire_put.f
  have hc := code_range h h2
  have e : (2 : Int) * 128 ^ 9 = 18446744073709551616 := by decide
  rw [code_xor h h2, put_l0 9 k b (code n) (by omega) hc.1 (by omega) (by omega)]
  rfl
theorem copied_f {b : List Int} (hb : b.length < 225179981368000) : wire_copied.f b = some b := by
  unfold wire_copied.f
  rw [if_pos (by simpa using hb)]
  rfl
theorem Int_f {k : Nat} {b : List Int} {n : Int} (hk : 10 ≤ k) (h : -9223372036854775808 ≤ n) (h2 : n ≤ 9223372036854775807) (hb : b.length + 10 ≤ 225179981368000) : wire_Int.f k b n = some (b ++ int n) := by
  unfold wire_Int.f
  rw [copied_f (by omega), bs, put_f hk h h2 hb, bs]

/-! ### TakeInt -/
theorem take_value {i : Nat} (hi : i ≤ 9) {acc x : Int} (ha : 0 ≤ acc) (ha1 : acc < 128 ^ i) (h0 : 0 ≤ x) (h1 : x < 128) (h9 : i = 9 → x ≤ 1) :
    Go.bits .xor .i64 (wrap64 ((Go.bits .or .u64 acc (shl .u64 (IntKind.u64.wrap (x)) (wrap64 (7 * (i : Int))))) / 2)) (wrap64 (-(wrap64 (Go.bits .and .u64 (Go.bits .or .u64 acc (shl .u64 (IntKind.u64.wrap (x)) (wrap64 (7 * (i : Int))))) 1)))) = dec (acc + x * 128 ^ i) := by
  have hl := acc_last hi ha ha1 h0 h1 h9
  have e : IntKind.u64.wrap x = x := by rw [wrap_u64]; omega
  rw [e, wrap_7 hi, shl_7 hi h0 hl.1, or_7 hi ha ha1 h0 hl.1, dec_xor hl.2.1 hl.2.2]
theorem take_j1 {i : Nat} (hi : i ≤ 9) {acc x : Int} (ha : 0 ≤ acc) (ha1 : acc < 128 ^ i) (h0 : 0 ≤ x) (h1 : x < 128) (k : Nat) (fl : Bool) :
    wire_TakeInt.j1 (k + 1) acc (i : Int) x fl = if fl = true ∨ i = 9 ∧ 1 < x then some (0, 0, 18) else some (dec (acc + x * 128 ^ i), (i : Int) + 1, 0) := by
  simp only [wire_TakeInt.j1]
  cases fl with
  | true => simp
  | false =>
    have hw : wrap64 ((i : Int) + 1) = (i : Int) + 1 := wrap_id (by omega) (by omega)
    have h7 : 0 ≤ wrap64 (7 * (i : Int)) := by rw [wrap_7 hi]; omega
    rw [if_neg (by simp), hw]
    by_cases h9 : i = 9
    · rw [if_pos (by omega)]
      by_cases hx : x > 1
      · rw [if_pos hx, if_pos (Or.inr ⟨h9, hx⟩)]
      · rw [if_neg hx, if_pos h7, if_neg (by simp; omega), take_value hi ha ha1 h0 h1 (fun _ => by omega)]
    · rw [if_neg (by omega), if_pos h7, if_neg (by simp [h9]), take_value hi ha ha1 h0 h1 (fun h => absurd h h9)]
theorem scan_step {i : Nat} (hi : i ≤ 9) (c : Int) (l : List Int) (acc : Int) : scan (c :: l) i acc =
    if 128 ≤ c then scan l (i + 1) (acc + (c - 128) * 128 ^ i)
    else if 0 < i ∧ c = 0 ∨ i = 9 ∧ 1 < c then (0, 0, 18)
    else (dec (acc + c * 128 ^ i), (i : Int) + 1, 0) := by rw [scan, if_neg (show ¬i = 10 by omega)]
theorem take_l0 {l : List Int} (hb : Bytes l) (hl : l.length ≤ 225179981368000) (d : Nat) : ∀ (k i : Nat) (acc acc' : Int), i + d = 10 → d + 2 ≤ k → i ≤ l.length → (i < 10 → acc = acc' ∧ 0 ≤ acc ∧ acc < 128 ^ i) →
    wire_TakeInt.l0 k l acc l (l.length : Int) (i : Int) = some (scan (l.drop i) i acc') := by
  induction d with
  | zero =>
    intro k i acc acc' hi hk hil ha
    obtain ⟨k, rfl⟩ : ∃ m, k = m + 1 := ⟨k - 1, by omega⟩
    obtain rfl : i = 10 := by omega
    simp only [wire_TakeInt.l0]
    by_cases h : 10 < l.length
    · rw [List.drop_eq_getElem_cons h, scan, if_pos (show (10 : Nat) = 10 from rfl), if_pos (show ((10 : Nat) : Int) < (l.length : Int) by omega), if_pos (show (0 : Int) ≤ ((10 : Nat) : Int) by omega), if_pos (show ((10 : Nat) : Int) < (l.length : Int) by omega), if_pos (show ((10 : Nat) : Int) = 10 by omega)]
    · rw [List.drop_eq_nil_of_le (by omega), scan, if_pos (show (10 : Nat) ≤ 10 from Nat.le_refl _), if_neg (show ¬((10 : Nat) : Int) < (l.length : Int) by omega), if_pos (show (l.length : Int) ≥ 10 by omega)]
  | succ d ih =>
    intro k i acc acc' hi hk hil ha
    obtain ⟨k, rfl⟩ : ∃ m, k = m + 1 := ⟨k - 1, by omega⟩
    obtain ⟨rfl, ha0, ha1⟩ := ha (by omega)
    have hi9 : i ≤ 9 := by omega
    simp only [wire_TakeInt.l0]
    by_cases h : i < l.length
    · have hc := hb _ (List.getElem_mem h)
      rw [List.drop_eq_getElem_cons h, scan_step hi9, if_pos (show (i : Int) < (l.length : Int) by omega), if_pos (show (0 : Int) ≤ (i : Int) by omega), if_pos (show (i : Int) < (l.length : Int) by omega), if_neg (show ¬(i : Int) = 10 by omega), rd_nat l h]
      generalize l[i] = c at hc ⊢
      by_cases h1 : 128 ≤ c
      · have hw : wrap64 ((i : Int) + 1) = ((i + 1 : Nat) : Int) := by unfold wrap64; omega
        have e : (c - 128) % 256 = c - 128 := by omega
        rw [if_pos h1, if_pos (show c ≥ 128 from h1), if_pos (show 0 ≤ wrap64 (7 * (i : Int)) by rw [wrap_7 hi9]; omega), hw, e]
        refine ih k (i + 1) _ _ (by omega) (by omega) (by omega) (fun hi10 => ?_)
        have hs := small_7 (i := i) (by omega) (x := c - 128) (by omega) (by omega)
        have hu := acc_up ha0 ha1 (x := c - 128) (by omega) (by omega)
        rw [wrap_7 hi9, shl_7 hi9 (by omega) hs, or_7 hi9 ha0 ha1 (by omega) hs]
        exact ⟨rfl, hu⟩
      · obtain ⟨k, rfl⟩ : ∃ m, k = m + 1 := ⟨k - 1, by omega⟩
        rw [if_neg h1, if_neg (show ¬c ≥ 128 from h1)]
        by_cases h0 : 0 < i
        · rw [if_pos (show (i : Int) > 0 by omega), take_j1 hi9 ha0 ha1 hc.1 (by omega) k]
          by_cases hbad : 0 < i ∧ c = 0 ∨ i = 9 ∧ 1 < c
          · have hb2 : (c == 0) = true ∨ i = 9 ∧ 1 < c := by
              rcases hbad with h2 | h2
              · left; simp [h2.2]
              · right; exact h2
            rw [if_pos hbad, if_pos hb2]
          · have hb2 : ¬((c == 0) = true ∨ i = 9 ∧ 1 < c) := by
              intro h2
              refine hbad ?_
              rcases h2 with h2 | h2
              · left; exact ⟨h0, by simpa using h2⟩
              · right; exact h2
            rw [if_neg hbad, if_neg hb2]
        · have hbad : ¬(0 < i ∧ c = 0 ∨ i = 9 ∧ 1 < c) := by omega
          have hb2 : ¬(false = true ∨ i = 9 ∧ 1 < c) := by simp; omega
          rw [if_neg (show ¬(i : Int) > 0 by omega), take_j1 hi9 ha0 ha1 hc.1 (by omega) k, if_neg hbad, if_neg hb2]
    · rw [List.drop_eq_nil_of_le (by omega), scan, if_neg (show ¬10 ≤ i by omega), if_neg (show ¬(i : Int) < (l.length : Int) by omega), if_neg (show ¬(l.length : Int) ≥ 10 by omega)]
theorem TakeInt_f {k : Nat} {l : List Int} (hb : Bytes l) (hl : l.length ≤ 225179981368000) (hk : 12 ≤ k) : wire_TakeInt.f k l = some (take l) := by
  have := take_l0 hb hl 10 k 0 0 0 (by omega) (by omega) (by omega) (fun _ => ⟨rfl, by omega, by simp⟩)
  simpa [wire_TakeInt.f, take] using this

/-! ### SameBytes -/
theorem Same_f {l m : List Int} (hl : Bytes l) (hm : Bytes m) : cellplaneref01_SameBytes.f l m = some (decide (l = m)) := by
  unfold cellplaneref01_SameBytes.f
  rw [str_same hl hm]

/-! ### the sum -/
theorem mixf (a b : Int) : digest_Mix.f a b = some (M.mix a b) := by rw [digest_Mix.f, M.mix]
theorem byte_at {l : List Int} (hb : Bytes l) {i : Nat} (hi : i < l.length) : 0 ≤ l[i] ∧ l[i] ≤ 255 := hb _ (List.getElem_mem hi)
theorem wrap_rd {l : List Int} (hb : Bytes l) {i : Nat} (hi : i < l.length) : wrap64 (rd l (i : Int)) = l[i] := by
  have := byte_at hb hi
  rw [rd_nat l hi]
  unfold wrap64
  omega
theorem wrap_up {i : Nat} (hi : i ≤ 225179981368000) : wrap64 ((i : Int) + 1) = ((i + 1 : Nat) : Int) := by
  unfold wrap64
  omega
theorem bytes_l0 (l x1 : List Int) (hb : Bytes l) (hl : l.length ≤ 225179981368000) (d : Nat) :
    ∀ (k : Nat) (h : Int) (i : Nat), i ≤ l.length → l.length - i = d → d < k →
      digest_bytes.l0 k h x1 l (l.length : Int) (i : Int) = some (M.mix (M.many h (l.drop i)) x1.length) := by
  induction d with
  | zero =>
    intro k h i h1 hd hk
    obtain ⟨k, rfl⟩ : ∃ m, k = m + 1 := ⟨k - 1, by omega⟩
    have e : i = l.length := by omega
    simp only [digest_bytes.l0]
    rw [if_neg (by omega), mixf, e]
    simp [M.many]
  | succ d ih =>
    intro k h i h1 hd hk
    obtain ⟨k, rfl⟩ : ∃ m, k = m + 1 := ⟨k - 1, by omega⟩
    have hi : i < l.length := by omega
    simp only [digest_bytes.l0]
    rw [if_pos (by omega), if_pos (by omega), if_pos (by omega), mixf, wrap_rd hb hi, wrap_up (by omega), bs, ih k _ (i + 1) (by omega) (by omega) (by omega), List.drop_eq_getElem_cons hi]
    rfl
theorem Sum_f {l : List Int} (hb : Bytes l) (hl : l.length ≤ 225179981368000) {k : Nat} (hk : l.length < k) (key : Int) : digest_Sum.f k key l = some (sumOf key l) := by
  unfold digest_Sum.f digest_bytes.f
  have := bytes_l0 l l hb hl l.length k (M.mix 14695981039346656037 key) 0 (by omega) (by omega) hk
  rw [List.drop_zero] at this
  have e : digest_bytes.l0 k (M.mix 14695981039346656037 key) l l (l.length : Int) 0 = digest_bytes.l0 k (M.mix 14695981039346656037 key) l l (l.length : Int) ((0 : Nat) : Int) := rfl
  rw [mixf, bs, e, this, bs]
  rfl

/-! ### Put -/
theorem fput_l0 {p : List Int} {s : Int} (d : Nat) : ∀ (k i : Nat) (out : List Int), i + d = 8 → d < k → out.length + d + p.length < 225179981368000 →
    frame_Put.l0 k p out s (i : Int) = some (out ++ (eightN d (s / 256 ^ i) ++ p)) := by
  induction d with
  | zero =>
    intro k i out hi hk hl
    obtain ⟨k, rfl⟩ : ∃ m, k = m + 1 := ⟨k - 1, by omega⟩
    simp only [frame_Put.l0]
    rw [if_neg (show ¬(i : Int) < 8 by omega), if_pos (by omega)]
    rfl
  | succ d ih =>
    intro k i out hi hk hl
    obtain ⟨k, rfl⟩ : ∃ m, k = m + 1 := ⟨k - 1, by omega⟩
    simp only [frame_Put.l0]
    have e : s / 256 ^ i / 256 = s / 256 ^ (i + 1) := by rw [Int.pow_succ, Int.ediv_ediv_of_nonneg (Int.le_of_lt (pow_256_pos i))]
    rw [if_pos (show (i : Int) < 8 by omega), wrap_8 (by omega), if_pos (show (0 : Int) ≤ ((8 * i : Nat) : Int) by omega), if_pos (by omega), shr_8 (by omega), wrap_up (by omega), ih k (i + 1) _ (by omega) (by omega) (by simp; omega)]
    simp only [eightN, List.append_assoc, List.singleton_append, e]
    rfl
/-- What Put appends. -/
def put (key : Int) (p : List Int) : List Int := if (p.length : Int) > 65536 then [] else fr key p
theorem put_len (key : Int) (p : List Int) : (put key p).length ≤ 65554 := by
  unfold put
  split
  · simp
  · have := (int_len (p.length : Int)).1
    rw [fr_len]
    omega
theorem Put_f {k : Nat} {b p : List Int} {key : Int} (hp : Bytes p) (hk : 65560 ≤ k) (hb : b.length ≤ 225179981290000) : frame_Put.f k b key p = some (b ++ put key p) := by
  unfold frame_Put.f put
  by_cases h : (p.length : Int) > 65536
  · rw [if_pos h, if_pos h, if_pos (by simp; omega), List.nil_append, List.append_nil]
  · have h10 := (int_len (p.length : Int)).1
    rw [if_neg h, if_neg h, Int_f (by omega) (by omega) (by omega) (by omega), bs, Sum_f hp (by omega) (by omega), bs]
    have := fput_l0 (p := p) (s := sumOf key p) 8 k 0 (b ++ int (p.length : Int)) (by omega) (by omega) (by rw [List.length_append]; omega)
    have e : frame_Put.l0 k p (b ++ int (p.length : Int)) (sumOf key p) 0 = frame_Put.l0 k p (b ++ int (p.length : Int)) (sumOf key p) ((0 : Nat) : Int) := rfl
    have e1 : sumOf key p / 256 ^ 0 = sumOf key p := by simp
    rw [e, this, e1, List.append_assoc]
    rfl
theorem put_small {key : Int} {p : List Int} (h : p.length ≤ 65536) : put key p = fr key p := by unfold put; rw [if_neg (by omega)]
theorem put_bytes {key : Int} {p : List Int} (hp : Bytes p) : Bytes (put key p) := by
  unfold put
  split
  · exact Bytes.nil
  · exact fr_bytes hp (by omega)

/-! ### Take -/
theorem number_l0 {q : List Int} (hb : Bytes q) (hq : q.length = 8) (d : Nat) : ∀ (k i : Nat) (acc : Int), i + d = 8 → d < k → 0 ≤ acc → acc < 256 ^ i →
    frame_number.l0 k acc q (q.length : Int) (i : Int) = some (acc + 256 ^ i * num (q.drop i)) := by
  induction d with
  | zero =>
    intro k i acc hi hk h0 h1
    obtain ⟨k, rfl⟩ : ∃ m, k = m + 1 := ⟨k - 1, by omega⟩
    simp only [frame_number.l0]
    rw [if_neg (show ¬(i : Int) < (q.length : Int) by omega), List.drop_eq_nil_of_le (by omega)]
    simp [num]
  | succ d ih =>
    intro k i acc hi hk h0 h1
    obtain ⟨k, rfl⟩ : ∃ m, k = m + 1 := ⟨k - 1, by omega⟩
    have hlt : i < q.length := by omega
    have hx := byte_at hb hlt
    have e : IntKind.u64.wrap q[i] = q[i] := by rw [wrap_u64]; omega
    have hu := acc_8 h0 h1 hx.1 hx.2
    simp only [frame_number.l0]
    rw [if_pos (show (i : Int) < (q.length : Int) by omega), if_pos (show (0 : Int) ≤ (i : Int) by omega), if_pos (show (i : Int) < (q.length : Int) by omega), wrap_8 (by omega), if_pos (show (0 : Int) ≤ ((8 * i : Nat) : Int) by omega), rd_nat q hlt, e, shl_8 (by omega) hx.1 hx.2, or_8 (by omega) h0 h1 hx.1 hx.2, wrap_up (by omega), ih k (i + 1) _ (by omega) (by omega) hu.1 hu.2, List.drop_eq_getElem_cons hlt]
    simp only [num]
    congr 1
    rw [Int.mul_add, Int.pow_succ, ← Int.mul_assoc, Int.mul_comm q[i]]
    omega
theorem number_f {k : Nat} {b : List Int} (hb : Bytes b) (h8 : 8 ≤ b.length) (hk : 8 < k) : frame_number.f k b = some (num (b.take 8)) := by
  unfold frame_number.f
  have hl : (b.take 8).length = 8 := by rw [List.length_take]; omega
  have := number_l0 (hb.take 8) hl 8 k 0 0 (by omega) (by omega) (by omega) (by simp)
  rw [if_pos (by omega)]
  have e : frame_number.l0 k 0 (b.take 8) ((b.take 8).length : Int) 0 = frame_number.l0 k 0 (b.take 8) ((b.take 8).length : Int) ((0 : Nat) : Int) := rfl
  rw [e, this]
  simp
theorem aux_end {k n L : Int} (h : 0 ≤ k) (hk : k ≤ 225179981368000) (hn : 0 ≤ n) (hn2 : n ≤ 65536) (hL : 0 ≤ L) (hL2 : L ≤ 225179981368000) :
    wrap64 (L - k) = L - k ∧ wrap64 (8 + n) = n + 8 ∧ wrap64 (n + 8) = n + 8 ∧ wrap64 (k + 8) = k + 8 ∧ wrap64 (k + 8 + n) = k + 8 + n := by
  unfold wrap64
  omega
theorem aux_cut {b : List Int} {j : Nat} {n : Int} (n0 : ¬n < 0) (hs : ¬(b.length : Int) - (j : Int) < n + 8) : ((b.drop (j + 8)).take n.toNat).length = n.toNat := by
  rw [List.length_take, List.length_drop]
  omega
theorem cut_is (b : List Int) {k n : Int} (hk : 0 ≤ k) (hn : 0 ≤ n) : (b.take (k + 8 + n).toNat).drop (k + 8).toNat = (b.drop (k.toNat + 8)).take n.toNat := by
  rw [List.drop_take]
  have e1 : (k + 8).toNat = k.toNat + 8 := by omega
  have e2 : (k + 8 + n).toNat - (k.toNat + 8) = n.toNat := by omega
  rw [e1, e2]
theorem fTake_f {k : Nat} {b : List Int} {key : Int} (hb : Bytes b) (hl : b.length ≤ 225179981368000) (hk : 65560 ≤ k) : frame_Take.f k b key = some (ftake key b) := by
  unfold frame_Take.f ftake
  rw [TakeInt_f hb hl (by omega), bs]
  have ht : take b = ((take b).1, (take b).2.1, (take b).2.2) := rfl
  generalize hn : (take b).1 = n at ht ⊢
  generalize hu : (take b).2.1 = u at ht ⊢
  generalize he : (take b).2.2 = e at ht ⊢
  rcases take_is hb ht with ⟨rfl, hr, j, rfl, h1, hj, hjl⟩ | ⟨rfl, rfl, h17⟩
  · rw [if_pos rfl, if_pos rfl]
    by_cases n0 : n < 0
    · rw [if_pos n0, if_pos n0]
    · rw [if_neg n0, if_neg n0]
      by_cases nb : n > 65536
      · rw [if_pos nb, if_pos nb]
      · have a1 : (0 : Int) ≤ (j : Int) := by omega
        have a2 : (j : Int) ≤ 225179981368000 := by omega
        have a3 : 0 ≤ n := by omega
        have a4 : n ≤ 65536 := by omega
        have a5 : (0 : Int) ≤ (b.length : Int) := by omega
        have a6 : (b.length : Int) ≤ 225179981368000 := by omega
        by_cases hs : (b.length : Int) - (j : Int) < n + 8
        · have hw := aux_end a1 a2 a3 a4 a5 a6
          rw [if_neg nb, if_neg nb, hw.1, hw.2.1, if_pos hs, if_pos hs]
        · have hd : Bytes (b.drop j) := hb.drop j
          have hp : Bytes ((b.drop (j + 8)).take n.toNat) := (hb.drop _).take _
          have hpl : ((b.drop (j + 8)).take n.toNat).length = n.toNat := aux_cut n0 hs
          have c1 : (0 : Int) ≤ (j : Int) + 8 := by omega
          have c2 : (j : Int) + 8 ≤ (j : Int) + 8 + n := by omega
          have c3 : (j : Int) + 8 + n ≤ (b.length : Int) := by omega
          have c4 : (0 : Int) ≤ (j : Int) := by omega
          have c5 : (j : Int) ≤ (b.length : Int) := by omega
          have c6 : 0 ≤ n := by omega
          have c7 : 8 ≤ (b.drop j).length := by rw [List.length_drop]; omega
          have c8 : ((b.drop (j + 8)).take n.toNat).length ≤ 225179981368000 := by rw [hpl]; omega
          have c9 : ((b.drop (j + 8)).take n.toNat).length < k := by rw [hpl]; omega
          have c10 : ([] : List Int).length + ((b.drop (j + 8)).take n.toNat).length < 225179981368000 := by rw [List.length_nil, hpl]; omega
          have hnum := number_f (k := k) hd c7 (by omega)
          have hsm := Sum_f hp c8 c9 key
          have hw := aux_end a1 a2 a3 a4 a5 a6
          rw [if_neg nb, if_neg nb, hw.1, hw.2.1, hw.2.2.2.1, hw.2.2.2.2, if_neg hs, if_neg hs, if_pos c1, if_pos c2, if_pos c3, if_pos c4, if_pos c5, cut_is b c4 c6, Int.toNat_natCast, hnum, bs, hsm, bs]
          by_cases hsum : num ((b.drop j).take 8) = sumOf key ((b.drop (j + 8)).take n.toNat)
          · rw [if_pos hsum, if_pos hsum, if_pos c10, List.nil_append]
          · rw [if_neg hsum, if_neg hsum]
  · rw [if_neg (by omega), if_neg (by omega)]

/-! ### the sanity check -/
theorem awake_f {k : Nat} (hk : 65560 ≤ k) : cellplanelaw03_awake.f k = some true := by
  have hb : Bytes [7] := fun x hx => by simp at hx; omega
  have i1 : int 1 = [2] := by decide +kernel
  have hlen : (fr 5 [7]).length = 10 := by rw [fr_len]; show (int 1).length + 8 + 1 = 10; rw [i1]; rfl
  have hfb : Bytes (fr 5 [7]) := fr_bytes hb (by simp)
  have hm : mx (wrap64 (((fr 5 [7]).length : Int) - 1)) 0 = 9 := by rw [hlen]; decide +kernel
  have t1 := ftake_fr (key := 5) (p := [7]) (by simp) []
  rw [List.append_nil, hlen] at t1
  have t2 := ftake_cut (a := 5) (key := 5) (p := [7]) (by simp) (j := 9) (by rw [hlen]; omega)
  unfold cellplanelaw03_awake.f
  rw [Put_f hb (by omega) (by simp), bs, List.nil_append, put_small (by simp), fTake_f hfb (by omega) hk, bs, hm, if_pos (by omega), if_pos (by rw [hlen]; omega)]
  show (frame_Take.f k ((fr 5 [7]).take 9) 5).bind _ = _
  rw [fTake_f (hfb.take 9) (by rw [List.length_take]; omega) hk, bs, t1, t2, hlen]
  rfl

theorem FrameBack : cellplanelaw03_FrameBack.Pure := by
  intro key p more hkey hm1 hl1 hx1 hm2 hl2 hx2
  have hp := bytes_of hx1
  have hm := bytes_of hx2
  refine ⟨70000, ?_⟩
  unfold cellplanelaw03_FrameBack.f
  by_cases h : (p.length : Int) > 65536
  · rw [if_pos h, awake_f (by omega), bs, if_pos rfl, Put_f hp (by omega) (by simp), bs]
    unfold put
    rw [if_pos h]
    rfl
  · have hlen := fr_len key p
    have h10 := (int_len (p.length : Int)).1
    have hf : Bytes (fr key p) := fr_bytes hp (by omega)
    rw [if_neg h, Put_f hp (by omega) (by simp), bs, bs, put_small (by omega)]
    simp only [List.nil_append]
    rw [if_pos (show ([] : List Int).length + (fr key p).length < 225179981368000 by rw [List.length_nil]; omega), bs, if_pos (show (fr key p).length + more.length < 225179981368000 by omega), fTake_f (hf.append hm) (by rw [List.length_append]; omega) (by omega), bs, ftake_fr (by omega) more, awake_f (by omega), bs, if_pos rfl]
    dsimp only
    rw [if_pos rfl, if_pos rfl, Same_f hp hp, bs, decide_eq_true rfl]

end Go.Proofs.Ytjmbcdbnglconaa.Pure
