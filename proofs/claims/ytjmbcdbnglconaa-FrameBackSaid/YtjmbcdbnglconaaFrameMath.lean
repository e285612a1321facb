/- Plain facts on frames: the bytes of a frame, what is read of bytes, that a frame is read back whatever follows, that a cut one is too short, and that a changed one or one under another key is not accepted. No condition. -/
import Derived.Test.YtjmbcdbnglconaaMath
import Derived.Test.YtjmbcdbnglconaaWireMath
set_option linter.unusedVariables false
set_option linter.unusedSimpArgs false
namespace Go.Proofs.Ytjmbcdbnglconaa.FM
open Go.RowKit Go.Proofs.YtjmbcdbnglconaaW.PrintWords Go.Proofs.YtjmbcdbnglconaaW.PrintMore Go.Proofs.Ytjmbcdbnglconaa.WM

/-! ### eight bytes -/
theorem pow_8 (i : Nat) : (2 : Int) ^ (8 * i) = 256 ^ i := by
  induction i with
  | zero => rfl
  | succ i ih =>
    have e : 8 * (i + 1) = 8 * i + 8 := by omega
    have e2 : (2 : Int) ^ 8 = 256 := by decide
    rw [e, Int.pow_add, ih, e2, Int.pow_succ]
theorem pow_256_pos (i : Nat) : (0 : Int) < 256 ^ i := Int.pow_pos (by decide)
theorem pow_256_le {i j : Nat} (h : i ≤ j) : (256 : Int) ^ i ≤ 256 ^ j := by
  obtain ⟨d, rfl⟩ : ∃ d, j = i + d := ⟨j - i, by omega⟩
  clear h
  induction d with
  | zero => exact Int.le_refl _
  | succ d ih =>
    have e : i + (d + 1) = (i + d) + 1 := by omega
    have hp := pow_256_pos (i + d)
    rw [e, Int.pow_succ]
    omega
theorem wrap_8 {i : Nat} (hi : i ≤ 8) : wrap64 (8 * (i : Int)) = ((8 * i : Nat) : Int) := by unfold wrap64; omega
theorem wrap_8u {i : Nat} (hi : i ≤ 8) : IntKind.u64.wrap (wrap64 (8 * (i : Int))) = ((8 * i : Nat) : Int) := by rw [wrap_8 hi, wrap_u64]; omega
theorem byte_8 {i : Nat} (hi : i ≤ 7) {x : Int} (h0 : 0 ≤ x) (h1 : x ≤ 255) : x * 256 ^ i < 18446744073709551616 := by
  have h := pow_256_le hi
  have e : (256 : Int) ^ 7 = 72057594037927936 := by decide
  have h2 : x * 256 ^ i ≤ x * 256 ^ 7 := Int.mul_le_mul_of_nonneg_left h h0
  omega
theorem shl_8 {i : Nat} (hi : i ≤ 7) {x : Int} (h0 : 0 ≤ x) (h1 : x ≤ 255) : shl .u64 x ((8 * i : Nat) : Int) = x * 256 ^ i := by
  unfold shl
  have e : min ((8 * i : Nat) : Int).toNat IntKind.u64.bits = 8 * i := by
    simp only [Int.toNat_natCast, IntKind.bits]
    omega
  rw [e, pow_8, wrap_u64]
  have : 0 ≤ x * 256 ^ i := Int.mul_nonneg h0 (Int.le_of_lt (pow_256_pos i))
  exact Int.emod_eq_of_lt this (byte_8 hi h0 h1)
theorem shr_8 {i : Nat} (hi : i ≤ 8) (x : Int) : shr .u64 x ((8 * i : Nat) : Int) = x / 256 ^ i := by
  unfold shr
  have e : min ((8 * i : Nat) : Int).toNat IntKind.u64.bits = 8 * i := by
    simp only [Int.toNat_natCast, IntKind.bits]
    omega
  rw [e, pow_8]
theorem or_8 {i : Nat} (hi : i ≤ 7) {acc x : Int} (ha : 0 ≤ acc) (ha1 : acc < 256 ^ i) (h0 : 0 ≤ x) (h1 : x ≤ 255) : Go.bits .or .u64 acc (x * 256 ^ i) = acc + x * 256 ^ i := by
  refine or_join (8 * i) ha (by rw [pow_8]; exact ha1) (by omega) (Int.mul_nonneg h0 (Int.le_of_lt (pow_256_pos i))) (byte_8 hi h0 h1) ?_
  rw [pow_8]
  exact Int.mul_emod_left _ _
theorem acc_8 {i : Nat} {acc x : Int} (ha : 0 ≤ acc) (ha1 : acc < 256 ^ i) (h0 : 0 ≤ x) (h1 : x ≤ 255) : 0 ≤ acc + x * 256 ^ i ∧ acc + x * 256 ^ i < 256 ^ (i + 1) := by
  have hp := pow_256_pos i
  have h2 : 0 ≤ x * 256 ^ i := Int.mul_nonneg h0 (by omega)
  have e : (256 : Int) ^ (i + 1) = 256 * 256 ^ i := by rw [Int.pow_succ]; exact Int.mul_comm _ _
  have h3 : x * 256 ^ i ≤ 255 * 256 ^ i := Int.mul_le_mul_of_nonneg_right (by omega) (by omega)
  rw [e]
  omega
/-- The bytes of a number, the lowest first. -/
def eightN : Nat → Int → List Int
  | 0, _ => []
  | f + 1, s => s % 256 :: eightN f (s / 256)
def eight (s : Int) : List Int := eightN 8 s
/-- The number of bytes, the lowest first. -/
def num : List Int → Int
  | [] => 0
  | c :: l => c + 256 * num l
theorem eightN_len (f : Nat) (s : Int) : (eightN f s).length = f := by
  induction f generalizing s with
  | zero => rfl
  | succ f ih => simp [eightN, ih]
theorem eight_len (s : Int) : (eight s).length = 8 := eightN_len 8 s
theorem eightN_bytes (f : Nat) (s : Int) : Bytes (eightN f s) := by
  induction f generalizing s with
  | zero => exact Bytes.nil
  | succ f ih =>
    intro x hx
    rcases List.mem_cons.1 hx with h | h
    · omega
    · exact ih _ x h
theorem eight_bytes (s : Int) : Bytes (eight s) := eightN_bytes 8 s
theorem num_eightN (f : Nat) : ∀ s : Int, 0 ≤ s → s < 256 ^ f → num (eightN f s) = s := by
  induction f with
  | zero =>
    intro s h0 h1
    have : s < 1 := by simpa using h1
    simp [eightN, num]
    omega
  | succ f ih =>
    intro s h0 h1
    have e : (256 : Int) ^ (f + 1) = 256 ^ f * 256 := Int.pow_succ _ _
    rw [e] at h1
    simp only [eightN, num]
    rw [ih (s / 256) (by omega) (by omega)]
    omega
theorem num_eight {s : Int} (h0 : 0 ≤ s) (h1 : s < 18446744073709551616) : num (eight s) = s := by
  have e : (256 : Int) ^ 8 = 18446744073709551616 := by decide
  exact num_eightN 8 s h0 (by omega)
/-- One byte changed: another number. -/
theorem num_set : ∀ (l : List Int), Bytes l → ∀ (k : Nat) (hk : k < l.length) (c : Int), num (l.set k c) = num l → l[k] = c := by
  intro l
  induction l with
  | nil => intro _ k hk; simp at hk
  | cons x l ih =>
    intro hb k hk c h
    cases k with
    | zero => simp [num] at h ⊢; omega
    | succ k =>
      simp only [List.set_cons_succ, num] at h
      exact ih (fun y hy => hb y (List.mem_cons_of_mem _ hy)) k (by simpa using hk) c (by omega)

/-! ### sums -/
/-- The sum of bytes under a key. -/
def sumOf (key : Int) (l : List Int) : Int := M.mix (M.many (M.mix 14695981039346656037 key) l) l.length
theorem sum_range (key : Int) (l : List Int) : 0 ≤ sumOf key l ∧ sumOf key l < 18446744073709551616 := M.mix_range _ _
theorem sum_keys {a b : Int} (ha : -9223372036854775808 ≤ a) (ha2 : a ≤ 9223372036854775807) (hb : -9223372036854775808 ≤ b) (hb2 : b ≤ 9223372036854775807) {l : List Int} (hs : sumOf a l = sumOf b l) : a = b := by
  unfold sumOf at hs
  have r1 := M.mix_range 14695981039346656037 a
  have r2 := M.mix_range 14695981039346656037 b
  have m1 := M.many_range r1.1 r1.2 l
  have m2 := M.many_range r2.1 r2.2 l
  exact M.mix_inj_right ha ha2 hb hb2 (M.many_inj r1.1 r1.2 r2.1 r2.2 l (M.mix_inj_left m1.1 m1.2 m2.1 m2.2 hs))
theorem sum_set {key : Int} {l : List Int} (hb : Bytes l) {k : Nat} (hk : k < l.length) {c : Int} (hc : 0 ≤ c) (hc2 : c ≤ 255) (hs : sumOf key l = sumOf key (l.set k c)) : l[k] = c := by
  unfold sumOf at hs
  rw [List.length_set] at hs
  have r1 := M.mix_range 14695981039346656037 key
  have m1 := M.many_range r1.1 r1.2 l
  have m2 := M.many_range r1.1 r1.2 (l.set k c)
  have hx := hb _ (List.getElem_mem hk)
  exact M.many_set r1.1 r1.2 l k hk c (by omega) (by omega) (by omega) (by omega) (M.mix_inj_left m1.1 m1.2 m2.1 m2.2 hs)

/-! ### frames -/
/-- The frame of bytes. -/
def fr (key : Int) (p : List Int) : List Int := int (p.length : Int) ++ (eight (sumOf key p) ++ p)
theorem fr_len (key : Int) (p : List Int) : (fr key p).length = (int (p.length : Int)).length + 8 + p.length := by
  unfold fr
  rw [List.length_append, List.length_append, eight_len]
  omega
theorem fr_bytes {key : Int} {p : List Int} (hp : Bytes p) (h : p.length ≤ 140737488351232) : Bytes (fr key p) := (int_bytes (by omega) (by omega)).append ((eight_bytes _).append hp)
/-- What Take returns. -/
def ftake (key : Int) (b : List Int) : List Int × Int × Int :=
  if (take b).2.2 = 0 then
    if (take b).1 < 0 then ([], 0, 18)
    else if (take b).1 > 65536 then ([], 0, 2)
    else if (b.length : Int) - (take b).2.1 < (take b).1 + 8 then ([], 0, 17)
    else if num ((b.drop (take b).2.1.toNat).take 8) = sumOf key ((b.drop ((take b).2.1.toNat + 8)).take (take b).1.toNat) then ((b.drop ((take b).2.1.toNat + 8)).take (take b).1.toNat, (take b).2.1 + 8 + (take b).1, 0)
    else ([], 0, 18)
  else ([], 0, (take b).2.2)
/-- What is read of a length, eight bytes and as many bytes as the length says, whatever follows. -/
theorem ftake_parts {key : Int} {s p more : List Int} (hs : s.length = 8) (hp : p.length ≤ 65536) :
    ftake key (int (p.length : Int) ++ (s ++ (p ++ more))) = if num s = sumOf key p then (p, (((int (p.length : Int)).length + 8 + p.length : Nat) : Int), 0) else ([], 0, 18) := by
  have ht := take_int (n := (p.length : Int)) (by omega) (by omega) (s ++ (p ++ more))
  unfold ftake
  rw [ht]
  have e1 : (int (p.length : Int) ++ (s ++ (p ++ more))).drop (int (p.length : Int)).length = s ++ (p ++ more) := List.drop_left' rfl
  have e2 : (int (p.length : Int) ++ (s ++ (p ++ more))).drop ((int (p.length : Int)).length + 8) = p ++ more := by
    rw [← List.drop_drop, e1]
    exact List.drop_left' hs
  have e3 : (s ++ (p ++ more)).take 8 = s := List.take_left' hs
  have e4 : (p ++ more).take p.length = p := List.take_left' rfl
  have hl : (int (p.length : Int) ++ (s ++ (p ++ more))).length = (int (p.length : Int)).length + (8 + (p.length + more.length)) := by
    rw [List.length_append, List.length_append, List.length_append, hs]
  simp only [Int.toNat_natCast]
  rw [if_pos trivial, if_neg (by omega), if_neg (by omega), if_neg (by rw [hl]; omega), e1, e2, e3, e4]
  have e5 : ((int (p.length : Int)).length : Int) + 8 + (p.length : Int) = (((int (p.length : Int)).length + 8 + p.length : Nat) : Int) := by omega
  rw [e5]
/-- A frame is read back, whatever follows. -/
theorem ftake_fr {key : Int} {p : List Int} (hp : p.length ≤ 65536) (more : List Int) : ftake key (fr key p ++ more) = (p, ((fr key p).length : Int), 0) := by
  have e : fr key p ++ more = int (p.length : Int) ++ (eight (sumOf key p) ++ (p ++ more)) := by simp [fr]
  have hr := sum_range key p
  rw [e, ftake_parts (eight_len _) hp, num_eight hr.1 hr.2, if_pos rfl, fr_len]
theorem ftake_keys {a b : Int} (ha : -9223372036854775808 ≤ a) (ha2 : a ≤ 9223372036854775807) (hb : -9223372036854775808 ≤ b) (hb2 : b ≤ 9223372036854775807) {p : List Int} (hp : p.length ≤ 65536) (hne : a ≠ b) : ftake b (fr a p) = ([], 0, 18) := by
  have e : fr a p = int (p.length : Int) ++ (eight (sumOf a p) ++ (p ++ [])) := by simp [fr]
  have hr := sum_range a p
  rw [e, ftake_parts (eight_len _) hp, num_eight hr.1 hr.2, if_neg (fun h => hne (sum_keys ha ha2 hb hb2 h))]
/-- A code that is cut is too short. -/
theorem scan_cut (f : Nat) : ∀ (u : Int) (i j : Nat) (acc : Int), i + f ≤ 9 → j < (encN (f + 1) u).length → scan ((encN (f + 1) u).take j) i acc = (0, 0, 17) := by
  induction f with
  | zero =>
    intro u i j acc hi hj
    have h1 : (encN (0 + 1) u).length = 1 := by
      have := encN_len 0 u
      omega
    obtain rfl : j = 0 := by omega
    rw [List.take_zero, scan, if_neg (by omega)]
  | succ f ih =>
    intro u i j acc hi hj
    cases j with
    | zero => rw [List.take_zero, scan, if_neg (by omega)]
    | succ j =>
      by_cases h : 128 ≤ u
      · rw [encN_big (f + 1) h] at hj ⊢
        rw [List.take_succ_cons, scan, if_neg (by omega), if_pos (by omega)]
        exact ih (u / 128) (i + 1) j _ (by omega) (by simpa using hj)
      · rw [encN_small (f + 1) h] at hj
        simp at hj
theorem take_cut {n : Int} {j : Nat} (hj : j < (int n).length) : take ((int n).take j) = (0, 0, 17) := scan_cut 9 (code n) 0 j 0 (by omega) hj
/-- A frame that is cut is too short, wherever it is cut. -/
theorem ftake_cut {a key : Int} {p : List Int} (hp : p.length ≤ 65536) {j : Nat} (hj : j < (fr a p).length) : ftake key ((fr a p).take j) = ([], 0, 17) := by
  rw [fr_len] at hj
  by_cases h : j < (int (p.length : Int)).length
  · have e : (fr a p).take j = (int (p.length : Int)).take j := by
      unfold fr
      rw [List.take_append_of_le_length (by omega)]
    unfold ftake
    rw [e, take_cut h]
    simp
  · obtain ⟨i, rfl⟩ : ∃ i, j = (int (p.length : Int)).length + i := ⟨j - (int (p.length : Int)).length, by omega⟩
    have e : (fr a p).take ((int (p.length : Int)).length + i) = int (p.length : Int) ++ (eight (sumOf a p) ++ p).take i := by
      unfold fr
      rw [List.take_append, List.take_of_length_le (by omega)]
      congr 2
      omega
    have ht := take_int (n := (p.length : Int)) (by omega) (by omega) ((eight (sumOf a p) ++ p).take i)
    unfold ftake
    rw [e, ht]
    have hl : (int (p.length : Int) ++ (eight (sumOf a p) ++ p).take i).length ≤ (int (p.length : Int)).length + i := by
      rw [List.length_append, List.length_take]
      omega
    simp only
    rw [if_pos trivial, if_neg (by omega), if_neg (by omega), if_pos (by omega)]
/-- A frame in which one byte behind its length is changed. -/
theorem ftake_set {key : Int} {p : List Int} (hb : Bytes p) (hp : p.length ≤ 65536) {j : Nat} (hj : j < 8 + p.length) {c : Int} (hc : 0 ≤ c) (hc2 : c ≤ 255) (hlt : (int (p.length : Int)).length + j < (fr key p).length) :
    ftake key ((fr key p).set ((int (p.length : Int)).length + j) c) = if (fr key p)[(int (p.length : Int)).length + j] = c then (p, ((fr key p).length : Int), 0) else ([], 0, 18) := by
  by_cases hsame : (fr key p)[(int (p.length : Int)).length + j] = c
  · rw [if_pos hsame]
    have e : (fr key p).set ((int (p.length : Int)).length + j) c = fr key p := by
      rw [← hsame]
      exact List.set_getElem_self hlt
    rw [e]
    have := ftake_fr (key := key) hp []
    rwa [List.append_nil] at this
  · rw [if_neg hsame]
    have hr := sum_range key p
    have hset : (fr key p).set ((int (p.length : Int)).length + j) c = int (p.length : Int) ++ (eight (sumOf key p) ++ p).set j c := by
      unfold fr
      rw [List.set_append_right _ _ (by omega)]
      congr 2
      omega
    have hget : (fr key p)[(int (p.length : Int)).length + j] = (eight (sumOf key p) ++ p)[j]'(by rw [List.length_append, eight_len]; exact hj) := by
      simp only [fr]
      rw [List.getElem_append_right (by omega)]
      congr 1
      omega
    rw [hget] at hsame
    rw [hset]
    by_cases h8 : j < 8
    · have e : (eight (sumOf key p) ++ p).set j c = (eight (sumOf key p)).set j c ++ (p ++ []) := by rw [List.set_append_left _ _ (by rw [eight_len]; exact h8), List.append_nil]
      have hg : (eight (sumOf key p) ++ p)[j]'(by rw [List.length_append, eight_len]; exact hj) = (eight (sumOf key p))[j]'(by rw [eight_len]; exact h8) := List.getElem_append_left (by rw [eight_len]; exact h8)
      rw [hg] at hsame
      rw [e, ftake_parts (by rw [List.length_set, eight_len]) hp]
      rw [if_neg]
      intro h
      refine hsame (num_set _ (eight_bytes _) j (by rw [eight_len]; exact h8) c ?_)
      rw [h, num_eight hr.1 hr.2]
    · obtain ⟨i, rfl⟩ : ∃ i, j = 8 + i := ⟨j - 8, by omega⟩
      have hi : i < p.length := by omega
      have e : (eight (sumOf key p) ++ p).set (8 + i) c = eight (sumOf key p) ++ (p.set i c ++ []) := by
        rw [List.set_append_right _ _ (by rw [eight_len]; omega), List.append_nil, eight_len]
        congr 2
        omega
      have hg : (eight (sumOf key p) ++ p)[8 + i]'(by rw [List.length_append, eight_len]; exact hj) = p[i] := by
        rw [List.getElem_append_right (by rw [eight_len]; omega)]
        congr 1
        rw [eight_len]
        omega
      rw [hg] at hsame
      have hl : p.length = (p.set i c).length := List.length_set.symm
      rw [e]
      have h2 := ftake_parts (key := key) (s := eight (sumOf key p)) (p := p.set i c) (more := []) (eight_len _) (by rw [List.length_set]; exact hp)
      rw [List.length_set] at h2
      rw [h2, num_eight hr.1 hr.2, if_neg]
      intro h
      exact hsame (sum_set hb hi hc hc2 h)
end Go.Proofs.Ytjmbcdbnglconaa.FM
