/- Plain facts on the bytes of integers: what is written, what is read, that reading gives back what was written, and that no code begins another. No condition. -/
import Derived.Laws.BytesArg
import Derived.Laws.BitsLemmas
import Derived.RowKit
import Derived.Test.YtgbdabhjcimbbaaWWords
import Derived.Test.YtgbdabhjcimbbaaWMore
set_option linter.unusedVariables false
set_option linter.unusedSimpArgs false
namespace Go.Proofs.Ytgbdabhjcimbbaa.WM
open Go.RowKit Go.Proofs.YtgbdabhjcimbbaaW.PrintWords Go.Proofs.YtgbdabhjcimbbaaW.PrintMore

/-! ### small things -/
theorem bs {α β : Type} (a : α) (f : α → Option β) : (some a).bind f = f a := by
  have h : ∀ x : Option α, x = some a → x.bind f = f a := fun x hx => by rw [hx]; rfl
  exact h _ rfl
theorem wrap_u64 (n : Int) : IntKind.u64.wrap n = n % 18446744073709551616 := by simp [IntKind.wrap, IntKind.bits, IntKind.signed]
theorem i64_of {a : Int} (h : (Lit.int .i64 a).wf = true) : -9223372036854775808 ≤ a ∧ a ≤ 9223372036854775807 := by
  simp [Lit.wf, IntKind.min, IntKind.max, IntKind.bits, IntKind.signed] at h
  omega
theorem u8_of {a : Int} (h : (Lit.int .u8 a).wf = true) : 0 ≤ a ∧ a ≤ 255 := by
  simp [Lit.wf, IntKind.min, IntKind.max, IntKind.bits, IntKind.signed] at h
  omega
theorem wrap_id {a : Int} (h : -9223372036854775808 ≤ a) (h2 : a ≤ 9223372036854775807) : wrap64 a = a := by unfold wrap64; omega
/-- All elements are bytes. -/
def Bytes (l : List Int) : Prop := ∀ x ∈ l, 0 ≤ x ∧ x ≤ 255
theorem bytes_of {l : List Int} (h : ∀ x ∈ l, (Lit.int .u8 x).wf = true) : Bytes l := fun x hx => u8_of (h x hx)
theorem Bytes.nil : Bytes [] := fun x hx => by simp at hx
theorem Bytes.append {l m : List Int} (h : Bytes l) (h2 : Bytes m) : Bytes (l ++ m) := fun x hx => by
  rcases List.mem_append.1 hx with h1 | h1
  · exact h x h1
  · exact h2 x h1
theorem Bytes.left {l m : List Int} (h : Bytes (l ++ m)) : Bytes l := fun x hx => h x (List.mem_append_left _ hx)
theorem Bytes.right {l m : List Int} (h : Bytes (l ++ m)) : Bytes m := fun x hx => h x (List.mem_append_right _ hx)
theorem Bytes.drop {l : List Int} (h : Bytes l) (n : Nat) : Bytes (l.drop n) := fun x hx => h x (List.mem_of_mem_drop hx)
theorem Bytes.take {l : List Int} (h : Bytes l) (n : Nat) : Bytes (l.take n) := fun x hx => h x (List.mem_of_mem_take hx)
theorem Bytes.set {l : List Int} (h : Bytes l) (n : Nat) {c : Int} (h0 : 0 ≤ c) (h1 : c ≤ 255) : Bytes (l.set n c) := fun x hx => by
  rcases List.mem_or_eq_of_mem_set hx with h2 | h2
  · exact h x h2
  · rw [h2]; exact ⟨h0, h1⟩
theorem bytes_bytesOf (s : ByteArray) : Bytes (bytesOf s) := fun x hx => by
  simp only [bytesOf, List.mem_map] at hx
  obtain ⟨b, _, rfl⟩ := hx
  have := b.toNat_lt
  omega
theorem rd_nat (l : List Int) {i : Nat} (hi : i < l.length) : rd l (i : Int) = l[i] := by simp [rd, hi]

/-! ### bit operations on numbers without a sign -/
theorem or_u8 {x : Int} (h0 : 0 ≤ x) (h1 : x < 256) : Go.bits .or .u8 x 128 = x % 128 + 128 := by
  obtain ⟨a, rfl⟩ := Int.eq_ofNat_of_zero_le h0
  have ha : a < 256 := by omega
  have h := (bits_nat .u8 8 (by decide) wraps_u8 a 128 (by omega) (by omega)).2
  have e : ∀ a < 256, a ||| 128 = a % 128 + 128 := by decide +kernel
  have h2 : Go.bits .or .u8 (a : Int) 128 = ((a ||| 128 : Nat) : Int) := h
  rw [h2, e a ha]
  omega
theorem wraps_u64 (n : Int) (h₀ : 0 ≤ n) (h₁ : n < 2 ^ 64) : IntKind.u64.wrap n = n := by rw [wrap_u64]; omega
theorem or_comm_u64 (x y : Int) : Go.bits .or .u64 x y = Go.bits .or .u64 y x := by
  unfold Go.bits
  simp only [BitVec.or_comm]
theorem or_join {x y : Int} (j : Nat) (hx : 0 ≤ x) (hx1 : x < 2 ^ j) (hj : j ≤ 64) (hy : 0 ≤ y) (hy1 : y < 18446744073709551616) (hm : y % 2 ^ j = 0) : Go.bits .or .u64 x y = x + y := by
  rw [or_comm_u64, bits_join .u64 64 (by decide) wraps_u64 j y x hy hm hy1 hx hx1 ?_]
  · omega
  · have : (2 : Int) ^ j ≤ 2 ^ 64 := by
      have := Nat.pow_le_pow_right (n := 2) (by decide) hj
      exact_mod_cast this
    omega
theorem xor_u64 (x y : Int) : Go.bits .xor .u64 x y = ((BitVec.ofInt 64 x ^^^ BitVec.ofInt 64 y).toNat : Int) := by
  have e : Go.bits .xor .u64 x y = IntKind.u64.wrap ((BitVec.ofInt 64 x ^^^ BitVec.ofInt 64 y).toNat : Int) := rfl
  rw [e, wrap_u64]
  have := (BitVec.ofInt 64 x ^^^ BitVec.ofInt 64 y).isLt
  omega
theorem toNat_ofInt {x : Int} (h0 : 0 ≤ x) (h1 : x < 18446744073709551616) : ((BitVec.ofInt 64 x).toNat : Int) = x := by
  rw [BitVec.toNat_ofInt]
  have e : ((2 ^ 64 : Nat) : Int) = 18446744073709551616 := by decide
  rw [e]
  omega
theorem xor_zero_u64 {x : Int} (h0 : 0 ≤ x) (h1 : x < 18446744073709551616) : Go.bits .xor .u64 x 0 = x := by
  rw [xor_u64]
  have e : BitVec.ofInt 64 0 = 0#64 := by decide
  rw [e, BitVec.xor_zero, toNat_ofInt h0 h1]
theorem xor_ones_u64 {x : Int} (h0 : 0 ≤ x) (h1 : x < 18446744073709551616) : Go.bits .xor .u64 x 18446744073709551615 = 18446744073709551615 - x := by
  rw [xor_u64]
  have e : BitVec.ofInt 64 18446744073709551615 = BitVec.allOnes 64 := by decide
  rw [e, BitVec.xor_allOnes, BitVec.toNat_not]
  have h := toNat_ofInt h0 h1
  have h2 := (BitVec.ofInt 64 x).isLt
  omega
theorem xor_i64 (x y : Int) : Go.bits .xor .i64 x y = IntKind.i64.wrap ((BitVec.ofInt 64 x ^^^ BitVec.ofInt 64 y).toNat : Int) := rfl
theorem xor_zero_i64 {x : Int} (h0 : 0 ≤ x) (h1 : x < 9223372036854775808) : Go.bits .xor .i64 x 0 = x := by
  rw [xor_i64]
  have e : BitVec.ofInt 64 0 = 0#64 := by decide
  rw [e, BitVec.xor_zero, toNat_ofInt h0 (by omega), IntKind.wrap_i64]
  omega
theorem xor_ones_i64 {x : Int} (h0 : 0 ≤ x) (h1 : x < 9223372036854775808) : Go.bits .xor .i64 x (-1) = -x - 1 := by
  rw [xor_i64]
  have e : BitVec.ofInt 64 (-1) = BitVec.allOnes 64 := by decide
  rw [e, BitVec.xor_allOnes, BitVec.toNat_not, IntKind.wrap_i64]
  have h := toNat_ofInt h0 (by omega : x < 18446744073709551616)
  have h2 := (BitVec.ofInt 64 x).isLt
  omega
theorem and_one_u64 {x : Int} (h0 : 0 ≤ x) (h1 : x < 18446744073709551616) : Go.bits .and .u64 x 1 = x % 2 := by
  have := bits_mask .u64 64 (by decide) wraps_u64 1 (by decide) x h0 h1
  simpa using this

theorem pow_7 (i : Nat) : (2 : Int) ^ (7 * i) = 128 ^ i := by
  have h : (2 : Nat) ^ (7 * i) = 128 ^ i := by rw [Nat.pow_mul]
  exact_mod_cast h
theorem wrap_7 {i : Nat} (hi : i ≤ 9) : wrap64 (7 * (i : Int)) = ((7 * i : Nat) : Int) := by unfold wrap64; omega
theorem wrap_7u {i : Nat} (hi : i ≤ 9) : IntKind.u64.wrap (wrap64 (7 * (i : Int))) = ((7 * i : Nat) : Int) := by rw [wrap_7 hi, wrap_u64]; omega
/-- A shift by seven times a number. -/
theorem shl_7 {i : Nat} (hi : i ≤ 9) {x : Int} (h0 : 0 ≤ x) (h1 : x * 128 ^ i < 18446744073709551616) : shl .u64 x ((7 * i : Nat) : Int) = x * 128 ^ i := by
  unfold shl
  have e : min ((7 * i : Nat) : Int).toNat IntKind.u64.bits = 7 * i := by
    simp only [Int.toNat_natCast, IntKind.bits]
    omega
  rw [e, pow_7, wrap_u64]
  have : 0 ≤ x * 128 ^ i := Int.mul_nonneg h0 (Int.le_of_lt (Int.pow_pos (by decide)))
  exact Int.emod_eq_of_lt this h1
theorem pow_128_le {i j : Nat} (h : i ≤ j) : (128 : Int) ^ i ≤ 128 ^ j := by
  have := Nat.pow_le_pow_right (n := 128) (by decide) h
  exact_mod_cast this
theorem small_7 {i : Nat} (hi : i ≤ 8) {x : Int} (h0 : 0 ≤ x) (h1 : x < 128) : x * 128 ^ i < 18446744073709551616 := by
  have h := pow_128_le hi
  have e : (128 : Int) ^ 8 = 72057594037927936 := by decide
  have h2 : x * 128 ^ i ≤ x * 128 ^ 8 := Int.mul_le_mul_of_nonneg_left h h0
  omega
theorem last_7 {i : Nat} (hi : i ≤ 9) {x : Int} (h0 : 0 ≤ x) (h1 : x ≤ 1) : x * 128 ^ i < 18446744073709551616 := by
  have h := pow_128_le hi
  have e : (128 : Int) ^ 9 = 9223372036854775808 := by decide
  have h2 : x * 128 ^ i ≤ x * 128 ^ 9 := Int.mul_le_mul_of_nonneg_left h h0
  omega
theorem or_7 {i : Nat} (hi : i ≤ 9) {acc x : Int} (ha : 0 ≤ acc) (ha1 : acc < 128 ^ i) (h0 : 0 ≤ x) (h1 : x * 128 ^ i < 18446744073709551616) : Go.bits .or .u64 acc (x * 128 ^ i) = acc + x * 128 ^ i := by
  refine or_join (7 * i) ha (by rw [pow_7]; exact ha1) (by omega) (Int.mul_nonneg h0 (Int.le_of_lt (Int.pow_pos (by decide)))) h1 ?_
  rw [pow_7]
  exact Int.mul_emod_left _ _
theorem acc_up {i : Nat} {acc x : Int} (ha : 0 ≤ acc) (ha1 : acc < 128 ^ i) (h0 : 0 ≤ x) (h1 : x < 128) : 0 ≤ acc + x * 128 ^ i ∧ acc + x * 128 ^ i < 128 ^ (i + 1) := by
  have hp : (0 : Int) < 128 ^ i := Int.pow_pos (by decide)
  have h2 : 0 ≤ x * 128 ^ i := Int.mul_nonneg h0 (by omega)
  have e : (128 : Int) ^ (i + 1) = 128 * 128 ^ i := by rw [Int.pow_succ]; exact Int.mul_comm _ _
  have h3 : x * 128 ^ i ≤ 127 * 128 ^ i := Int.mul_le_mul_of_nonneg_right (by omega) (by omega)
  rw [e]
  omega
/-- The sum of what was read and of the last byte is a code. -/
theorem acc_last {i : Nat} (hi : i ≤ 9) {acc x : Int} (ha : 0 ≤ acc) (ha1 : acc < 128 ^ i) (h0 : 0 ≤ x) (h1 : x < 128) (h9 : i = 9 → x ≤ 1) : x * 128 ^ i < 18446744073709551616 ∧ 0 ≤ acc + x * 128 ^ i ∧ acc + x * 128 ^ i < 18446744073709551616 := by
  have hp : (0 : Int) < 128 ^ i := Int.pow_pos (by decide)
  have h2 : 0 ≤ x * 128 ^ i := Int.mul_nonneg h0 (by omega)
  by_cases e : i = 9
  · have := h9 e
    subst e
    have e9 : (128 : Int) ^ 9 = 9223372036854775808 := by decide
    rw [e9] at ha1 ⊢
    omega
  · have h3 := acc_up ha ha1 h0 h1
    have h4 := pow_128_le (show i + 1 ≤ 9 by omega)
    have e9 : (128 : Int) ^ 9 = 9223372036854775808 := by decide
    exact ⟨small_7 (by omega) h0 h1, h3.1, by omega⟩

/-! ### codes -/
/-- The code of an integer. -/
def code (n : Int) : Int := if 0 ≤ n then 2 * n else -2 * n - 1
/-- The integer of a code. -/
def dec (u : Int) : Int := if u % 2 = 0 then u / 2 else -(u / 2) - 1
theorem dec_code (n : Int) : dec (code n) = n := by unfold dec code; split <;> split <;> omega
theorem code_dec {u : Int} (h : 0 ≤ u) : code (dec u) = u := by unfold dec code; split <;> split <;> omega
theorem code_range {n : Int} (h : -9223372036854775808 ≤ n) (h2 : n ≤ 9223372036854775807) : 0 ≤ code n ∧ code n < 18446744073709551616 := by unfold code; split <;> omega
theorem dec_range {u : Int} (h : 0 ≤ u) (h2 : u < 18446744073709551616) : -9223372036854775808 ≤ dec u ∧ dec u ≤ 9223372036854775807 := by unfold dec; split <;> omega
theorem code_inj {n m : Int} (h : code n = code m) : n = m := by rw [← dec_code n, h, dec_code]

/-- How the program computes a code. -/
theorem code_xor {n : Int} (h : -9223372036854775808 ≤ n) (h2 : n ≤ 9223372036854775807) :
    Go.bits .xor .u64 (IntKind.u64.wrap ((IntKind.u64.wrap (n)) * 2)) (IntKind.u64.wrap (n / 9223372036854775808)) = code n := by
  rw [wrap_u64, wrap_u64, wrap_u64]
  unfold code
  by_cases h0 : 0 ≤ n
  · rw [if_pos h0]
    have e1 : n / 9223372036854775808 % 18446744073709551616 = 0 := by omega
    have e2 : n % 18446744073709551616 * 2 % 18446744073709551616 = 2 * n := by omega
    rw [e1, e2, xor_zero_u64 (by omega) (by omega)]
  · rw [if_neg h0]
    have e1 : n / 9223372036854775808 % 18446744073709551616 = 18446744073709551615 := by omega
    have e2 : n % 18446744073709551616 * 2 % 18446744073709551616 = 2 * n + 18446744073709551616 := by omega
    rw [e1, e2, xor_ones_u64 (by omega) (by omega)]
    omega
theorem dec_xor {u : Int} (h : 0 ≤ u) (h2 : u < 18446744073709551616) :
    Go.bits .xor .i64 (wrap64 (u / 2)) (wrap64 (-(wrap64 (Go.bits .and .u64 u 1)))) = dec u := by
  rw [and_one_u64 h h2]
  unfold dec
  by_cases e : u % 2 = 0
  · rw [if_pos e, e, wrap_id (by omega) (by omega)]
    have e1 : wrap64 (-(wrap64 0)) = 0 := by decide +kernel
    rw [e1, xor_zero_i64 (by omega) (by omega)]
  · rw [if_neg e]
    have e0 : u % 2 = 1 := by omega
    have e1 : wrap64 (-(wrap64 1)) = -1 := by decide +kernel
    rw [e0, e1, wrap_id (by omega) (by omega), xor_ones_i64 (by omega) (by omega)]

/-! ### what is written -/
/-- The bytes of a code; f: how many at most. -/
def encN : Nat → Int → List Int
  | 0, _ => []
  | f + 1, u => if 128 ≤ u then (u % 128 + 128) :: encN f (u / 128) else [u]
/-- The bytes of a code. -/
def enc (u : Int) : List Int := encN 10 u
/-- The bytes of an integer. -/
def int (n : Int) : List Int := enc (code n)
theorem encN_big (f : Nat) {u : Int} (h : 128 ≤ u) : encN (f + 1) u = (u % 128 + 128) :: encN f (u / 128) := by rw [encN, if_pos h]
theorem encN_small (f : Nat) {u : Int} (h : ¬128 ≤ u) : encN (f + 1) u = [u] := by rw [encN, if_neg h]
theorem encN_bytes (f : Nat) (u : Int) (h : 0 ≤ u) : Bytes (encN f u) := by
  induction f generalizing u with
  | zero => exact Bytes.nil
  | succ f ih =>
    intro x hx
    unfold encN at hx
    split at hx
    · rcases List.mem_cons.1 hx with h1 | h1
      · omega
      · exact ih (u / 128) (by omega) x h1
    · simp at hx
      omega
theorem encN_len (f : Nat) (u : Int) : (encN (f + 1) u).length ≤ f + 1 ∧ 1 ≤ (encN (f + 1) u).length := by
  induction f generalizing u with
  | zero => unfold encN; split <;> simp [encN]
  | succ f ih =>
    unfold encN
    split
    · have := ih (u / 128)
      simp only [List.length_cons]
      omega
    · simp
theorem int_len (n : Int) : (int n).length ≤ 10 ∧ 1 ≤ (int n).length := encN_len 9 _
theorem int_bytes {n : Int} (h : -9223372036854775808 ≤ n) (h2 : n ≤ 9223372036854775807) : Bytes (int n) := encN_bytes 10 _ (code_range h h2).1

/-! ### what is read -/
/-- What TakeInt returns, from byte i on, with what was read so far. -/
def scan : List Int → Nat → Int → Int × Int × Int
  | [], i, _ => if 10 ≤ i then (0, 0, 18) else (0, 0, 17)
  | c :: l, i, acc =>
    if i = 10 then (0, 0, 18)
    else if 128 ≤ c then scan l (i + 1) (acc + (c - 128) * 128 ^ i)
    else if 0 < i ∧ c = 0 ∨ i = 9 ∧ 1 < c then (0, 0, 18)
    else (dec (acc + c * 128 ^ i), (i : Int) + 1, 0)
/-- What TakeInt returns. -/
def take (l : List Int) : Int × Int × Int := scan l 0 0

theorem pow_split (i : Nat) (u : Int) : u % 128 * 128 ^ i + u / 128 * 128 ^ (i + 1) = u * 128 ^ i := by
  have h : u = u % 128 + 128 * (u / 128) := by omega
  have e : (128 : Int) ^ (i + 1) = 128 * 128 ^ i := by rw [Int.pow_succ]; exact Int.mul_comm _ _
  have h2 : u * 128 ^ i = (u % 128 + 128 * (u / 128)) * 128 ^ i := by rw [← h]
  rw [h2, e, Int.add_mul, Int.mul_assoc, ← Int.mul_assoc (u / 128), Int.mul_comm (u / 128) 128]
  rw [Int.mul_assoc 128 (u / 128)]

/-- What was written is read, whatever follows. -/
theorem scan_enc (more : List Int) (f : Nat) : ∀ (i : Nat) (u acc : Int), i + f = 9 → 0 ≤ u → u < 2 * 128 ^ f → (0 < i → 0 < u) →
    scan (encN (f + 1) u ++ more) i acc = (dec (acc + u * 128 ^ i), ((i + (encN (f + 1) u).length : Nat) : Int), 0) := by
  induction f with
  | zero =>
    intro i u acc hi h0 h1 hp
    have hu : u < 2 := by simpa using h1
    unfold encN
    rw [if_neg (by omega)]
    simp only [List.cons_append, List.nil_append, scan, List.length_cons, List.length_nil]
    rw [if_neg (by omega), if_neg (by omega), if_neg (by omega)]
    rfl
  | succ f ih =>
    intro i u acc hi h0 h1 hp
    unfold encN
    by_cases h : 128 ≤ u
    · rw [if_pos h]
      have hlt : u / 128 < 2 * 128 ^ f := by
        have e : (128 : Int) ^ (f + 1) = 128 ^ f * 128 := Int.pow_succ _ _
        rw [e] at h1
        omega
      simp only [List.cons_append, scan, List.length_cons]
      rw [if_neg (by omega), if_pos (by omega), ih (i + 1) (u / 128) _ (by omega) (by omega) hlt (by omega)]
      have e : u % 128 + 128 - 128 = u % 128 := by omega
      have e2 : acc + (u % 128 + 128 - 128) * 128 ^ i + u / 128 * 128 ^ (i + 1) = acc + u * 128 ^ i := by
        rw [e, ← pow_split i u]; omega
      rw [e2]
      have e3 : i + 1 + (encN (f + 1) (u / 128)).length = i + ((encN (f + 1) (u / 128)).length + 1) := by omega
      rw [e3]
    · rw [if_neg h]
      simp only [List.cons_append, List.nil_append, scan, List.length_cons, List.length_nil]
      rw [if_neg (by omega), if_neg (by omega), if_neg (by omega)]
      rfl
theorem take_int {n : Int} (h : -9223372036854775808 ≤ n) (h2 : n ≤ 9223372036854775807) (more : List Int) : take (int n ++ more) = (n, ((int n).length : Int), 0) := by
  have hc := code_range h h2
  have e : (2 : Int) * 128 ^ 9 = 18446744073709551616 := by decide
  have h3 := scan_enc more 9 0 (code n) 0 (by omega) hc.1 (by omega) (by omega)
  unfold take int enc
  rw [h3]
  simp [dec_code]

/-- What is accepted is what is written. -/
theorem enc_scan : ∀ (l : List Int) (f i : Nat) (acc n k e : Int), i + f = 10 → Bytes l → 0 ≤ acc → scan l i acc = (n, k, e) →
    (e = 0 ∧ ∃ u : Int, ∃ j : Nat, 0 ≤ u ∧ n = dec (acc + u * 128 ^ i) ∧ k = ((i + j : Nat) : Int) ∧ 1 ≤ j ∧ j ≤ l.length ∧ l.take j = encN f u ∧ (0 < i → 0 < u) ∧ 1 ≤ f ∧ u < 2 * 128 ^ (f - 1)) ∨
    (n = 0 ∧ k = 0 ∧ (e = 17 ∨ e = 18)) := by
  intro l
  induction l with
  | nil =>
    intro f i acc n k e hi hb ha h
    right
    simp only [scan] at h
    split at h <;> (simp only [Prod.mk.injEq] at h; omega)
  | cons c l ih =>
    intro f i acc n k e hi hb ha h
    have hc := hb c (List.mem_cons_self)
    have hbl : Bytes l := fun x hx => hb x (List.mem_cons_of_mem _ hx)
    simp only [scan] at h
    have hp : (0 : Int) < 128 ^ i := Int.pow_pos (by decide)
    split at h
    · right; simp only [Prod.mk.injEq] at h; omega
    · rename_i hi10
      obtain ⟨f, rfl⟩ : ∃ g, f = g + 1 := ⟨f - 1, by omega⟩
      split at h
      · rename_i h128
        have hnn : 0 ≤ (c - 128) * 128 ^ i := Int.mul_nonneg (by omega) (by omega)
        rcases ih f (i + 1) _ n k e (by omega) hbl (by omega) h with ⟨he, u, j, hu0, hn, hk, hj1, hjl, ht, hpos, hf, hlt⟩ | hr
        · left
          have hup := hpos (by omega)
          have eu : (c - 128) * 128 ^ i + u * 128 ^ (i + 1) = ((c - 128) + 128 * u) * 128 ^ i := by
            have e : (128 : Int) ^ (i + 1) = 128 * 128 ^ i := by rw [Int.pow_succ]; exact Int.mul_comm _ _
            rw [e, Int.add_mul, Int.mul_comm 128 u, Int.mul_assoc]
          refine ⟨he, (c - 128) + 128 * u, j + 1, by omega, ?_, by rw [hk]; omega, by omega, by simp only [List.length_cons]; omega, ?_, by omega, by omega, ?_⟩
          · rw [hn, Int.add_assoc, eu]
          · rw [List.take_succ_cons, ht]
            have h1 : 128 ≤ c - 128 + 128 * u := by omega
            have h2 : (c - 128 + 128 * u) / 128 = u := by omega
            have h3 : (c - 128 + 128 * u) % 128 + 128 = c := by omega
            rw [encN_big f h1, h2, h3]
          · obtain ⟨g, rfl⟩ : ∃ g, f = g + 1 := ⟨f - 1, by omega⟩
            have e : (128 : Int) ^ (g + 1) = 128 ^ g * 128 := Int.pow_succ _ _
            simp only [Nat.add_sub_cancel] at hlt ⊢
            rw [e]
            omega
        · right; exact hr
      · split at h
        · right; simp only [Prod.mk.injEq] at h; omega
        · rename_i h1 h2
          left
          simp only [Prod.mk.injEq] at h
          refine ⟨by omega, c, 1, by omega, h.1.symm, by rw [← h.2.1]; omega, by omega, by simp, ?_, by omega, by omega, ?_⟩
          · unfold encN
            rw [if_neg (by omega)]
            simp
          · simp only [Nat.add_sub_cancel]
            rcases Nat.eq_zero_or_pos f with hf | hf
            · subst hf
              simp
              omega
            · obtain ⟨g, rfl⟩ : ∃ g, f = g + 1 := ⟨f - 1, by omega⟩
              have e : (128 : Int) ^ (g + 1) = 128 ^ g * 128 := Int.pow_succ _ _
              have hg : (0 : Int) < 128 ^ g := Int.pow_pos (by decide)
              rw [e]
              omega
/-- What is accepted is what is written; else one of two errors, with nothing. -/
theorem take_is {l : List Int} (hb : Bytes l) {n k e : Int} (h : take l = (n, k, e)) :
    (e = 0 ∧ (-9223372036854775808 ≤ n ∧ n ≤ 9223372036854775807) ∧ ∃ j : Nat, k = (j : Int) ∧ 1 ≤ j ∧ j ≤ l.length ∧ l.take j = int n) ∨ (n = 0 ∧ k = 0 ∧ (e = 17 ∨ e = 18)) := by
  rcases enc_scan l 10 0 0 n k e (by omega) hb (by omega) h with ⟨he, u, j, h0, hn, hk, h1, hj, ht, _, _, hlt⟩ | hr
  · left
    have e2 : (2 : Int) * 128 ^ 9 = 18446744073709551616 := by decide
    have hd : n = dec u := by rw [hn]; simp
    have hr := dec_range h0 (by omega)
    refine ⟨he, by rw [hd]; exact hr, j, by rw [hk]; omega, h1, hj, ?_⟩
    unfold int enc
    rw [hd, code_dec h0]
    exact ht
  · exact .inr hr

/-- No code begins another one. -/
theorem int_prefix {n m : Int} (hn : -9223372036854775808 ≤ n) (hn2 : n ≤ 9223372036854775807) (hm : -9223372036854775808 ≤ m) (hm2 : m ≤ 9223372036854775807) {r s : List Int} (h : int n ++ r = int m ++ s) : n = m ∧ r = s := by
  have h1 := take_int hn hn2 r
  rw [h, take_int hm hm2 s] at h1
  simp only [Prod.mk.injEq] at h1
  obtain rfl := h1.1
  exact ⟨rfl, List.append_cancel_left h⟩

/-- The bytes of the elements of a list. -/
def ints (l : List Int) : List Int := l.flatMap int
theorem ints_cons (x : Int) (l : List Int) : ints (x :: l) = int x ++ ints l := rfl
theorem ints_append (l m : List Int) : ints (l ++ m) = ints l ++ ints m := List.flatMap_append
theorem ints_len (l : List Int) : (ints l).length ≤ 10 * l.length := by
  induction l with
  | nil => simp [ints]
  | cons x l ih =>
    have := (int_len x).1
    rw [ints_cons, List.length_append, List.length_cons]
    omega
def I64 (l : List Int) : Prop := ∀ x ∈ l, -9223372036854775808 ≤ x ∧ x ≤ 9223372036854775807
theorem i64s_of {l : List Int} (h : ∀ x ∈ l, (Lit.int .i64 x).wf = true) : I64 l := fun x hx => i64_of (h x hx)
theorem ints_bytes {l : List Int} (h : I64 l) : Bytes (ints l) := by
  induction l with
  | nil => exact Bytes.nil
  | cons x l ih =>
    rw [ints_cons]
    have hx := h x List.mem_cons_self
    exact (int_bytes hx.1 hx.2).append (ih fun y hy => h y (List.mem_cons_of_mem _ hy))
/-- Lists of one length with the same bytes are equal. -/
theorem ints_prefix : ∀ {l m : List Int}, I64 l → I64 m → l.length = m.length → ∀ {r s : List Int}, ints l ++ r = ints m ++ s → l = m ∧ r = s := by
  intro l
  induction l with
  | nil =>
    intro m hl hm hlen r s h
    have : m = [] := List.eq_nil_of_length_eq_zero hlen.symm
    subst this
    exact ⟨rfl, h⟩
  | cons x l ih =>
    intro m hl hm hlen r s h
    cases m with
    | nil => simp at hlen
    | cons y m =>
      rw [ints_cons, ints_cons, List.append_assoc, List.append_assoc] at h
      have hx := hl x List.mem_cons_self
      have hy := hm y List.mem_cons_self
      obtain ⟨rfl, h2⟩ := int_prefix hx.1 hx.2 hy.1 hy.2 h
      obtain ⟨rfl, h3⟩ := ih (fun z hz => hl z (List.mem_cons_of_mem _ hz)) (fun z hz => hm z (List.mem_cons_of_mem _ hz)) (by simpa using hlen) h2
      exact ⟨rfl, h3⟩
/-- The bytes of a list. -/
def list (l : List Int) : List Int := int l.length ++ ints l
theorem list_inj {l m : List Int} (hl : I64 l) (hm : I64 m) (h1 : l.length ≤ 140737488351232) (h2 : m.length ≤ 140737488351232) (h : list l = list m) : l = m := by
  unfold list at h
  obtain ⟨e, h3⟩ := int_prefix (by omega) (by omega) (by omega) (by omega) h
  have h4 : ints l ++ [] = ints m ++ [] := by rw [List.append_nil, List.append_nil]; exact h3
  exact (ints_prefix hl hm (by omega) h4).1

/-! ### texts made of bytes -/
theorem str_inj {l m : List Int} (hl : Bytes l) (hm : Bytes m) (h : (strOfNums l).toList = (strOfNums m).toList) : l = m := by
  have key : ∀ l : List Int, (strOfNums l).data.toList = l.map fun n => UInt8.ofNat n.toNat := fun l => by simp [strOfNums]
  have h2 : (strOfNums l).data.toList = (strOfNums m).data.toList := by
    have e : ∀ s : ByteArray, s.toList = s.data.toList := fun s => ByteArray.toList_eq s
    rw [← e, ← e]
    exact h
  rw [key, key] at h2
  clear h key
  induction l generalizing m with
  | nil =>
    cases m with
    | nil => rfl
    | cons y m => simp at h2
  | cons x l ih =>
    cases m with
    | nil => simp at h2
    | cons y m =>
      simp only [List.map_cons, List.cons.injEq] at h2
      have hx := hl x List.mem_cons_self
      have hy := hm y List.mem_cons_self
      have e := congrArg UInt8.toNat h2.1
      have e1 : x.toNat = y.toNat := by
        simp at e
        omega
      have e2 : x = y := by omega
      rw [e2, ih (fun z hz => hl z (List.mem_cons_of_mem _ hz)) (fun z hz => hm z (List.mem_cons_of_mem _ hz)) h2.2]
theorem str_same {l m : List Int} (hl : Bytes l) (hm : Bytes m) : ((strOfNums l).toList == (strOfNums m).toList) = decide (l = m) := by
  by_cases h : l = m
  · subst h; simp
  · rw [decide_eq_false h]
    exact beq_eq_false_iff_ne.2 fun e => h (str_inj hl hm e)
end Go.Proofs.Ytgbdabhjcimbbaa.WM
