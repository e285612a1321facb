/- Plain facts on the mixing of 64-bit numbers: what Mix does to numbers is one-to-one in either argument. No condition. -/
import Derived.Laws.Entries
import Derived.RowKit
set_option linter.unusedVariables false
set_option linter.unusedSimpArgs false
namespace Go.Proofs.Ytjmbcdbnglconaa.M
open Go.RowKit

/-- One mix, on 64-bit vectors. -/
def mixB (h n : BitVec 64) : BitVec 64 :=
  (h ^^^ n) * 1099511628211#64 ^^^ ((h ^^^ n) * 1099511628211#64) >>> 29

theorem shx_back (y : BitVec 64) :
    ((y ^^^ y >>> 29) ^^^ (y ^^^ y >>> 29) >>> 29) ^^^ (y ^^^ y >>> 29) >>> 58 = y := by
  apply BitVec.eq_of_getLsbD_eq
  intro i hi
  simp only [BitVec.getLsbD_xor, BitVec.getLsbD_ushiftRight]
  have e1 : 29 + (29 + i) = 58 + i := by omega
  have e2 : y.getLsbD (29 + (58 + i)) = false := BitVec.getLsbD_of_ge _ _ (by omega)
  rw [e1, e2]
  cases y.getLsbD i <;> cases y.getLsbD (29 + i) <;> cases y.getLsbD (58 + i) <;> rfl

theorem shx_inj {y z : BitVec 64} (h : y ^^^ y >>> 29 = z ^^^ z >>> 29) : y = z := by
  rw [← shx_back y, ← shx_back z, h]

theorem mul_inj {y z : BitVec 64} (h : y * 1099511628211#64 = z * 1099511628211#64) : y = z := by
  have e : (1099511628211#64 : BitVec 64) * 14886173955864302971#64 = 1#64 := by decide +kernel
  have : y * 1099511628211#64 * 14886173955864302971#64 = z * 1099511628211#64 * 14886173955864302971#64 := by rw [h]
  rwa [BitVec.mul_assoc, BitVec.mul_assoc, e, BitVec.mul_one, BitVec.mul_one] at this

theorem mixB_xor {h n g m : BitVec 64} (e : mixB h n = mixB g m) : h ^^^ n = g ^^^ m := mul_inj (shx_inj e)

/-- One mix, on whole numbers, as the code computes it. -/
def mix (h n : Int) : Int :=
  Go.bits .xor .u64 (IntKind.u64.wrap ((Go.bits .xor .u64 h (IntKind.u64.wrap (n))) * 1099511628211)) ((IntKind.u64.wrap ((Go.bits .xor .u64 h (IntKind.u64.wrap (n))) * 1099511628211)) / 536870912)

theorem wrap_u64 (n : Int) : IntKind.u64.wrap n = n % 18446744073709551616 := by simp [IntKind.wrap, IntKind.bits, IntKind.signed]

theorem bits_xor (x y : Int) : Go.bits .xor .u64 x y = ((BitVec.ofInt 64 x ^^^ BitVec.ofInt 64 y).toNat : Int) := by
  have e : Go.bits .xor .u64 x y = IntKind.u64.wrap ((BitVec.ofInt 64 x ^^^ BitVec.ofInt 64 y).toNat : Int) := rfl
  rw [e, wrap_u64]
  have := (BitVec.ofInt 64 x ^^^ BitVec.ofInt 64 y).isLt
  omega

theorem ofInt_wrap (n : Int) : BitVec.ofInt 64 (IntKind.u64.wrap n) = BitVec.ofInt 64 n := by
  rw [wrap_u64]
  apply BitVec.eq_of_toNat_eq
  rw [BitVec.toNat_ofInt, BitVec.toNat_ofInt]
  have e : ((2 ^ 64 : Nat) : Int) = 18446744073709551616 := by decide
  rw [e, Int.emod_emod]

theorem ofInt_toNat (x : BitVec 64) : BitVec.ofInt 64 (x.toNat : Int) = x := by
  rw [BitVec.ofInt_natCast, BitVec.ofNat_toNat]
  simp

theorem toNat_wrap (n : Int) : ((BitVec.ofInt 64 n).toNat : Int) = IntKind.u64.wrap n := by
  rw [wrap_u64, BitVec.toNat_ofInt]
  have e : ((2 ^ 64 : Nat) : Int) = 18446744073709551616 := by decide
  rw [e]
  omega

theorem ofInt_mul (a b : Int) : BitVec.ofInt 64 (a * b) = BitVec.ofInt 64 a * BitVec.ofInt 64 b := BitVec.ofInt_mul _ _

theorem ofInt_shr (y : BitVec 64) : BitVec.ofInt 64 ((y.toNat : Int) / 536870912) = y >>> 29 := by
  apply BitVec.eq_of_toNat_eq
  rw [BitVec.toNat_ushiftRight, Nat.shiftRight_eq_div_pow]
  have h := y.isLt
  have e : ((y.toNat : Int) / 536870912) = ((y.toNat / 536870912 : Nat) : Int) := by omega
  rw [e, BitVec.ofInt_natCast, BitVec.toNat_ofNat]
  have e2 : (2 : Nat) ^ 29 = 536870912 := by decide
  rw [e2]
  exact Nat.mod_eq_of_lt (Nat.lt_of_le_of_lt (Nat.div_le_self _ _) h)

theorem mix_eq (h n : Int) : mix h n = ((mixB (BitVec.ofInt 64 h) (BitVec.ofInt 64 n)).toNat : Int) := by
  have e1 : Go.bits .xor .u64 h (IntKind.u64.wrap n) = ((BitVec.ofInt 64 h ^^^ BitVec.ofInt 64 n).toNat : Int) := by rw [bits_xor, ofInt_wrap]
  have e2 : IntKind.u64.wrap (((BitVec.ofInt 64 h ^^^ BitVec.ofInt 64 n).toNat : Int) * 1099511628211) = (((BitVec.ofInt 64 h ^^^ BitVec.ofInt 64 n) * 1099511628211#64).toNat : Int) := by
    rw [← toNat_wrap, ofInt_mul, ofInt_toNat]
    rfl
  unfold mix mixB
  rw [e1, e2, bits_xor, ofInt_toNat, ofInt_shr]

theorem ofInt_inj {a b : Int} (ha : 0 ≤ a) (ha2 : a < 18446744073709551616) (hb : 0 ≤ b) (hb2 : b < 18446744073709551616) (h : BitVec.ofInt 64 a = BitVec.ofInt 64 b) : a = b := by
  have := congrArg (fun x : BitVec 64 => (x.toNat : Int)) h
  simp only [toNat_wrap, wrap_u64] at this
  omega

theorem ofInt_inj' {a b : Int} (ha : -9223372036854775808 ≤ a) (ha2 : a ≤ 9223372036854775807) (hb : -9223372036854775808 ≤ b) (hb2 : b ≤ 9223372036854775807) (h : BitVec.ofInt 64 a = BitVec.ofInt 64 b) : a = b := by
  have := congrArg (fun x : BitVec 64 => (x.toNat : Int)) h
  simp only [toNat_wrap, wrap_u64] at this
  omega

theorem mix_range (h n : Int) : 0 ≤ mix h n ∧ mix h n < 18446744073709551616 := by
  rw [mix_eq]
  have := (mixB (BitVec.ofInt 64 h) (BitVec.ofInt 64 n)).isLt
  omega

theorem mix_inj_bv {h n g m : Int} (e : mix h n = mix g m) : BitVec.ofInt 64 h ^^^ BitVec.ofInt 64 n = BitVec.ofInt 64 g ^^^ BitVec.ofInt 64 m := by
  rw [mix_eq, mix_eq] at e
  exact mixB_xor (BitVec.eq_of_toNat_eq (Int.ofNat.inj e))

theorem xor_cancel_left {a b c : BitVec 64} (h : a ^^^ b = a ^^^ c) : b = c := by
  have : a ^^^ (a ^^^ b) = a ^^^ (a ^^^ c) := by rw [h]
  rwa [← BitVec.xor_assoc, ← BitVec.xor_assoc, BitVec.xor_self, BitVec.zero_xor, BitVec.zero_xor] at this

theorem xor_cancel_right {a b c : BitVec 64} (h : b ^^^ a = c ^^^ a) : b = c := by
  rw [BitVec.xor_comm b, BitVec.xor_comm c] at h
  exact xor_cancel_left h

/-- For one number, different beginnings have different results. -/
theorem mix_inj_left {g h n : Int} (hg : 0 ≤ g) (hg2 : g < 18446744073709551616) (hh : 0 ≤ h) (hh2 : h < 18446744073709551616) (e : mix g n = mix h n) : g = h :=
  ofInt_inj hg hg2 hh hh2 (xor_cancel_right (mix_inj_bv e))

/-- For one beginning, different numbers have different results. -/
theorem mix_inj_right {h n m : Int} (hn : -9223372036854775808 ≤ n) (hn2 : n ≤ 9223372036854775807) (hm : -9223372036854775808 ≤ m) (hm2 : m ≤ 9223372036854775807) (e : mix h n = mix h m) : n = m :=
  ofInt_inj' hn hn2 hm hm2 (xor_cancel_left (mix_inj_bv e))

/-- Mixing in a list. -/
def many (h : Int) (l : List Int) : Int := l.foldl mix h

theorem many_range {h : Int} (h0 : 0 ≤ h) (h1 : h < 18446744073709551616) (l : List Int) : 0 ≤ many h l ∧ many h l < 18446744073709551616 := by
  induction l generalizing h with
  | nil => exact ⟨h0, h1⟩
  | cons c l ih => exact ih (mix_range _ _).1 (mix_range _ _).2

theorem many_inj {g h : Int} (hg : 0 ≤ g) (hg2 : g < 18446744073709551616) (hh : 0 ≤ h) (hh2 : h < 18446744073709551616) (l : List Int) (e : many g l = many h l) : g = h := by
  induction l generalizing g h with
  | nil => exact e
  | cons c l ih => exact mix_inj_left hg hg2 hh hh2 (ih (mix_range _ _).1 (mix_range _ _).2 (mix_range _ _).1 (mix_range _ _).2 e)

theorem many_append (h : Int) (l m : List Int) : many h (l ++ m) = many (many h l) m := List.foldl_append

/-- Two lists that differ in one place at most. -/
theorem many_set {h : Int} (h0 : 0 ≤ h) (h1 : h < 18446744073709551616) (l : List Int) (k : Nat) (hk : k < l.length) (c : Int) (hc : -9223372036854775808 ≤ c) (hc2 : c ≤ 9223372036854775807)
    (hx : -9223372036854775808 ≤ l[k]) (hx2 : l[k] ≤ 9223372036854775807) (e : many h l = many h (l.set k c)) : l[k] = c := by
  induction l generalizing h k with
  | nil => simp at hk
  | cons x l ih =>
    cases k with
    | zero => exact mix_inj_right hx hx2 hc hc2 (many_inj (mix_range _ _).1 (mix_range _ _).2 (mix_range _ _).1 (mix_range _ _).2 l e)
    | succ k => exact ih (mix_range _ _).1 (mix_range _ _).2 k (by simpa using hk) hx hx2 e
end Go.Proofs.Ytjmbcdbnglconaa.M
