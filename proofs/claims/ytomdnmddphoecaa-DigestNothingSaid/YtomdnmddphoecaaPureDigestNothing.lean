/- Sums do not change the bytes, and they are the same each time. No condition. -/
import Derived.Test.YtomdnmddphoecaaQDigestNothingx1
import Derived.Test.YtomdnmddphoecaaMath
namespace Go.Proofs.Ytomdnmddphoecaa.Pure
open Go.RowKit Go.Proofs.Ytomdnmddphoecaa.QDigestNothing Go.Proofs.YtomdnmddphoecaaW.PrintWords Go.Proofs.YtomdnmddphoecaaW.PrintLast
set_option linter.unusedVariables false
set_option linter.unusedSimpArgs false

theorem bs {α β : Type} (a : α) (f : α → Option β) : (some a).bind f = f a := by
  have h : ∀ x : Option α, x = some a → x.bind f = f a := fun x hx => by rw [hx]; rfl
  exact h _ rfl

theorem mixf (a b : Int) : digest_Mix.f a b = some (M.mix a b) := by rw [digest_Mix.f, M.mix]

theorem byte_of {l : List Int} (hb : ∀ x ∈ l, (Lit.int .u8 x).wf = true) {i : Nat} (hi : i < l.length) : 0 ≤ l[i] ∧ l[i] ≤ 255 := by
  have h := hb _ (List.getElem_mem hi)
  simp [Lit.wf, IntKind.min, IntKind.max, IntKind.bits, IntKind.signed] at h
  omega

theorem rd_nat (l : List Int) {i : Nat} (hi : i < l.length) : rd l (i : Int) = l[i] := by
  simp [rd, hi]

theorem wrap_rd {l : List Int} (hb : ∀ x ∈ l, (Lit.int .u8 x).wf = true) {i : Nat} (hi : i < l.length) : wrap64 (rd l (i : Int)) = l[i] := by
  have := byte_of hb hi
  rw [rd_nat l hi]
  unfold wrap64
  omega

theorem wrap_up {i : Nat} (hi : i ≤ 140737488351232) : wrap64 ((i : Int) + 1) = ((i + 1 : Nat) : Int) := by
  unfold wrap64
  omega

theorem drop_cons {l : List Int} {i : Nat} (hi : i < l.length) : l.drop i = l[i] :: l.drop (i + 1) := List.drop_eq_getElem_cons hi

theorem bytes_l0 (l x1 : List Int) (hb : ∀ x ∈ l, (Lit.int .u8 x).wf = true) (hl : l.length ≤ 140737488351232) (d : Nat) :
    ∀ (k : Nat) (h : Int) (i : Nat), i ≤ l.length → l.length - i = d → d < k →
      digest_bytes.l0 k h x1 l (l.length : Int) (i : Int) = some (M.mix (M.many h (l.drop i)) x1.length) := by
  induction d with
  | zero =>
    intro k h i h1 hd hk
    obtain ⟨k, rfl⟩ : ∃ m, k = m + 1 := ⟨k - 1, by omega⟩
    have e : i = l.length := by omega
    simp only [digest_bytes.l0]
    rw [if_neg (by omega), mixf, e]
    simp [M.many]
  | succ d ih =>
    intro k h i h1 hd hk
    obtain ⟨k, rfl⟩ : ∃ m, k = m + 1 := ⟨k - 1, by omega⟩
    have hi : i < l.length := by omega
    simp only [digest_bytes.l0]
    rw [if_pos (by omega), if_pos (by omega), if_pos (by omega), mixf, wrap_rd hb hi, wrap_up (by omega)]
    simp only [bs]
    rw [ih k _ (i + 1) (by omega) (by omega) (by omega), drop_cons hi]
    rfl

def sumOf (key : Int) (l : List Int) : Int := M.mix (M.many (M.mix 14695981039346656037 key) l) l.length

theorem bytes_f (l : List Int) (hb : ∀ x ∈ l, (Lit.int .u8 x).wf = true) (hl : l.length ≤ 140737488351232) {k : Nat} (hk : l.length < k) (h : Int) :
    digest_bytes.f k h l = some (M.mix (M.many h l) l.length) := by
  have := bytes_l0 l l hb hl l.length k h 0 (by omega) (by omega) hk
  simpa [digest_bytes.f] using this

theorem sum_f (l : List Int) (hb : ∀ x ∈ l, (Lit.int .u8 x).wf = true) (hl : l.length ≤ 140737488351232) {k : Nat} (hk : l.length < k) (key : Int) :
    digest_Sum.f k key l = some (sumOf key l) := by
  unfold digest_Sum.f
  rw [mixf]
  simp only [bs]
  rw [bytes_f l hb hl hk]
  rfl

theorem fact1 : M.mix 0 0 = 0 := by decide +kernel
theorem fact2 : M.mix 5 5 = 0 := by decide +kernel
theorem fact3 : M.mix 0 1 ≠ 0 := by decide +kernel
theorem fact4 : (sumOf 0 [] != sumOf 1 []) = true := by decide +kernel

theorem awake_f {k : Nat} (hk : 0 < k) : cellplanelaw02_awake.f k = some true := by
  unfold cellplanelaw02_awake.f
  rw [mixf]
  simp only [bs]
  rw [if_pos fact1, mixf]
  simp only [bs]
  rw [if_pos fact2, mixf]
  simp only [bs]
  rw [if_neg fact3, sum_f [] (by simp) (by simp) (by simpa using hk), sum_f [] (by simp) (by simp) (by simpa using hk)]
  simp only [bs]
  rw [fact4]

theorem i64_of {a : Int} (h : (Lit.int .i64 a).wf = true) : -9223372036854775808 ≤ a ∧ a ≤ 9223372036854775807 := by
  simp [Lit.wf, IntKind.min, IntKind.max, IntKind.bits, IntKind.signed] at h
  omega
theorem u64_of {a : Int} (h : (Lit.int .u64 a).wf = true) : 0 ≤ a ∧ a < 18446744073709551616 := by
  simp [Lit.wf, IntKind.min, IntKind.max, IntKind.bits, IntKind.signed] at h
  omega
theorem u8_of {a : Int} (h : (Lit.int .u8 a).wf = true) : 0 ≤ a ∧ a ≤ 255 := by
  simp [Lit.wf, IntKind.min, IntKind.max, IntKind.bits, IntKind.signed] at h
  omega
theorem DigestNothing : cellplanelaw02_DigestNothing.Pure := by
  intro key p l hkey hp hm hl hx
  refine ⟨l.length + 1, ?_⟩
  unfold cellplanelaw02_DigestNothing.f cellplanelaw02_few.f
  simp only [bs]
  by_cases h : (l.length : Int) ≤ 300
  · rw [if_pos (by simpa using h), if_pos (by simp; omega)]
    simp only [List.nil_append]
    rw [sum_f l hx (by omega) (by omega)]
    unfold digest_Chain.f
    simp only [mixf, bs]
    rw [bytes_f l hx (by omega) (by omega), awake_f (by omega)]
    simp
  · rw [if_neg (by simpa using h), awake_f (by omega)]
    rfl

end Go.Proofs.Ytomdnmddphoecaa.Pure
