/- A chain is made of mixes, byte by byte, and the parents of two chains of the same bytes are equal if the chains are. No condition. -/
import Derived.Test.YtomdnmddphoecaaQDigestChainsx1
import Derived.Test.YtomdnmddphoecaaMath
namespace Go.Proofs.Ytomdnmddphoecaa.Pure
open Go.RowKit Go.Proofs.Ytomdnmddphoecaa.QDigestChains Go.Proofs.YtomdnmddphoecaaW.PrintWords Go.Proofs.YtomdnmddphoecaaW.PrintLast
set_option linter.unusedVariables false
set_option linter.unusedSimpArgs false

theorem bs {α β : Type} (a : α) (f : α → Option β) : (some a).bind f = f a := by
  have h : ∀ x : Option α, x = some a → x.bind f = f a := fun x hx => by rw [hx]; rfl
  exact h _ rfl

theorem mixf (a b : Int) : digest_Mix.f a b = some (M.mix a b) := by rw [digest_Mix.f, M.mix]

theorem byte_of {l : List Int} (hb : ∀ x ∈ l, (Lit.int .u8 x).wf = true) {i : Nat} (hi : i < l.length) : 0 ≤ l[i] ∧ l[i] ≤ 255 := by
  have h := hb _ (List.getElem_mem hi)
  simp [Lit.wf, IntKind.min, IntKind.max, IntKind.bits, IntKind.signed] at h
  omega

theorem rd_nat (l : List Int) {i : Nat} (hi : i < l.length) : rd l (i : Int) = l[i] := by
  simp [rd, hi]

theorem wrap_rd {l : List Int} (hb : ∀ x ∈ l, (Lit.int .u8 x).wf = true) {i : Nat} (hi : i < l.length) : wrap64 (rd l (i : Int)) = l[i] := by
  have := byte_of hb hi
  rw [rd_nat l hi]
  unfold wrap64
  omega

theorem wrap_up {i : Nat} (hi : i ≤ 140737488351232) : wrap64 ((i : Int) + 1) = ((i + 1 : Nat) : Int) := by
  unfold wrap64
  omega

theorem drop_cons {l : List Int} {i : Nat} (hi : i < l.length) : l.drop i = l[i] :: l.drop (i + 1) := List.drop_eq_getElem_cons hi

theorem bytes_l0 (l x1 : List Int) (hb : ∀ x ∈ l, (Lit.int .u8 x).wf = true) (hl : l.length ≤ 140737488351232) (d : Nat) :
    ∀ (k : Nat) (h : Int) (i : Nat), i ≤ l.length → l.length - i = d → d < k →
      digest_bytes.l0 k h x1 l (l.length : Int) (i : Int) = some (M.mix (M.many h (l.drop i)) x1.length) := by
  induction d with
  | zero =>
    intro k h i h1 hd hk
    obtain ⟨k, rfl⟩ : ∃ m, k = m + 1 := ⟨k - 1, by omega⟩
    have e : i = l.length := by omega
    simp only [digest_bytes.l0]
    rw [if_neg (by omega), mixf, e]
    simp [M.many]
  | succ d ih =>
    intro k h i h1 hd hk
    obtain ⟨k, rfl⟩ : ∃ m, k = m + 1 := ⟨k - 1, by omega⟩
    have hi : i < l.length := by omega
    simp only [digest_bytes.l0]
    rw [if_pos (by omega), if_pos (by omega), if_pos (by omega), mixf, wrap_rd hb hi, wrap_up (by omega)]
    simp only [bs]
    rw [ih k _ (i + 1) (by omega) (by omega) (by omega), drop_cons hi]
    rfl

def sumOf (key : Int) (l : List Int) : Int := M.mix (M.many (M.mix 14695981039346656037 key) l) l.length

theorem bytes_f (l : List Int) (hb : ∀ x ∈ l, (Lit.int .u8 x).wf = true) (hl : l.length ≤ 140737488351232) {k : Nat} (hk : l.length < k) (h : Int) :
    digest_bytes.f k h l = some (M.mix (M.many h l) l.length) := by
  have := bytes_l0 l l hb hl l.length k h 0 (by omega) (by omega) hk
  simpa [digest_bytes.f] using this

theorem sum_f (l : List Int) (hb : ∀ x ∈ l, (Lit.int .u8 x).wf = true) (hl : l.length ≤ 140737488351232) {k : Nat} (hk : l.length < k) (key : Int) :
    digest_Sum.f k key l = some (sumOf key l) := by
  unfold digest_Sum.f
  rw [mixf]
  simp only [bs]
  rw [bytes_f l hb hl hk]
  rfl

theorem fact1 : M.mix 0 0 = 0 := by decide +kernel
theorem fact2 : M.mix 5 5 = 0 := by decide +kernel
theorem fact3 : M.mix 0 1 ≠ 0 := by decide +kernel
theorem fact4 : (sumOf 0 [] != sumOf 1 []) = true := by decide +kernel

theorem awake_f {k : Nat} (hk : 0 < k) : cellplanelaw02_awake.f k = some true := by
  unfold cellplanelaw02_awake.f
  rw [mixf]
  simp only [bs]
  rw [if_pos fact1, mixf]
  simp only [bs]
  rw [if_pos fact2, mixf]
  simp only [bs]
  rw [if_neg fact3, sum_f [] (by simp) (by simp) (by simpa using hk), sum_f [] (by simp) (by simp) (by simpa using hk)]
  simp only [bs]
  rw [fact4]

theorem i64_of {a : Int} (h : (Lit.int .i64 a).wf = true) : -9223372036854775808 ≤ a ∧ a ≤ 9223372036854775807 := by
  simp [Lit.wf, IntKind.min, IntKind.max, IntKind.bits, IntKind.signed] at h
  omega
theorem u64_of {a : Int} (h : (Lit.int .u64 a).wf = true) : 0 ≤ a ∧ a < 18446744073709551616 := by
  simp [Lit.wf, IntKind.min, IntKind.max, IntKind.bits, IntKind.signed] at h
  omega
theorem u8_of {a : Int} (h : (Lit.int .u8 a).wf = true) : 0 ≤ a ∧ a ≤ 255 := by
  simp [Lit.wf, IntKind.min, IntKind.max, IntKind.bits, IntKind.signed] at h
  omega
def chainOf (key p : Int) (l : List Int) : Int := M.mix (M.many (M.mix (M.mix 14695981039346656037 key) (wrap64 p)) l) l.length

theorem chain_f (l : List Int) (hb : ∀ x ∈ l, (Lit.int .u8 x).wf = true) (hl : l.length ≤ 140737488351232) {k : Nat} (hk : l.length < k) (key p : Int) :
    digest_Chain.f k key p l = some (chainOf key p l) := by
  unfold digest_Chain.f
  rw [mixf]
  simp only [bs]
  rw [mixf]
  simp only [bs]
  rw [bytes_f l hb hl hk]
  rfl

theorem chain_inj {key p q : Int} {l : List Int} (hp : 0 ≤ p ∧ p < 18446744073709551616) (hq : 0 ≤ q ∧ q < 18446744073709551616) (h : chainOf key p l = chainOf key q l) : p = q := by
  unfold chainOf at h
  have r1 := M.mix_range (M.mix 14695981039346656037 key) (wrap64 p)
  have r2 := M.mix_range (M.mix 14695981039346656037 key) (wrap64 q)
  have m1 := M.many_range r1.1 r1.2 l
  have m2 := M.many_range r2.1 r2.2 l
  have h1 := M.mix_inj_left m1.1 m1.2 m2.1 m2.2 h
  have h2 := M.many_inj r1.1 r1.2 r2.1 r2.2 l h1
  have wr : ∀ x : Int, -9223372036854775808 ≤ wrap64 x ∧ wrap64 x ≤ 9223372036854775807 := fun x => by unfold wrap64; omega
  have h3 := M.mix_inj_right (wr p).1 (wr p).2 (wr q).1 (wr q).2 h2
  unfold wrap64 at h3
  omega

theorem chains_l0 (key p q : Int) (hp : 0 ≤ p ∧ p < 18446744073709551616) (hq : 0 ≤ q ∧ q < 18446744073709551616) (l : List Int) (hb : ∀ x ∈ l, (Lit.int .u8 x).wf = true) (hl : l.length ≤ 140737488351232) (d : Nat) :
    ∀ (k : Nat) (h : Int) (i : Nat), i ≤ l.length → l.length - i = d → d + l.length + 1 < k →
      M.mix (M.many h (l.drop i)) l.length = chainOf key p l →
      cellplanelaw02_DigestChains.l0 k key p q l h (i : Int) = some true := by
  induction d with
  | zero =>
    intro k h i h1 hd hk hs
    obtain ⟨k, rfl⟩ : ∃ m, k = m + 1 := ⟨k - 1, by omega⟩
    have e : i = l.length := by omega
    have hs' : M.mix h l.length = chainOf key p l := by rw [← hs, e]; simp [M.many]
    simp only [cellplanelaw02_DigestChains.l0]
    rw [if_neg (by omega), chain_f l hb hl (by omega), chain_f l hb hl (by omega), awake_f (by omega)]
    simp only [bs, if_true]
    rw [mixf]
    simp only [bs]
    rw [if_pos hs'.symm]
    congr 1
    by_cases e : p = q
    · subst e; simp
    · have hne : chainOf key p l ≠ chainOf key q l := fun hs => e (chain_inj hp hq hs)
      rw [beq_eq_false_iff_ne.2 e, beq_eq_false_iff_ne.2 hne]
      rfl
  | succ d ih =>
    intro k h i h1 hd hk hs
    obtain ⟨k, rfl⟩ : ∃ m, k = m + 1 := ⟨k - 1, by omega⟩
    have hi : i < l.length := by omega
    simp only [cellplanelaw02_DigestChains.l0]
    rw [if_pos (by omega), if_pos (by omega), mixf, wrap_rd hb hi, wrap_up (by omega)]
    simp only [bs]
    refine ih k _ (i + 1) (by omega) (by omega) (by omega) ?_
    rw [← hs, drop_cons hi]
    rfl

theorem DigestChains : cellplanelaw02_DigestChains.Pure := by
  intro key p q l hkey hp hq hm hl hx
  refine ⟨l.length + l.length + 3, ?_⟩
  unfold cellplanelaw02_DigestChains.f
  rw [mixf]
  simp only [bs]
  rw [mixf]
  simp only [bs]
  exact chains_l0 key p q (u64_of hp) (u64_of hq) l hx (by omega) l.length _ _ 0 (by omega) (by omega) (by omega) rfl

end Go.Proofs.Ytomdnmddphoecaa.Pure
