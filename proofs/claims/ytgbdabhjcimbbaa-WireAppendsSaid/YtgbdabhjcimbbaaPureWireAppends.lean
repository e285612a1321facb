/- The bytes that are given stay in front, and neither they nor what lies behind them in their memory is changed. No condition. -/
import Derived.Test.YtgbdabhjcimbbaaQWireAppendsx1
import Derived.Test.YtgbdabhjcimbbaaQWireAppendsx2
import Derived.Test.YtgbdabhjcimbbaaWireMath
namespace Go.Proofs.Ytgbdabhjcimbbaa.Pure
open Go.RowKit Go.Proofs.Ytgbdabhjcimbbaa.QWireAppends Go.Proofs.YtgbdabhjcimbbaaW.PrintWords Go.Proofs.YtgbdabhjcimbbaaW.PrintLast Go.Proofs.YtgbdabhjcimbbaaW.PrintMore Go.Proofs.Ytgbdabhjcimbbaa.WM
set_option linter.unusedVariables false
set_option linter.unusedSimpArgs false

/-! ### put, copied, Int -/
theorem put_l0 (f : Nat) : ∀ (k : Nat) (b : List Int) (u : Int), f < k → 0 ≤ u → u < 2 * 128 ^ f → b.length + f + 1 ≤ 140737488355328 →
    wire_put.l0 k b u = some (b ++ encN (f + 1) u) := by
  induction f with
  | zero =>
    intro k b u hk h0 h1 hb
    obtain ⟨k, rfl⟩ : ∃ m, k = m + 1 := ⟨k - 1, by omega⟩
    have hu : u < 2 := by simpa using h1
    simp only [wire_put.l0]
    rw [if_neg (by omega), if_pos (by omega), encN_small 0 (by omega)]
    have e : u % 256 = u := by omega
    rw [e]
  | succ f ih =>
    intro k b u hk h0 h1 hb
    obtain ⟨k, rfl⟩ : ∃ m, k = m + 1 := ⟨k - 1, by omega⟩
    simp only [wire_put.l0]
    by_cases h : 128 ≤ u
    · have hlt : u / 128 < 2 * 128 ^ f := by
        have e : (128 : Int) ^ (f + 1) = 128 ^ f * 128 := Int.pow_succ _ _
        rw [e] at h1
        omega
      have e : u % 256 % 128 = u % 128 := by omega
      rw [if_pos (by omega), if_pos (by omega), or_u8 (by omega) (by omega), e, ih k _ (u / 128) (by omega) (by omega) hlt (by simp; omega), encN_big (f + 1) h]
      simp
    · have e : u % 256 = u := by omega
      rw [if_neg (by omega), if_pos (by omega), encN_small (f + 1) h, e]
theorem put_f {k : Nat} {b : List Int} {n : Int} (hk : 10 ≤ k) (h : -9223372036854775808 ≤ n) (h2 : n ≤ 9223372036854775807) (hb : b.length + 10 ≤ 140737488355328) : wire_put.f k b n = some (b ++ int n) := by
  unfold wire_put.f
  have hc := code_range h h2
  have e : (2 : Int) * 128 ^ 9 = 18446744073709551616 := by decide
  rw [code_xor h h2, put_l0 9 k b (code n) (by omega) hc.1 (by omega) (by omega)]
  rfl
theorem copied_f {b : List Int} (hb : b.length < 140737488355328) : wire_copied.f b = some b := by
  unfold wire_copied.f
  rw [if_pos (by simpa using hb)]
  rfl
theorem Int_f {k : Nat} {b : List Int} {n : Int} (hk : 10 ≤ k) (h : -9223372036854775808 ≤ n) (h2 : n ≤ 9223372036854775807) (hb : b.length + 10 ≤ 140737488355328) : wire_Int.f k b n = some (b ++ int n) := by
  unfold wire_Int.f
  rw [copied_f (by omega), bs, put_f hk h h2 hb, bs]

/-! ### TakeInt -/
theorem take_value {i : Nat} (hi : i ≤ 9) {acc x : Int} (ha : 0 ≤ acc) (ha1 : acc < 128 ^ i) (h0 : 0 ≤ x) (h1 : x < 128) (h9 : i = 9 → x ≤ 1) :
    Go.bits .xor .i64 (wrap64 ((Go.bits .or .u64 acc (shl .u64 (IntKind.u64.wrap (x)) (wrap64 (7 * (i : Int))))) / 2)) (wrap64 (-(wrap64 (Go.bits .and .u64 (Go.bits .or .u64 acc (shl .u64 (IntKind.u64.wrap (x)) (wrap64 (7 * (i : Int))))) 1)))) = dec (acc + x * 128 ^ i) := by
  have hl := acc_last hi ha ha1 h0 h1 h9
  have e : IntKind.u64.wrap x = x := by rw [wrap_u64]; omega
  rw [e, wrap_7 hi, shl_7 hi h0 hl.1, or_7 hi ha ha1 h0 hl.1, dec_xor hl.2.1 hl.2.2]
theorem take_j1 {i : Nat} (hi : i ≤ 9) {acc x : Int} (ha : 0 ≤ acc) (ha1 : acc < 128 ^ i) (h0 : 0 ≤ x) (h1 : x < 128) (k : Nat) (fl : Bool) :
    wire_TakeInt.j1 (k + 1) acc (i : Int) x fl = if fl = true ∨ i = 9 ∧ 1 < x then some (0, 0, 18) else some (dec (acc + x * 128 ^ i), (i : Int) + 1, 0) := by
  simp only [wire_TakeInt.j1]
  cases fl with
  | true => simp
  | false =>
    have hw : wrap64 ((i : Int) + 1) = (i : Int) + 1 := wrap_id (by omega) (by omega)
    have h7 : 0 ≤ wrap64 (7 * (i : Int)) := by rw [wrap_7 hi]; omega
    rw [if_neg (by simp), hw]
    by_cases h9 : i = 9
    · rw [if_pos (by omega)]
      by_cases hx : x > 1
      · rw [if_pos hx, if_pos (Or.inr ⟨h9, hx⟩)]
      · rw [if_neg hx, if_pos h7, if_neg (by simp; omega), take_value hi ha ha1 h0 h1 (fun _ => by omega)]
    · rw [if_neg (by omega), if_pos h7, if_neg (by simp [h9]), take_value hi ha ha1 h0 h1 (fun h => absurd h h9)]
theorem scan_step {i : Nat} (hi : i ≤ 9) (c : Int) (l : List Int) (acc : Int) : scan (c :: l) i acc =
    if 128 ≤ c then scan l (i + 1) (acc + (c - 128) * 128 ^ i)
    else if 0 < i ∧ c = 0 ∨ i = 9 ∧ 1 < c then (0, 0, 18)
    else (dec (acc + c * 128 ^ i), (i : Int) + 1, 0) := by rw [scan, if_neg (show ¬i = 10 by omega)]
theorem take_l0 {l : List Int} (hb : Bytes l) (hl : l.length ≤ 140737488355328) (d : Nat) : ∀ (k i : Nat) (acc acc' : Int), i + d = 10 → d + 2 ≤ k → i ≤ l.length → (i < 10 → acc = acc' ∧ 0 ≤ acc ∧ acc < 128 ^ i) →
    wire_TakeInt.l0 k l acc l (l.length : Int) (i : Int) = some (scan (l.drop i) i acc') := by
  induction d with
  | zero =>
    intro k i acc acc' hi hk hil ha
    obtain ⟨k, rfl⟩ : ∃ m, k = m + 1 := ⟨k - 1, by omega⟩
    obtain rfl : i = 10 := by omega
    simp only [wire_TakeInt.l0]
    by_cases h : 10 < l.length
    · rw [List.drop_eq_getElem_cons h, scan, if_pos (show (10 : Nat) = 10 from rfl), if_pos (show ((10 : Nat) : Int) < (l.length : Int) by omega), if_pos (show (0 : Int) ≤ ((10 : Nat) : Int) by omega), if_pos (show ((10 : Nat) : Int) < (l.length : Int) by omega), if_pos (show ((10 : Nat) : Int) = 10 by omega)]
    · rw [List.drop_eq_nil_of_le (by omega), scan, if_pos (show (10 : Nat) ≤ 10 from Nat.le_refl _), if_neg (show ¬((10 : Nat) : Int) < (l.length : Int) by omega), if_pos (show (l.length : Int) ≥ 10 by omega)]
  | succ d ih =>
    intro k i acc acc' hi hk hil ha
    obtain ⟨k, rfl⟩ : ∃ m, k = m + 1 := ⟨k - 1, by omega⟩
    obtain ⟨rfl, ha0, ha1⟩ := ha (by omega)
    have hi9 : i ≤ 9 := by omega
    simp only [wire_TakeInt.l0]
    by_cases h : i < l.length
    · have hc := hb _ (List.getElem_mem h)
      rw [List.drop_eq_getElem_cons h, scan_step hi9, if_pos (show (i : Int) < (l.length : Int) by omega), if_pos (show (0 : Int) ≤ (i : Int) by omega), if_pos (show (i : Int) < (l.length : Int) by omega), if_neg (show ¬(i : Int) = 10 by omega), rd_nat l h]
      generalize l[i] = c at hc ⊢
      by_cases h1 : 128 ≤ c
      · have hw : wrap64 ((i : Int) + 1) = ((i + 1 : Nat) : Int) := by unfold wrap64; omega
        have e : (c - 128) % 256 = c - 128 := by omega
        rw [if_pos h1, if_pos (show c ≥ 128 from h1), if_pos (show 0 ≤ wrap64 (7 * (i : Int)) by rw [wrap_7 hi9]; omega), hw, e]
        refine ih k (i + 1) _ _ (by omega) (by omega) (by omega) (fun hi10 => ?_)
        have hs := small_7 (i := i) (by omega) (x := c - 128) (by omega) (by omega)
        have hu := acc_up ha0 ha1 (x := c - 128) (by omega) (by omega)
        rw [wrap_7 hi9, shl_7 hi9 (by omega) hs, or_7 hi9 ha0 ha1 (by omega) hs]
        exact ⟨rfl, hu⟩
      · obtain ⟨k, rfl⟩ : ∃ m, k = m + 1 := ⟨k - 1, by omega⟩
        rw [if_neg h1, if_neg (show ¬c ≥ 128 from h1)]
        by_cases h0 : 0 < i
        · rw [if_pos (show (i : Int) > 0 by omega), take_j1 hi9 ha0 ha1 hc.1 (by omega) k]
          by_cases hbad : 0 < i ∧ c = 0 ∨ i = 9 ∧ 1 < c
          · have hb2 : (c == 0) = true ∨ i = 9 ∧ 1 < c := by
              rcases hbad with h2 | h2
              · left; simp [h2.2]
              · right; exact h2
            rw [if_pos hbad, if_pos hb2]
          · have hb2 : ¬((c == 0) = true ∨ i = 9 ∧ 1 < c) := by
              intro h2
              refine hbad ?_
              rcases h2 with h2 | h2
              · left; exact ⟨h0, by simpa using h2⟩
              · right; exact h2
            rw [if_neg hbad, if_neg hb2]
        · have hbad : ¬(0 < i ∧ c = 0 ∨ i = 9 ∧ 1 < c) := by omega
          have hb2 : ¬(false = true ∨ i = 9 ∧ 1 < c) := by simp; omega
          rw [if_neg (show ¬(i : Int) > 0 by omega), take_j1 hi9 ha0 ha1 hc.1 (by omega) k, if_neg hbad, if_neg hb2]
    · rw [List.drop_eq_nil_of_le (by omega), scan, if_neg (show ¬10 ≤ i by omega), if_neg (show ¬(i : Int) < (l.length : Int) by omega), if_neg (show ¬(l.length : Int) ≥ 10 by omega)]
theorem TakeInt_f {k : Nat} {l : List Int} (hb : Bytes l) (hl : l.length ≤ 140737488355328) (hk : 12 ≤ k) : wire_TakeInt.f k l = some (take l) := by
  have := take_l0 hb hl 10 k 0 0 0 (by omega) (by omega) (by omega) (fun _ => ⟨rfl, by omega, by simp⟩)
  simpa [wire_TakeInt.f, take] using this

/-! ### SameBytes -/
theorem Same_f {l m : List Int} (hl : Bytes l) (hm : Bytes m) : cellplaneref01_SameBytes.f l m = some (decide (l = m)) := by
  unfold cellplaneref01_SameBytes.f
  rw [str_same hl hm]

/-! ### the sanity check -/
theorem bytes_lit {l : List Int} (h : l.all (fun x => decide (0 ≤ x) && decide (x ≤ 255)) = true) : Bytes l := fun x hx => by
  have := List.all_eq_true.1 h x hx
  simpa using this
theorem awake_f {k : Nat} (hk : 12 ≤ k) : cellplanelaw01_awake.f k = some true := by
  have t1 : take [128, 1] = (64, 2, 0) := by decide +kernel
  have t2 : take [128, 0] = (0, 0, 18) := by decide +kernel
  have i1 : int (-1) = [1] := by decide +kernel
  have i2 : int 64 = [128, 1] := by decide +kernel
  unfold cellplanelaw01_awake.f
  rw [TakeInt_f (bytes_lit (by decide)) (by decide) hk, TakeInt_f (bytes_lit (by decide)) (by decide) hk, t1, t2, Int_f (by omega) (by omega) (by omega) (by simp), Int_f (by omega) (by omega) (by omega) (by simp), i1, i2]
  simp only [List.nil_append, bs]
  rw [Same_f (bytes_lit (by decide)) (bytes_lit (by decide)), Same_f (bytes_lit (by decide)) (bytes_lit (by decide))]
  simp

/-! ### Ints -/
theorem i64_at {l : List Int} (hl : I64 l) {i : Nat} (hi : i < l.length) : -9223372036854775808 ≤ l[i] ∧ l[i] ≤ 9223372036854775807 := hl _ (List.getElem_mem hi)
theorem ints_l0 {l : List Int} (hl : I64 l) (hlen : l.length ≤ 17592186044416) (d : Nat) : ∀ (k i : Nat) (acc : List Int), l.length - i = d → i ≤ l.length → d + 11 ≤ k → acc.length + 10 * d ≤ 140737488355328 →
    wire_Ints.l0 k acc l (l.length : Int) (i : Int) = some (acc ++ ints (l.drop i)) := by
  induction d with
  | zero =>
    intro k i acc hd hi hk hb
    obtain ⟨k, rfl⟩ : ∃ m, k = m + 1 := ⟨k - 1, by omega⟩
    simp only [wire_Ints.l0]
    rw [if_neg (show ¬(i : Int) < (l.length : Int) by omega), List.drop_eq_nil_of_le (by omega)]
    simp [ints]
  | succ d ih =>
    intro k i acc hd hi hk hb
    obtain ⟨k, rfl⟩ : ∃ m, k = m + 1 := ⟨k - 1, by omega⟩
    have hlt : i < l.length := by omega
    have hx := i64_at hl hlt
    have hw : wrap64 ((i : Int) + 1) = ((i + 1 : Nat) : Int) := by unfold wrap64; omega
    have h10 := (int_len l[i]).1
    simp only [wire_Ints.l0]
    rw [if_pos (show (i : Int) < (l.length : Int) by omega), if_pos (show (0 : Int) ≤ (i : Int) by omega), if_pos (show (i : Int) < (l.length : Int) by omega), rd_nat l hlt, put_f (by omega) hx.1 hx.2 (by omega), bs, hw, ih k (i + 1) _ (by omega) (by omega) (by omega) (by rw [List.length_append]; omega), List.drop_eq_getElem_cons hlt, ints_cons, List.append_assoc]
theorem Ints_f {k : Nat} {b l : List Int} (hl : I64 l) (hk : l.length + 12 ≤ k) (hb : b.length + 10 + 10 * l.length ≤ 140737488355328) : wire_Ints.f k b l = some (b ++ list l) := by
  unfold wire_Ints.f
  have h10 := (int_len (l.length : Int)).1
  rw [copied_f (by omega), bs, put_f (by omega) (by omega) (by omega) (by omega), bs]
  have := ints_l0 hl (by omega) l.length k 0 (b ++ int (l.length : Int)) (by omega) (by omega) (by omega) (by rw [List.length_append]; omega)
  rw [List.drop_zero] at this
  have e : wire_Ints.l0 k (b ++ int (l.length : Int)) l (l.length : Int) 0 = wire_Ints.l0 k (b ++ int (l.length : Int)) l (l.length : Int) ((0 : Nat) : Int) := rfl
  rw [e, this, List.append_assoc]
  rfl
theorem list_bytes {l : List Int} (hl : I64 l) (h : l.length ≤ 140737488351232) : Bytes (list l) := (int_bytes (by omega) (by omega)).append (ints_bytes hl)
theorem list_len (l : List Int) : (list l).length ≤ 10 + 10 * l.length := by
  unfold list
  have h1 := (int_len (l.length : Int)).1
  have h2 := ints_len l
  rw [List.length_append]
  omega

/-! ### Text -/
/-- The bytes of a text. -/
def text (s : ByteArray) : List Int := int (s.size : Int) ++ bytesOf s
theorem text_len (s : ByteArray) : (text s).length ≤ 10 + s.size := by
  unfold text
  have h1 := (int_len (s.size : Int)).1
  rw [List.length_append, bytesOf_length]
  omega
theorem text_bytes {s : ByteArray} (h : s.size ≤ 140737488351232) : Bytes (text s) := (int_bytes (by omega) (by omega)).append (bytes_bytesOf s)
theorem Text_f {k : Nat} {b : List Int} {s : ByteArray} (hk : 10 ≤ k) (hb : b.length + 10 + s.size < 140737488355328) : wire_Text.f k b s = some (b ++ text s) := by
  unfold wire_Text.f
  have h10 := (int_len (s.size : Int)).1
  rw [copied_f (by omega), bs, put_f hk (by omega) (by omega) (by omega), bs, if_pos (by rw [List.length_append]; omega), List.append_assoc]
  rfl

theorem cut_range (n : Nat) (hn : n ≤ 300) (x : Int) :
    ∃ c : Nat, c ≤ n ∧ Int.tmod (wrap64 ((wrap64 ((Int.tmod x (wrap64 ((n : Int) + 1))) + (n : Int))) + 1)) (wrap64 ((n : Int) + 1)) = (c : Int) := by
  have hw : wrap64 ((n : Int) + 1) = (n : Int) + 1 := by unfold wrap64; omega
  rw [hw]
  have h1 := Int.tmod_lt_of_pos x (show (0 : Int) < (n : Int) + 1 by omega)
  have h2 := Int.lt_tmod_of_pos x (show (0 : Int) < (n : Int) + 1 by omega)
  generalize Int.tmod x ((n : Int) + 1) = z at h1 h2 ⊢
  have h3 : wrap64 (wrap64 (z + (n : Int)) + 1) = z + (n : Int) + 1 := by unfold wrap64; omega
  rw [h3, Int.tmod_eq_emod_of_nonneg (by omega)]
  have h4 := Int.emod_nonneg (z + (n : Int) + 1) (show (n : Int) + 1 ≠ 0 by omega)
  have h5 := Int.emod_lt_of_pos (z + (n : Int) + 1) (show (0 : Int) < (n : Int) + 1 by omega)
  exact ⟨((z + (n : Int) + 1) % ((n : Int) + 1)).toNat, by omega, by omega⟩
theorem take_front {b m : List Int} {c : Nat} (h : (b.take c).length = c) : (b.take c ++ m).take c = b.take c := by
  rw [List.take_append_of_le_length (by omega), List.take_take, Nat.min_self]
theorem longer {b m : List Int} {c : Nat} (h : (b.take c).length = c) (hm : 1 ≤ m.length) : ((b.take c ++ m).length : Int) > (c : Int) := by
  rw [List.length_append, h]; omega
theorem WireAppends : cellplanelaw01_WireAppends.Pure := by
  intro b a1 n s _ _ hx _ hn _
  have hb := bytes_of hx
  obtain ⟨n1, n2⟩ := i64_of hn
  refine ⟨2000, ?_⟩
  unfold cellplanelaw01_WireAppends.f cellplanelaw01_few.f
  have jt : cellplanelaw01_WireAppends.j0 2000 b a1 n s true = some true := by rw [cellplanelaw01_WireAppends.j0, if_pos rfl, awake_f (by omega), bs]
  rw [bs]
  by_cases c1 : (b.length : Int) ≤ 300
  · rw [decide_eq_true c1, if_pos rfl, bs]
    by_cases c2 : (s.size : Int) ≤ 300
    · rw [decide_eq_true c2]
      obtain ⟨c, hc, e⟩ := cut_range b.length (by omega) a1
      have lt : (b.take c).length = c := by rw [List.length_take]; omega
      have hl : I64 [n] := fun x hx => by simp at hx; subst hx; exact ⟨n1, n2⟩
      have t1 := (int_len n).2
      have t2 : 1 ≤ (text s).length := by have := (int_len (s.size : Int)).2; unfold text; rw [List.length_append]; omega
      have t3 : 1 ≤ (list [n]).length := by have := (int_len (([n] : List Int).length : Int)).2; unfold list; rw [List.length_append]; omega
      have g1 := longer lt t1
      have g2 := longer lt t2
      have g3 := longer lt t3
      have hk := hb.take c
      rw [cellplanelaw01_WireAppends.j0, if_neg (by simp), bs, if_pos (show ([] : List Int).length + b.length < 140737488355328 by rw [List.length_nil]; omega), bs, e, if_neg (show ¬ wrap64 ((b.length : Int) + 1) = 0 by unfold wrap64; omega),
        if_pos (show (0 : Int) ≤ (c : Int) by omega), if_pos (show (c : Int) ≤ (b.length : Int) by omega), Int.toNat_natCast, Int_f (by omega) n1 n2 (by omega), bs, Text_f (by omega) (by omega), bs,
        Ints_f hl (by rw [List.length_singleton]; omega) (by rw [List.length_singleton]; omega), bs, awake_f (by omega), bs, if_pos rfl, List.nil_append, Same_f hb hb, bs, decide_eq_true rfl, if_pos rfl,
        if_pos g1, if_pos g2, if_pos g3, if_pos (Int.le_of_lt g1), if_pos (show (c : Int) ≤ (b.length : Int) by omega), take_front lt, Same_f hk hk, bs, decide_eq_true rfl, if_pos rfl,
        if_pos (Int.le_of_lt g2), take_front lt, Same_f hk hk, bs, decide_eq_true rfl, if_pos rfl, if_pos (Int.le_of_lt g3), take_front lt, Same_f hk hk, bs, decide_eq_true rfl]
    · rw [decide_eq_false c2]; exact jt
  · rw [decide_eq_false c1, if_neg (by simp)]; exact jt

end Go.Proofs.Ytgbdabhjcimbbaa.Pure
