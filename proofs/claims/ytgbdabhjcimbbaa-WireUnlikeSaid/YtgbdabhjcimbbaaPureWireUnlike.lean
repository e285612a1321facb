/- Lists with the same bytes are equal, also if one is changed in one place. -/
import Derived.Test.YtgbdabhjcimbbaaQWireUnlikex1
import Derived.Test.YtgbdabhjcimbbaaQWireUnlikex2
import Derived.Test.YtgbdabhjcimbbaaWireMath
namespace Go.Proofs.Ytgbdabhjcimbbaa.Pure
open Go.RowKit Go.Proofs.Ytgbdabhjcimbbaa.QWireUnlike Go.Proofs.YtgbdabhjcimbbaaW.PrintWords Go.Proofs.YtgbdabhjcimbbaaW.PrintLast Go.Proofs.YtgbdabhjcimbbaaW.PrintMore Go.Proofs.Ytgbdabhjcimbbaa.WM
set_option linter.unusedVariables false
set_option linter.unusedSimpArgs false

/-! ### put, copied, Int -/
theorem put_l0 (f : Nat) : ∀ (k : Nat) (b : List Int) (u : Int), f < k → 0 ≤ u → u < 2 * 128 ^ f → b.length + f + 1 ≤ 225179981368000 →
    wire_put.l0 k b u = some (b ++ encN (f + 1) u) := by
  induction f with
  | zero =>
    intro k b u hk h0 h1 hb
    obtain ⟨k, rfl⟩ : ∃ m, k = m + 1 := ⟨k - 1, by omega⟩
    have hu : u < 2 := by simpa using h1
    simp only [wire_put.l0]
    rw [if_neg (by omega), if_pos (by omega), encN_small 0 (by omega)]
    have e : u % 256 = u := by omega
    rw [e]
  | succ f ih =>
    intro k b u hk h0 h1 hb
    obtain ⟨k, rfl⟩ : ∃ m, k = m + 1 := ⟨k - 1, by omega⟩
    simp only [wire_put.l0]
    by_cases h : 128 ≤ u
    · have hlt : u / 128 < 2 * 128 ^ f := by
        have e : (128 : Int) ^ (f + 1) = 128 ^ f * 128 := Int.pow_succ _ _
        rw [e] at h1
        omega
      have e : u % 256 % 128 = u % 128 := by omega
      rw [if_pos (by omega), if_pos (by omega), or_u8 (by omega) (by omega), e, ih k _ (u / 128) (by omega) (by omega) hlt (by simp; omega), encN_big (f + 1) h]
      simp
    · have e : u % 256 = u := by omega
      rw [if_neg (by omega), if_pos (by omega), encN_small (f + 1) h, e]
theorem put_f {k : Nat} {b : List Int} {n : Int} (hk : 10 ≤ k) (h : -9223372036854775808 ≤ n) (h2 : n ≤ 9223372036854775807) (hb : b.length + 10 ≤ 225179981368000) : wire_put.f k b n = some (b ++ int n) := by
  unfold wire_put.f
  have hc := code_range h h2
  have e : (2 : Int) * 128 ^ 9 = 18446744073709551616 := by decide
  rw [code_xor h h2, put_l0 9 k b (code n) (by omega) hc.1 (by omega) (by omega)]
  rfl
theorem copied_f {b : List Int} (hb : b.length < 225179981368000) : wire_copied.f b = some b := by
  unfold wire_copied.f
  rw [if_pos (by simpa using hb)]
  rfl
theorem Int_f {k : Nat} {b : List Int} {n : Int} (hk : 10 ≤ k) (h : -9223372036854775808 ≤ n) (h2 : n ≤ 9223372036854775807) (hb : b.length + 10 ≤ 225179981368000) : wire_Int.f k b n = some (b ++ int n) := by
  unfold wire_Int.f
  rw [copied_f (by omega), bs, put_f hk h h2 hb, bs]

/-! ### TakeInt -/
theorem take_value {i : Nat} (hi : i ≤ 9) {acc x : Int} (ha : 0 ≤ acc) (ha1 : acc < 128 ^ i) (h0 : 0 ≤ x) (h1 : x < 128) (h9 : i = 9 → x ≤ 1) :
    Go.bits .xor .i64 (wrap64 ((Go.bits .or .u64 acc (shl .u64 (IntKind.u64.wrap (x)) (wrap64 (7 * (i : Int))))) / 2)) (wrap64 (-(wrap64 (Go.bits .and .u64 (Go.bits .or .u64 acc (shl .u64 (IntKind.u64.wrap (x)) (wrap64 (7 * (i : Int))))) 1)))) = dec (acc + x * 128 ^ i) := by
  have hl := acc_last hi ha ha1 h0 h1 h9
  have e : IntKind.u64.wrap x = x := by rw [wrap_u64]; omega
  rw [e, wrap_7 hi, shl_7 hi h0 hl.1, or_7 hi ha ha1 h0 hl.1, dec_xor hl.2.1 hl.2.2]
theorem take_j1 {i : Nat} (hi : i ≤ 9) {acc x : Int} (ha : 0 ≤ acc) (ha1 : acc < 128 ^ i) (h0 : 0 ≤ x) (h1 : x < 128) (k : Nat) (fl : Bool) :
    wire_TakeInt.j1 (k + 1) acc (i : Int) x fl = if fl = true ∨ i = 9 ∧ 1 < x then some (0, 0, 18) else some (dec (acc + x * 128 ^ i), (i : Int) + 1, 0) := by
  simp only [wire_TakeInt.j1]
  cases fl with
  | true => simp
  | false =>
    have hw : wrap64 ((i : Int) + 1) = (i : Int) + 1 := wrap_id (by omega) (by omega)
    have h7 : 0 ≤ wrap64 (7 * (i : Int)) := by rw [wrap_7 hi]; omega
    rw [if_neg (by simp), hw]
    by_cases h9 : i = 9
    · rw [if_pos (by omega)]
      by_cases hx : x > 1
      · rw [if_pos hx, if_pos (Or.inr ⟨h9, hx⟩)]
      · rw [if_neg hx, if_pos h7, if_neg (by simp; omega), take_value hi ha ha1 h0 h1 (fun _ => by omega)]
    · rw [if_neg (by omega), if_pos h7, if_neg (by simp [h9]), take_value hi ha ha1 h0 h1 (fun h => absurd h h9)]
theorem scan_step {i : Nat} (hi : i ≤ 9) (c : Int) (l : List Int) (acc : Int) : scan (c :: l) i acc =
    if 128 ≤ c then scan l (i + 1) (acc + (c - 128) * 128 ^ i)
    else if 0 < i ∧ c = 0 ∨ i = 9 ∧ 1 < c then (0, 0, 18)
    else (dec (acc + c * 128 ^ i), (i : Int) + 1, 0) := by rw [scan, if_neg (show ¬i = 10 by omega)]
theorem take_l0 {l : List Int} (hb : Bytes l) (hl : l.length ≤ 225179981368000) (d : Nat) : ∀ (k i : Nat) (acc acc' : Int), i + d = 10 → d + 2 ≤ k → i ≤ l.length → (i < 10 → acc = acc' ∧ 0 ≤ acc ∧ acc < 128 ^ i) →
    wire_TakeInt.l0 k l acc l (l.length : Int) (i : Int) = some (scan (l.drop i) i acc') := by
  induction d with
  | zero =>
    intro k i acc acc' hi hk hil ha
    obtain ⟨k, rfl⟩ : ∃ m, k = m + 1 := ⟨k - 1, by omega⟩
    obtain rfl : i = 10 := by omega
    simp only [wire_TakeInt.l0]
    by_cases h : 10 < l.length
    · rw [List.drop_eq_getElem_cons h, scan, if_pos (show (10 : Nat) = 10 from rfl), if_pos (show ((10 : Nat) : Int) < (l.length : Int) by omega), if_pos (show (0 : Int) ≤ ((10 : Nat) : Int) by omega), if_pos (show ((10 : Nat) : Int) < (l.length : Int) by omega), if_pos (show ((10 : Nat) : Int) = 10 by omega)]
    · rw [List.drop_eq_nil_of_le (by omega), scan, if_pos (show (10 : Nat) ≤ 10 from Nat.le_refl _), if_neg (show ¬((10 : Nat) : Int) < (l.length : Int) by omega), if_pos (show (l.length : Int) ≥ 10 by omega)]
  | succ d ih =>
    intro k i acc acc' hi hk hil ha
    obtain ⟨k, rfl⟩ : ∃ m, k = m + 1 := ⟨k - 1, by omega⟩
    obtain ⟨rfl, ha0, ha1⟩ := ha (by omega)
    have hi9 : i ≤ 9 := by omega
    simp only [wire_TakeInt.l0]
    by_cases h : i < l.length
    · have hc := hb _ (List.getElem_mem h)
      rw [List.drop_eq_getElem_cons h, scan_step hi9, if_pos (show (i : Int) < (l.length : Int) by omega), if_pos (show (0 : Int) ≤ (i : Int) by omega), if_pos (show (i : Int) < (l.length : Int) by omega), if_neg (show ¬(i : Int) = 10 by omega), rd_nat l h]
      generalize l[i] = c at hc ⊢
      by_cases h1 : 128 ≤ c
      · have hw : wrap64 ((i : Int) + 1) = ((i + 1 : Nat) : Int) := by unfold wrap64; omega
        have e : (c - 128) % 256 = c - 128 := by omega
        rw [if_pos h1, if_pos (show c ≥ 128 from h1), if_pos (show 0 ≤ wrap64 (7 * (i : Int)) by rw [wrap_7 hi9]; omega), hw, e]
        refine ih k (i + 1) _ _ (by omega) (by omega) (by omega) (fun hi10 => ?_)
        have hs := small_7 (i := i) (by omega) (x := c - 128) (by omega) (by omega)
        have hu := acc_up ha0 ha1 (x := c - 128) (by omega) (by omega)
        rw [wrap_7 hi9, shl_7 hi9 (by omega) hs, or_7 hi9 ha0 ha1 (by omega) hs]
        exact ⟨rfl, hu⟩
      · obtain ⟨k, rfl⟩ : ∃ m, k = m + 1 := ⟨k - 1, by omega⟩
        rw [if_neg h1, if_neg (show ¬c ≥ 128 from h1)]
        by_cases h0 : 0 < i
        · rw [if_pos (show (i : Int) > 0 by omega), take_j1 hi9 ha0 ha1 hc.1 (by omega) k]
          by_cases hbad : 0 < i ∧ c = 0 ∨ i = 9 ∧ 1 < c
          · have hb2 : (c == 0) = true ∨ i = 9 ∧ 1 < c := by
              rcases hbad with h2 | h2
              · left; simp [h2.2]
              · right; exact h2
            rw [if_pos hbad, if_pos hb2]
          · have hb2 : ¬((c == 0) = true ∨ i = 9 ∧ 1 < c) := by
              intro h2
              refine hbad ?_
              rcases h2 with h2 | h2
              · left; exact ⟨h0, by simpa using h2⟩
              · right; exact h2
            rw [if_neg hbad, if_neg hb2]
        · have hbad : ¬(0 < i ∧ c = 0 ∨ i = 9 ∧ 1 < c) := by omega
          have hb2 : ¬(false = true ∨ i = 9 ∧ 1 < c) := by simp; omega
          rw [if_neg (show ¬(i : Int) > 0 by omega), take_j1 hi9 ha0 ha1 hc.1 (by omega) k, if_neg hbad, if_neg hb2]
    · rw [List.drop_eq_nil_of_le (by omega), scan, if_neg (show ¬10 ≤ i by omega), if_neg (show ¬(i : Int) < (l.length : Int) by omega), if_neg (show ¬(l.length : Int) ≥ 10 by omega)]
theorem TakeInt_f {k : Nat} {l : List Int} (hb : Bytes l) (hl : l.length ≤ 225179981368000) (hk : 12 ≤ k) : wire_TakeInt.f k l = some (take l) := by
  have := take_l0 hb hl 10 k 0 0 0 (by omega) (by omega) (by omega) (fun _ => ⟨rfl, by omega, by simp⟩)
  simpa [wire_TakeInt.f, take] using this

/-! ### SameBytes -/
theorem Same_f {l m : List Int} (hl : Bytes l) (hm : Bytes m) : cellplaneref01_SameBytes.f l m = some (decide (l = m)) := by
  unfold cellplaneref01_SameBytes.f
  rw [str_same hl hm]

/-! ### the sanity check -/
theorem bytes_lit {l : List Int} (h : l.all (fun x => decide (0 ≤ x) && decide (x ≤ 255)) = true) : Bytes l := fun x hx => by
  have := List.all_eq_true.1 h x hx
  simpa using this
theorem awake_f {k : Nat} (hk : 12 ≤ k) : cellplanelaw01_awake.f k = some true := by
  have t1 : take [128, 1] = (64, 2, 0) := by decide +kernel
  have t2 : take [128, 0] = (0, 0, 18) := by decide +kernel
  have i1 : int (-1) = [1] := by decide +kernel
  have i2 : int 64 = [128, 1] := by decide +kernel
  unfold cellplanelaw01_awake.f
  rw [TakeInt_f (bytes_lit (by decide)) (by decide) hk, TakeInt_f (bytes_lit (by decide)) (by decide) hk, t1, t2, Int_f (by omega) (by omega) (by omega) (by simp), Int_f (by omega) (by omega) (by omega) (by simp), i1, i2]
  simp only [List.nil_append, bs]
  rw [Same_f (bytes_lit (by decide)) (bytes_lit (by decide)), Same_f (bytes_lit (by decide)) (bytes_lit (by decide))]
  simp

/-! ### Ints -/
theorem i64_at {l : List Int} (hl : I64 l) {i : Nat} (hi : i < l.length) : -9223372036854775808 ≤ l[i] ∧ l[i] ≤ 9223372036854775807 := hl _ (List.getElem_mem hi)
theorem ints_l0 {l : List Int} (hl : I64 l) (hlen : l.length ≤ 22517998137000) (d : Nat) : ∀ (k i : Nat) (acc : List Int), l.length - i = d → i ≤ l.length → d + 11 ≤ k → acc.length + 10 * d ≤ 225179981368000 →
    wire_Ints.l0 k acc l (l.length : Int) (i : Int) = some (acc ++ ints (l.drop i)) := by
  induction d with
  | zero =>
    intro k i acc hd hi hk hb
    obtain ⟨k, rfl⟩ : ∃ m, k = m + 1 := ⟨k - 1, by omega⟩
    simp only [wire_Ints.l0]
    rw [if_neg (show ¬(i : Int) < (l.length : Int) by omega), List.drop_eq_nil_of_le (by omega)]
    simp [ints]
  | succ d ih =>
    intro k i acc hd hi hk hb
    obtain ⟨k, rfl⟩ : ∃ m, k = m + 1 := ⟨k - 1, by omega⟩
    have hlt : i < l.length := by omega
    have hx := i64_at hl hlt
    have hw : wrap64 ((i : Int) + 1) = ((i + 1 : Nat) : Int) := by unfold wrap64; omega
    have h10 := (int_len l[i]).1
    simp only [wire_Ints.l0]
    rw [if_pos (show (i : Int) < (l.length : Int) by omega), if_pos (show (0 : Int) ≤ (i : Int) by omega), if_pos (show (i : Int) < (l.length : Int) by omega), rd_nat l hlt, put_f (by omega) hx.1 hx.2 (by omega), bs, hw, ih k (i + 1) _ (by omega) (by omega) (by omega) (by rw [List.length_append]; omega), List.drop_eq_getElem_cons hlt, ints_cons, List.append_assoc]
theorem Ints_f {k : Nat} {b l : List Int} (hl : I64 l) (hk : l.length + 12 ≤ k) (hb : b.length + 10 + 10 * l.length ≤ 225179981368000) : wire_Ints.f k b l = some (b ++ list l) := by
  unfold wire_Ints.f
  have h10 := (int_len (l.length : Int)).1
  rw [copied_f (by omega), bs, put_f (by omega) (by omega) (by omega) (by omega), bs]
  have := ints_l0 hl (by omega) l.length k 0 (b ++ int (l.length : Int)) (by omega) (by omega) (by omega) (by rw [List.length_append]; omega)
  rw [List.drop_zero] at this
  have e : wire_Ints.l0 k (b ++ int (l.length : Int)) l (l.length : Int) 0 = wire_Ints.l0 k (b ++ int (l.length : Int)) l (l.length : Int) ((0 : Nat) : Int) := rfl
  rw [e, this, List.append_assoc]
  rfl
theorem list_bytes {l : List Int} (hl : I64 l) (h : l.length ≤ 140737488351232) : Bytes (list l) := (int_bytes (by omega) (by omega)).append (ints_bytes hl)
theorem list_len (l : List Int) : (list l).length ≤ 10 + 10 * l.length := by
  unfold list
  have h1 := (int_len (l.length : Int)).1
  have h2 := ints_len l
  rw [List.length_append]
  omega

/-! ### SameInts -/
theorem sameints_l0 {l m : List Int} (hlm : l.length = m.length) (hlen : l.length ≤ 140737488351232) (d : Nat) : ∀ (k i : Nat), l.length - i = d → i ≤ l.length → d < k →
    cellplaneref01_SameInts.l0 k l m (i : Int) = some (decide (l.drop i = m.drop i)) := by
  induction d with
  | zero =>
    intro k i hd hi hk
    obtain ⟨k, rfl⟩ : ∃ m, k = m + 1 := ⟨k - 1, by omega⟩
    simp only [cellplaneref01_SameInts.l0]
    rw [if_neg (show ¬(i : Int) < (l.length : Int) by omega), List.drop_eq_nil_of_le (by omega), List.drop_eq_nil_of_le (by omega), decide_eq_true rfl]
  | succ d ih =>
    intro k i hd hi hk
    obtain ⟨k, rfl⟩ : ∃ m, k = m + 1 := ⟨k - 1, by omega⟩
    have hlt : i < l.length := by omega
    have hlt2 : i < m.length := by omega
    have hw : wrap64 ((i : Int) + 1) = ((i + 1 : Nat) : Int) := by unfold wrap64; omega
    simp only [cellplaneref01_SameInts.l0]
    rw [if_pos (show (i : Int) < (l.length : Int) by omega), if_pos (show (0 : Int) ≤ (i : Int) by omega), if_pos (show (i : Int) < (m.length : Int) by omega), rd_nat l hlt, rd_nat m hlt2, List.drop_eq_getElem_cons hlt, List.drop_eq_getElem_cons hlt2]
    by_cases e : l[i] = m[i]
    · rw [if_pos e, hw, ih k (i + 1) (by omega) (by omega) (by omega), e]
      congr 1
      by_cases h : l.drop (i + 1) = m.drop (i + 1)
      · rw [decide_eq_true h, decide_eq_true (by rw [h])]
      · rw [decide_eq_false h, decide_eq_false (fun h2 => h (List.cons.inj h2).2)]
    · rw [if_neg e, decide_eq_false (fun h2 => e (List.cons.inj h2).1)]
theorem SameInts_f {k : Nat} {l m : List Int} (hlen : l.length ≤ 140737488351232) (hk : l.length < k) : cellplaneref01_SameInts.f k l m = some (decide (l = m)) := by
  unfold cellplaneref01_SameInts.f
  by_cases h : l.length = m.length
  · rw [if_pos (show (l.length : Int) = (m.length : Int) by omega)]
    have := sameints_l0 h hlen l.length k 0 (by omega) (by omega) hk
    rw [List.drop_zero, List.drop_zero] at this
    exact this
  · rw [if_neg (show ¬(l.length : Int) = (m.length : Int) by omega), decide_eq_false (fun e => h (by rw [e]))]

theorem alike_f {k : Nat} {l m : List Int} (hl : I64 l) (hm : I64 m) (hll : l.length ≤ 17592186043904) (hml : m.length ≤ 17592186043904) (hk : 17592186043920 ≤ k) : cellplanelaw01_alike.f k l m = some true := by
  unfold cellplanelaw01_alike.f
  rw [Ints_f hl (by omega) (by simp; omega), bs, Ints_f hm (by omega) (by simp; omega), bs, List.nil_append, List.nil_append, Same_f (list_bytes hl (by omega)) (list_bytes hm (by omega)), bs, SameInts_f (by omega) (by omega), bs]
  congr 1
  by_cases h : l = m
  · subst h; simp
  · rw [decide_eq_false h, decide_eq_false (fun e => h (list_inj hl hm (by omega) (by omega) e))]
    rfl
theorem place {a n : Int} (hn : 0 < n) (hn2 : n ≤ 140737488351232) : 0 ≤ Int.tmod (wrap64 (Int.tmod a n + n)) n ∧ Int.tmod (wrap64 (Int.tmod a n + n)) n < n := by
  have h1 : -n < Int.tmod a n := Int.lt_tmod_of_pos a hn
  have h2 : Int.tmod a n < n := Int.tmod_lt_of_pos a hn
  have e : wrap64 (Int.tmod a n + n) = Int.tmod a n + n := by unfold wrap64; omega
  rw [e]
  exact ⟨Int.tmod_nonneg _ (by omega), Int.tmod_lt_of_pos _ hn⟩
theorem I64.set {l : List Int} (h : I64 l) (n : Nat) {c : Int} (h0 : -9223372036854775808 ≤ c) (h1 : c ≤ 9223372036854775807) : I64 (l.set n c) := fun x hx => by
  rcases List.mem_or_eq_of_mem_set hx with h2 | h2
  · exact h x h2
  · rw [h2]; exact ⟨h0, h1⟩
theorem WireUnlike : cellplanelaw01_WireUnlike.Pure := by
  intro l m at_ by_ hm1 hl1 hx1 hm2 hl2 hx2 ha hb
  have hl := i64s_of hx1
  have hm := i64s_of hx2
  have hb2 := i64_of hb
  refine ⟨17592186043930, ?_⟩
  unfold cellplanelaw01_WireUnlike.f
  rw [bs, if_pos (by simp; omega), bs, List.nil_append]
  by_cases h0 : (l.length : Int) > 0
  · have hp := place (a := at_) (n := (l.length : Int)) (by omega) (by omega)
    rw [if_pos h0, if_neg (by omega), if_pos hp.1, if_pos hp.2, awake_f (by omega), bs, if_pos rfl, alike_f hl hm (by omega) (by omega) (by omega), bs, if_pos rfl, alike_f hl (I64.set hl _ hb2.1 hb2.2) (by omega) (by rw [List.length_set]; omega) (by omega), bs]
  · rw [if_neg h0, awake_f (by omega), bs, if_pos rfl, alike_f hl hm (by omega) (by omega) (by omega), bs, if_pos rfl, alike_f hl hl (by omega) (by omega) (by omega), bs]

end Go.Proofs.Ytgbdabhjcimbbaa.Pure
