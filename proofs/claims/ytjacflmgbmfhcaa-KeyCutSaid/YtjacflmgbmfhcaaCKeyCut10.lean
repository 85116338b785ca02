-- Written by drive.py and pack.py (programs of this proof's own) through the kit's printer; not trusted: Lean checks it.
import Derived.Test.YtjacflmgbmfhcaaCKeyCut1
import Derived.Test.YtjacflmgbmfhcaaCKeyCut2
import Derived.Test.YtjacflmgbmfhcaaCKeyCut6
import Derived.Test.YtjacflmgbmfhcaaCKeyCut4
import Derived.Test.YtjacflmgbmfhcaaCKeyCut3
import Derived.Test.YtjacflmgbmfhcaaCKeyCut9
import Derived.Test.YtjacflmgbmfhcaaCKeyCut7
namespace Go.Proofs.Ytjacflmgbmfhcaa.K
open Go.RowKit Go.Proofs.YtjacflmgbmfhcaaW.PrintWords Go.Proofs.YtjacflmgbmfhcaaW.PrintLast Go.Proofs.YtjacflmgbmfhcaaW.PrintMore
attribute [local go_sem] max2_int min2_int max_two min_two max_three min_three max_four min_four
attribute [local go_sem high] own_gtr own_leq own_geq own_cell_set Option.map_some fld24_3
set_option linter.unusedVariables false
set_option linter.unusedSimpArgs false
theorem orLow (x b : Int) (h0 : 0 ≤ b) (h1 : b < 256) : Go.bits .or .i64 (wrap64 (x * 256)) b = wrap64 (x * 256 + b) := by
  have a1 := toNat_ofInt (wrap64 (x * 256))
  have b1 := toNat_ofInt b
  show IntKind.i64.wrap ((BitVec.ofInt 64 (wrap64 (x * 256)) ||| BitVec.ofInt 64 b).toNat : Int) = _
  rw [BitVec.toNat_or, i64_wrap]
  generalize (BitVec.ofInt 64 (wrap64 (x * 256))).toNat = r at *
  generalize (BitVec.ofInt 64 b).toNat = t at *
  have a2 : (r : Int) = (x * 256) % 18446744073709551616 := by rw [a1]; unfold wrap64; omega
  have b2 : (t : Int) = b := by rw [b1]; omega
  obtain ⟨q, rfl⟩ : ∃ q, r = 2 ^ 8 * q := ⟨r / 256, by omega⟩
  rw [← Nat.two_pow_add_eq_or_of_lt (show t < 2 ^ 8 by omega) q]
  have : ((2 ^ 8 * q + t : Nat) : Int) = (x * 256) % 18446744073709551616 + b := by
    rw [← a2, ← b2]; omega
  rw [this]
  unfold wrap64
  omega
theorem wrap64_congr {a b : Int} (h : a % 18446744073709551616 = b % 18446744073709551616) : wrap64 a = wrap64 b := by
  unfold wrap64; omega
theorem wrap64_emod (a : Int) : wrap64 a % 18446744073709551616 = a % 18446744073709551616 := by unfold wrap64; omega
theorem key_unsigned_l0 (L : List Int) (hL : isB L) (hlen : L.length ≤ 100000) : ∀ (d k i : Nat) (a : Int), d < k → i + d = L.length → key_unsigned.l0 k (strOfNums L) (wrap64 a) (i : Int) = some (wrap64 ((L.drop i).foldl (fun a b => a * 256 + b) a))
  | 0, k, i, a, hk, hd => by
    obtain ⟨k, rfl⟩ : ∃ m, k = m + 1 := ⟨k - 1, by omega⟩
    have hz := son_size L
    simp only [key_unsigned.l0]
    rw [if_neg (by omega), List.drop_of_length_le (by omega)]; rfl
  | d + 1, k, i, a, hk, hd => by
    obtain ⟨k, rfl⟩ : ∃ m, k = m + 1 := ⟨k - 1, by omega⟩
    have hz := son_size L
    have hi : i < L.length := by omega
    have hb := hL _ (List.getElem_mem hi)
    simp only [key_unsigned.l0]
    rw [if_pos (by omega), if_pos (by omega), bt_son hL i hi, wrap64_of (x := L[i]) (by omega) (by omega), orLow _ _ hb.1 hb.2, wrap64_of (x := (i : Int) + 1) (by omega) (by omega), show (i : Int) + 1 = ((i + 1 : Nat) : Int) by omega,
      wrap64_congr (a := wrap64 a * 256 + L[i]) (b := a * 256 + L[i]) (by have := wrap64_emod a; omega), key_unsigned_l0 L hL hlen d k (i + 1) _ (by omega) (by omega), List.drop_eq_getElem_cons hi, List.foldl_cons]
theorem key_unsigned_eq (L : List Int) (hL : isB L) (hlen : L.length ≤ 100000) (k : Nat) (hk : L.length < k) : key_unsigned.f k (strOfNums L) = some (wrap64 (num256 L)) := by
  have := key_unsigned_l0 L hL hlen L.length k 0 0 hk (by omega)
  rw [show wrap64 0 = 0 by unfold wrap64; omega] at this
  unfold key_unsigned.f
  exact this
theorem key_front_eq (L : List Int) (n : Nat) : key_front.f (strOfNums L) (n : Int) = some (if L.length < n then ((⟨#[]⟩ : ByteArray), false) else (strOfNums (L.take n), true)) := by
  have hz := son_size L
  unfold key_front.f
  by_cases h : L.length < n
  · rw [if_pos (by omega), if_pos h]
  · rw [if_neg (by omega), if_neg h, if_pos (by omega), if_pos (by omega), Int.toNat_natCast, son_take]
def decOut (w f : Int) (s : Nat) (x : Int) : Int × Int × Int × ByteArray × Int × Bool :=
  if w < -(1000000000000000 / p10 s) then (0, 0, 0, (⟨#[]⟩ : ByteArray), 0, false) else if w > 1000000000000000 / p10 s then (0, 0, 0, (⟨#[]⟩ : ByteArray), 0, false) else (3, w * p10 s + f, (s : Int), (⟨#[]⟩ : ByteArray), x, true)
theorem most_div (s : Nat) (hs : s ≤ 6) : Int.tdiv (1000000000000000 : Int) (p10 s) = 1000000000000000 / p10 s ∧ Int.tdiv (-1000000000000000 : Int) (p10 s) = -(1000000000000000 / p10 s) ∧ 1000000000000000 / p10 s * p10 s = 1000000000000000 := by
  have : s = 0 ∨ s = 1 ∨ s = 2 ∨ s = 3 ∨ s = 4 ∨ s = 5 ∨ s = 6 := by omega
  rcases this with rfl | rfl | rfl | rfl | rfl | rfl | rfl <;> exact ⟨by decide, by decide, by decide⟩
theorem dec_end (w f : Int) (s : Nat) (x : Int) (hs : s ≤ 6) (h0 : 0 ≤ f) (h1 : f < p10 s) :
    (if p10 s = 0 then none else (if w < (wrap64 (Int.tdiv (-1000000000000000) (p10 s))) then (some (0, 0, 0, (⟨#[]⟩ : ByteArray), 0, false)) else (if w > (wrap64 (Int.tdiv (1000000000000000 : Int) (p10 s))) then (some (0, 0, 0, (⟨#[]⟩ : ByteArray), 0, false)) else (some (3, wrap64 ((wrap64 (w * (p10 s))) + f), (s : Int), (⟨#[]⟩ : ByteArray), x, true))))) = some (decOut w f s x) := by
  have hp := p10_pos s
  have hp6 := p10_mono (m := s) (n := 6) hs
  have e6 := p10_six
  obtain ⟨a1, a2, a3⟩ := most_div s hs
  have b0 : 0 ≤ 1000000000000000 / p10 s := Int.ediv_nonneg (by decide) (by omega)
  have b1 : 1000000000000000 / p10 s ≤ 1000000000000000 := Int.ediv_le_self _ (by decide)
  rw [if_neg (by omega), a1, a2, wrap64_of (x := -(1000000000000000 / p10 s)) (by omega) (by omega), wrap64_of (x := 1000000000000000 / p10 s) (by omega) (by omega)]
  unfold decOut
  by_cases c1 : w < -(1000000000000000 / p10 s)
  · rw [if_pos c1, if_pos c1]
  rw [if_neg c1, if_neg c1]
  by_cases c2 : w > 1000000000000000 / p10 s
  · rw [if_pos c2, if_pos c2]
  rw [if_neg c2, if_neg c2]
  have m1 : w * p10 s ≤ 1000000000000000 / p10 s * p10 s := Int.mul_le_mul_of_nonneg_right (by omega) (by omega)
  have m2 : -(1000000000000000 / p10 s) * p10 s ≤ w * p10 s := Int.mul_le_mul_of_nonneg_right (by omega) (by omega)
  rw [Int.neg_mul] at m2
  rw [wrap64_of (x := w * p10 s) (by omega) (by omega), wrap64_of (by omega) (by omega)]
theorem key_decimal_l0 (w x : Int) : ∀ (s k : Nat) (f : Int), s < k → s ≤ 6 → 0 ≤ f → f < p10 s → key_decimal.l0 k w f x (p10 s) (s : Int) = some (decOut w (red f s).1 (red f s).2 x)
  | 0, k, f, hk, hs, h0, h1 => by
    obtain ⟨k, rfl⟩ : ∃ m, k = m + 1 := ⟨k - 1, by omega⟩
    simp only [key_decimal.l0]
    rw [if_neg (by omega)]
    exact dec_end w f 0 x hs h0 h1
  | s + 1, k, f, hk, hs, h0, h1 => by
    obtain ⟨k, rfl⟩ : ∃ m, k = m + 1 := ⟨k - 1, by omega⟩
    have hp := p10_pos s
    have hp6 := p10_mono (m := s + 1) (n := 6) hs
    have e6 := p10_six
    have e := p10_succ s
    simp only [key_decimal.l0]
    rw [if_pos (by omega)]
    simp only [red]
    by_cases h : f % 10 = 0
    · rw [if_pos ((tmod10 f).2 h), if_pos h, tdiv10 f h, tdiv10 (p10 (s + 1)) (by omega), show p10 (s + 1) / 10 = p10 s by omega, wrap64_of (by omega) (by omega), wrap64_of (by omega) (by omega), wrap64_of (by omega) (by omega), show ((s + 1 : Nat) : Int) - 1 = (s : Int) by omega]
      exact key_decimal_l0 w x s k (f / 10) (by omega) (by omega) (by omega) (by omega)
    · rw [if_neg (fun e => h ((tmod10 f).1 e)), if_neg h]
      exact dec_end w f (s + 1) x hs h0 h1
theorem red_parts (n : Int) (s : Nat) (h : RD n s) : n / p10 s * p10 (red (n % p10 s * p10 (6 - s)) 6).2 + (red (n % p10 s * p10 (6 - s)) 6).1 = n ∧ (red (n % p10 s * p10 (6 - s)) 6).2 = s := by
  have hs := h.sc
  have hp := p10_pos s
  have e1 : red (n % p10 s * p10 (6 - s)) 6 = red (n % p10 s) s := by
    have := red_tens (n % p10 s) (6 - s) s
    rw [show s + (6 - s) = 6 by omega] at this
    exact this
  have hm := Int.mul_ediv_add_emod n (p10 s)
  have e2 : red (n % p10 s) s = (n % p10 s, s) := by
    apply red_same
    rcases h.nm with h' | h'
    · exact Or.inl h'
    · cases s with
      | zero => exact Or.inl rfl
      | succ s =>
        right
        rw [p10_succ] at hm ⊢
        rw [Int.mul_assoc, Int.mul_comm (p10 s), Int.mul_assoc] at hm
        omega
  rw [e1, e2]
  exact ⟨by dsimp only; rw [Int.mul_comm]; exact hm, rfl⟩
theorem whole_bounds (n : Int) (s : Nat) (h : RD n s) : -(1000000000000000 / p10 s) ≤ n / p10 s ∧ n / p10 s ≤ 1000000000000000 / p10 s := by
  have hs := h.sc
  have hp := p10_pos s
  obtain ⟨_, _, a3⟩ := most_div s hs
  have h0 := h.lo
  have h1 := h.hi
  constructor
  · rw [Int.le_ediv_iff_mul_le hp, Int.neg_mul]; omega
  · exact Int.ediv_le_ediv hp (by omega)
theorem decimal_back (n : Int) (s : Nat) (x : Int) (k : Nat) (hk : 6 < k) (h : RD n s) : key_decimal.f k (n / p10 s) (n % p10 s * p10 (6 - s)) x = some (3, n, (s : Int), (⟨#[]⟩ : ByteArray), x, true) := by
  have hs := h.sc
  have hp := p10_pos s
  have hq := p10_six_sub s hs
  have hq0 := p10_pos (6 - s)
  have e6 := p10_six
  have hm0 := Int.emod_nonneg n (show p10 s ≠ 0 by omega)
  have hm1 := Int.emod_lt_of_pos n hp
  have hmul : n % p10 s * p10 (6 - s) ≤ (p10 s - 1) * p10 (6 - s) := Int.mul_le_mul_of_nonneg_right (by omega) (by omega)
  rw [Int.sub_mul, Int.one_mul] at hmul
  have hmul0 : 0 ≤ n % p10 s * p10 (6 - s) := Int.mul_nonneg hm0 (by omega)
  unfold key_decimal.f
  rw [if_neg (by omega)]
  have := key_decimal_l0 (n / p10 s) x 6 k (n % p10 s * p10 (6 - s)) hk (by decide) hmul0 (by omega)
  rw [p10_six] at this
  obtain ⟨r1, r2⟩ := red_parts n s h
  have hw := whole_bounds n s h
  rw [show ((6 : Nat) : Int) = 6 from rfl] at this
  rw [this]
  unfold decOut
  rw [r1, r2, if_neg (by omega), if_neg (by omega)]
theorem num_back (a : Int) (h : I64 a) : Go.bits .xor .i64 (wrap64 (num256 (be (a + 9223372036854775808) 8))) (-9223372036854775808) = a := by
  rw [xorMin, num256_be, p256_8]
  unfold I64 at h
  unfold wrap64
  omega
theorem I64_ediv {n : Int} {s : Nat} (h : RD n s) : I64 (n / p10 s) := by
  have := ediv_small (p10_pos s) h.lo h.hi
  unfold I64; omega
theorem st_empty {st : ByteArray} (h : st.toList = []) : st = ⟨#[]⟩ := toList_inj.1 (h.trans (show [] = (⟨#[]⟩ : ByteArray).toList by decide +kernel))
theorem key_read_eq {kd n : Int} {s : Nat} {st : ByteArray} (m : Made kd n s st) (more : List Int) (hm : isB more) (hl : more.length ≤ 5000) (k : Nat) (hk : 12000 < k) :
    key_read.f k kd 0 0 (⟨#[]⟩ : ByteArray) (strOfNums (keyB kd n s st ++ more)) = some (kd, n, (s : Int), st, ((keyB kd n s st).length : Int), true) := by
  obtain ⟨k, rfl⟩ : ∃ j, k = j + 1 := ⟨k - 1, by omega⟩
  have hb := keyB_isB m
  have hlen := keyB_len m
  have k0 := m.k0
  have k5 := m.k5
  have hr := m.r
  have hB := isB_append hb hm
  unfold key_read.f
  by_cases h1 : kd = 1
  · subst h1
    have hn := right_bool m.r
    have hs := m.z (by decide)
    have hst := right_empty m.r (by decide) (by decide)
    obtain rfl : st = ⟨#[]⟩ := st_empty hst
    subst hs
    have eB : keyB 1 n 0 (⟨#[]⟩ : ByteArray) = [n] := rfl
    rw [eB] at hB ⊢
    have hf := key_front_eq ([n] ++ more) 1
    rw [if_neg (by simp)] at hf
    rw [if_pos rfl]
    simp only [key_read.j0]
    rw [show ((1 : Nat) : Int) = 1 from rfl] at hf
    rw [hf, Option.bind_some]
    simp only [reduceIte, Int.reduceEq]
    rw [key_unsigned_eq _ (isB_take hB 1) (by simp) k (by simp; omega), Option.bind_some]
    have : num256 ([n] ++ more |>.take 1) = n := by simp [num256]
    rw [this, wrap64_of (by omega) (by omega)]; rfl
  rw [if_neg h1]
  by_cases h2 : kd = 2
  · subst h2
    have hn := m.v.i
    have hs := m.z (by decide)
    have hst := right_empty m.r (by decide) (by decide)
    obtain rfl : st = ⟨#[]⟩ := st_empty hst
    subst hs
    have eB : keyB 2 n 0 (⟨#[]⟩ : ByteArray) = be (n + 9223372036854775808) 8 := rfl
    rw [eB] at hB ⊢
    have hf := key_front_eq (be (n + 9223372036854775808) 8 ++ more) 8
    rw [if_neg (by rw [List.length_append, be_len]; omega), List.take_append_of_le_length (by rw [be_len]; decide), List.take_of_length_le (by rw [be_len]; decide)] at hf
    rw [if_pos rfl]
    simp only [key_read.j0]
    rw [show ((8 : Nat) : Int) = 8 from rfl] at hf
    rw [hf, Option.bind_some]
    simp only [reduceIte, Int.reduceEq]
    rw [key_unsigned_eq _ (be_isB _ 8) (by rw [be_len]; decide) k (by rw [be_len]; omega), Option.bind_some, num_back n hn, be_len]
    rfl
  rw [if_neg h2]
  by_cases h3 : kd = 3
  · subst h3
    have hd := m.v.d rfl
    have hst := right_empty m.r (by decide) (by decide)
    obtain rfl : st = ⟨#[]⟩ := st_empty hst
    have eB : keyB 3 n s (⟨#[]⟩ : ByteArray) = be (n / p10 s + 9223372036854775808) 8 ++ be (n % p10 s * p10 (6 - s)) 4 := rfl
    have hl12 : (keyB 3 n s (⟨#[]⟩ : ByteArray)).length = 12 := by rw [eB, List.length_append, be_len, be_len]
    have hf := key_front_eq (keyB 3 n s (⟨#[]⟩ : ByteArray) ++ more) 12
    rw [if_neg (by rw [List.length_append]; omega), List.take_append_of_le_length (by omega), List.take_of_length_le (by omega)] at hf
    rw [hl12, if_pos rfl]
    simp only [key_read.j0]
    rw [show ((12 : Nat) : Int) = 12 from rfl] at hf
    rw [hf, Option.bind_some]
    simp only [reduceIte, Int.reduceEq]
    have hz := son_size (keyB 3 n s (⟨#[]⟩ : ByteArray))
    rw [if_pos (by decide), if_pos (by omega), son_take, son_drop, eB,
      List.take_append_of_le_length (by rw [be_len]; decide), List.take_of_length_le (by rw [be_len]; decide), List.drop_append_of_le_length (by rw [be_len]; decide), List.drop_of_length_le (by rw [be_len]; decide), List.nil_append,
      key_unsigned_eq _ (be_isB _ 8) (by rw [be_len]; decide) k (by rw [be_len]; omega), Option.bind_some, key_unsigned_eq _ (be_isB _ 4) (by rw [be_len]; decide) k (by rw [be_len]; omega), Option.bind_some, num_back _ (I64_ediv hd), num256_be, p256_4]
    have hs := hd.sc
    have hp := p10_pos s
    have hq := p10_six_sub s hs
    have hq0 := p10_pos (6 - s)
    have hm0 := Int.emod_nonneg n (show p10 s ≠ 0 by omega)
    have hm1 := Int.emod_lt_of_pos n hp
    have hmul : n % p10 s * p10 (6 - s) ≤ (p10 s - 1) * p10 (6 - s) := Int.mul_le_mul_of_nonneg_right (by omega) (by omega)
    rw [Int.sub_mul, Int.one_mul] at hmul
    have hmul0 : 0 ≤ n % p10 s * p10 (6 - s) := Int.mul_nonneg hm0 (by omega)
    rw [Int.emod_eq_of_lt hmul0 (by omega), wrap64_of (by omega) (by omega), decimal_back n s _ k (by omega) hd, Option.bind_some]
    rfl
  rw [if_neg h3]
  have hz : st.size = st.data.size := rfl
  have hsz := m.sz
  by_cases h4 : kd = 4
  · subst h4
    have hs := m.z (by decide)
    subst hs
    have hn : n = 0 := by
      unfold rightB at hr
      rw [if_neg (by decide), if_neg (by decide), if_neg (by decide), if_neg (by decide), if_pos rfl] at hr
      simp only [Bool.and_eq_true, decide_eq_true_eq] at hr
      exact hr.1.1
    subst hn
    have eB : keyB 4 0 0 st = escL (byteL st) := rfl
    rw [eB] at hB hlen ⊢
    have := key_text_eq _ hB (by rw [List.length_append]; omega) (k + 1) (by rw [List.length_append]; omega)
    rw [if_pos rfl, this, txt_esc, Option.bind_some]
    simp only [txtRes, List.nil_append, Nat.zero_add, son_byteL]
    rfl
  rw [if_neg h4]
  by_cases h5 : kd = 5
  · subst h5
    have hs := m.z (by decide)
    subst hs
    have hn : n = 0 := by
      unfold rightB at hr
      rw [if_neg (by decide), if_neg (by decide), if_neg (by decide), if_neg (by decide), if_neg (by decide), if_pos rfl] at hr
      simp only [decide_eq_true_eq] at hr
      exact hr.1
    subst hn
    have eB : keyB 5 0 0 st = escL (byteL st) := rfl
    rw [eB] at hB hlen ⊢
    have := key_text_eq _ hB (by rw [List.length_append]; omega) (k + 1) (by rw [List.length_append]; omega)
    rw [if_pos rfl, this, txt_esc, Option.bind_some]
    simp only [txtRes, List.nil_append, Nat.zero_add, son_byteL]
    rfl
  rw [if_neg h5]
  obtain rfl : kd = 0 := by omega
  have hn := right_null m.r
  have hst := right_empty m.r (by decide) (by decide)
  obtain rfl : st = ⟨#[]⟩ := st_empty hst
  have hs := m.z (by decide)
  subst hs
  obtain rfl := hn.1
  have eB : keyB 0 0 0 (⟨#[]⟩ : ByteArray) = [] := rfl
  rw [eB]
  have hf := key_front_eq ([] ++ more) 0
  rw [if_neg (by omega)] at hf
  simp only [key_read.j0]
  rw [show ((0 : Nat) : Int) = 0 from rfl] at hf
  rw [hf, Option.bind_some]
  simp only [reduceIte, Int.reduceEq]
  rfl
theorem key_read_cut {kd n : Int} {s : Nat} {st : ByteArray} (m : Made kd n s st) (c : Nat) (hc : c < (keyB kd n s st).length) (k : Nat) (hk : 12000 < k) :
    ∃ a b d e f, key_read.f k kd 0 0 (⟨#[]⟩ : ByteArray) (strOfNums ((keyB kd n s st).take c)) = some (a, b, d, e, f, false) := by
  obtain ⟨k, rfl⟩ : ∃ j, k = j + 1 := ⟨k - 1, by omega⟩
  have hb := keyB_isB m
  have hlen := keyB_len m
  have k0 := m.k0
  have k5 := m.k5
  have hB := isB_take hb c
  have hcl : ((keyB kd n s st).take c).length = c := by rw [List.length_take]; omega
  have short : ∀ z : Nat, c < z → ∃ a b d e f, key_read.j0 (k + 1) (strOfNums ((keyB kd n s st).take c)) (z : Int) kd 0 0 (⟨#[]⟩ : ByteArray) = some (a, b, d, e, f, false) := fun z hz => by
    have hf := key_front_eq ((keyB kd n s st).take c) z
    rw [hcl, if_pos hz] at hf
    simp only [key_read.j0]
    rw [hf, Option.bind_some]
    dsimp only
    rw [if_neg (by decide)]
    exact ⟨_, _, _, _, _, rfl⟩
  have text : (keyB kd n s st) = escL (byteL st) → ∃ a b d e f, ((key_text.f (k + 1) (strOfNums ((keyB kd n s st).take c))).bind fun bt103 => (some (kd, (0 : Int), (0 : Int), bt103.1, bt103.2.1, bt103.2.2))) = some (a, b, d, e, f, false) := fun e => by
    have := key_text_eq _ hB (by omega) (k + 1) (by omega)
    rw [this, e, txt_cut _ c (by rw [← e]; exact hc), Option.bind_some]
    exact ⟨_, _, _, _, _, rfl⟩
  unfold key_read.f
  by_cases h1 : kd = 1
  · rw [if_pos h1]
    exact short 1 (by subst h1; exact hc)
  rw [if_neg h1]
  by_cases h2 : kd = 2
  · rw [if_pos h2]
    exact short 8 (by subst h2; have : (keyB 2 n s st).length = 8 := be_len _ 8; omega)
  rw [if_neg h2]
  by_cases h3 : kd = 3
  · rw [if_pos h3]
    exact short 12 (by
      subst h3
      have : (keyB 3 n s st).length = 12 := by
        show (be _ 8 ++ be _ 4).length = 12
        rw [List.length_append, be_len, be_len]
      omega)
  rw [if_neg h3]
  by_cases h4 : kd = 4
  · rw [if_pos h4]
    exact text (by subst h4; rfl)
  rw [if_neg h4]
  by_cases h5 : kd = 5
  · rw [if_pos h5]
    exact text (by subst h5; rfl)
  · exfalso
    obtain rfl : kd = 0 := by omega
    have : (keyB 0 n s st).length = 0 := rfl
    omega
theorem ReadKey_eq {kd n : Int} {s : Nat} {st : ByteArray} (m : Made kd n s st) (more : List Int) (hm : isB more) (hl : more.length ≤ 5000) (k : Nat) (hk : 12000 < k) :
    key_ReadKey.f k (strOfNums (keyL kd n s st ++ more)) = some (kd, n, (s : Int), st, ((keyL kd n s st).length : Int), true) := by
  have hB := isB_append (keyL_isB m) hm
  have k0 := m.k0
  have k5 := m.k5
  have hlen := keyB_len m
  have hz := son_size (keyL kd n s st ++ more)
  have hL : (keyL kd n s st).length = (keyB kd n s st).length + 1 := rfl
  have hA : (keyL kd n s st ++ more).length = (keyB kd n s st).length + 1 + more.length := by rw [List.length_append, hL]
  have b0 := bt_son hB 0 (by omega)
  have e0 : (keyL kd n s st ++ more)[0]'(by omega) = kd := rfl
  unfold key_ReadKey.f
  rw [if_neg (by rw [son_nil]; intro h; rw [h, List.length_nil] at hA; omega), if_pos (by omega), if_pos (by omega), show (0 : Int) = ((0 : Nat) : Int) from rfl, b0, e0, wrap64_of (by omega) (by omega), son_drop]
  have hd : (keyL kd n s st ++ more).drop 1 = keyB kd n s st ++ more := rfl
  have hr := key_read_eq m more hm hl k hk
  rw [hd]
  rw [show ((0 : Nat) : Int) = 0 from rfl, hr, Option.bind_some]
  dsimp only
  rw [if_pos rfl, val_Right_eq k kd n (s : Int) st (by omega), Option.bind_some, if_pos m.r, key_Key_eq m k (by omega), Option.bind_some, wrap64_of (by omega) (by omega), if_pos (by omega), if_pos (by omega)]
  rw [show (((keyB kd n s st).length : Int) + 1).toNat = (keyL kd n s st).length by omega, son_take, List.take_append_of_le_length (Nat.le_refl _), List.take_length, if_pos rfl, hL]
  rfl
theorem ReadKey_cut {kd n : Int} {s : Nat} {st : ByteArray} (m : Made kd n s st) (c : Nat) (hc : c < (keyL kd n s st).length) (k : Nat) (hk : 12000 < k) :
    key_ReadKey.f k (strOfNums ((keyL kd n s st).take c)) = some (0, 0, 0, (⟨#[]⟩ : ByteArray), 0, false) := by
  have hB := isB_take (keyL_isB m) c
  have k0 := m.k0
  have k5 := m.k5
  have hL : (keyL kd n s st).length = (keyB kd n s st).length + 1 := rfl
  have hz := son_size ((keyL kd n s st).take c)
  have hcl : ((keyL kd n s st).take c).length = c := by rw [List.length_take]; omega
  unfold key_ReadKey.f
  cases c with
  | zero => rw [if_pos (by rw [son_nil]; rfl)]
  | succ c =>
    have b0 := bt_son hB 0 (by omega)
    have e0 : ((keyL kd n s st).take (c + 1))[0]'(by omega) = kd := rfl
    rw [if_neg (by rw [son_nil]; intro h; rw [h, List.length_nil] at hcl; omega), if_pos (by omega), if_pos (by omega), show (0 : Int) = ((0 : Nat) : Int) from rfl, b0, e0, wrap64_of (by omega) (by omega), son_drop]
    have hd : ((keyL kd n s st).take (c + 1)).drop 1 = (keyB kd n s st).take c := rfl
    obtain ⟨a, b, d, e, f, hr⟩ := key_read_cut m c (by omega) k hk
    rw [hd, show ((0 : Nat) : Int) = 0 from rfl, hr, Option.bind_some]
    dsimp only
    rw [if_neg (by decide)]
end Go.Proofs.Ytjacflmgbmfhcaa.K
namespace Go.Proofs.Ytjacflmgbmfhcaa.K
open Go.RowKit Go.Proofs.YtjacflmgbmfhcaaW.PrintWords Go.Proofs.YtjacflmgbmfhcaaW.PrintLast Go.Proofs.YtjacflmgbmfhcaaW.PrintMore
attribute [local go_sem] max2_int min2_int max_two min_two max_three min_three max_four min_four
attribute [local go_sem high] own_gtr own_leq own_geq own_cell_set Option.map_some fld24_3
set_option linter.unusedVariables false
set_option linter.unusedSimpArgs false
theorem known2_three : federationlaw2_known.f 300 = some true := by decide +kernel
theorem known2_ge {k : Nat} (h : 300 ≤ k) : federationlaw2_known.f k = some true := at_rounds federationlaw2_known.mono h known2_three
theorem within2_eq (a n : Int) (ha : I64 a) (h0 : 0 < n) (h1 : n ≤ 4611686018427387904) : federationlaw2_within.f a n = some (a % n) := by
  unfold federationlaw2_within.f I64 at *
  rw [if_neg (by omega)]
  have e3 := Int.emod_lt_of_pos a h0
  have e4 := Int.emod_nonneg a (show n ≠ 0 by omega)
  rcases tdm a n h0 with ⟨c, e1, e2⟩ | ⟨c, e1, e2⟩
  · rw [if_pos c, wrap64_of (by omega) (by omega), e2]
  · rw [if_neg c, e2]
structure MadeS (v : S24) : Prop where
  s : v.f2 = ((v.f2.toNat : Nat) : Int)
  m : Made v.f0 v.f1 v.f2.toNat v.f3
def keyS (v : S24) : List Int := keyL v.f0 v.f1 v.f2.toNat v.f3
def rowB (l : List S24) : List Int := l.flatMap keyS
def rowL (l : List S24) : List Int := (l.length : Int) :: rowB l
theorem keyS_isB {v : S24} (h : MadeS v) : isB (keyS v) := keyL_isB h.m
theorem keyS_len {v : S24} (h : MadeS v) : 1 ≤ (keyS v).length ∧ (keyS v).length ≤ 83 := by
  have := keyB_len h.m
  show 1 ≤ (keyB _ _ _ _).length + 1 ∧ (keyB _ _ _ _).length + 1 ≤ 83
  omega
theorem keyS_eq {v : S24} (h : MadeS v) (k : Nat) (hk : 20 < k) : key_Key.f k v.f0 v.f1 v.f2 v.f3 = some (strOfNums (keyS v)) := by
  have := key_Key_eq h.m k hk
  rw [← h.s] at this
  exact this
theorem rowB_isB : ∀ {l : List S24}, (∀ v ∈ l, MadeS v) → isB (rowB l)
  | [], _ => isB_nil
  | v :: l, h => by
    show isB (keyS v ++ rowB l)
    exact isB_append (keyS_isB (h v List.mem_cons_self)) (rowB_isB fun u hu => h u (List.mem_cons_of_mem _ hu))
theorem rowB_len : ∀ {l : List S24}, (∀ v ∈ l, MadeS v) → (rowB l).length ≤ 83 * l.length
  | [], _ => by simp [rowB]
  | v :: l, h => by
    have h1 := keyS_len (h v List.mem_cons_self)
    have h2 := rowB_len fun u hu => h u (List.mem_cons_of_mem _ hu)
    have : (rowB (v :: l)).length = (keyS v).length + (rowB l).length := by
      show (keyS v ++ rowB l).length = _
      rw [List.length_append]
    rw [this, List.length_cons]
    omega
theorem rowB_snoc (l : List S24) (v : S24) : rowB (l ++ [v]) = rowB l ++ keyS v := by simp [rowB]
theorem rowB_cons (v : S24) (l : List S24) : rowB (v :: l) = keyS v ++ rowB l := rfl
theorem rd24 (l : List S24) (i : Nat) (h : i < l.length) : rd_T24 l (i : Int) = l[i] := by
  unfold rd_T24
  rw [Int.toNat_natCast, List.getD_eq_getElem?_getD, List.getElem?_eq_getElem h]; rfl
theorem keys_l0 (l : List S24) (hl : ∀ v ∈ l, MadeS v) (hn : l.length ≤ 10) : ∀ (d k i : Nat), d + 20 < k → i + d = l.length → api_Value__key_Key.l0 k (strOfNums (rowB (l.take i))) l (l.length : Int) (i : Int) = some (strOfNums (rowB l))
  | 0, k, i, hk, hd => by
    obtain ⟨k, rfl⟩ : ∃ m, k = m + 1 := ⟨k - 1, by omega⟩
    simp only [api_Value__key_Key.l0]
    rw [if_neg (by omega), List.take_of_length_le (by omega)]
  | d + 1, k, i, hk, hd => by
    obtain ⟨k, rfl⟩ : ∃ m, k = m + 1 := ⟨k - 1, by omega⟩
    have hi : i < l.length := by omega
    have hm := hl _ (List.getElem_mem hi)
    have e1 := rowB_len (l := l.take i) fun v hv => hl v (List.mem_of_mem_take hv)
    have e2 := keyS_len hm
    have e3 : (l.take i).length ≤ 10 := by rw [List.length_take]; omega
    simp only [api_Value__key_Key.l0]
    rw [if_pos (by omega), if_pos (by omega), if_pos (by omega), rd24 l i hi, keyS_eq hm k (by omega), Option.bind_some, if_pos (by rw [son_size, son_size]; omega), son_append, ← rowB_snoc, wrap64_of (by omega) (by omega), show (i : Int) + 1 = ((i + 1 : Nat) : Int) by omega,
      show l.take i ++ [l[i]] = l.take (i + 1) by rw [List.take_add_one, List.getElem?_eq_getElem hi]; rfl]
    exact keys_l0 l hl hn d k (i + 1) (by omega) (by omega)
theorem key_Row_eq (l : List S24) (hl : ∀ v ∈ l, MadeS v) (hn : l.length ≤ 10) (k : Nat) (hk : 40 < k) : key_Row.f k l = some (strOfNums (rowL l)) := by
  have h := keys_l0 l hl hn l.length k 0 (by omega) (by omega)
  have e1 := rowB_len hl
  unfold key_Row.f api_Value__key_Key.f
  have h0 : (⟨#[]⟩ : ByteArray) = strOfNums (rowB (l.take 0)) := rfl
  rw [Option.bind_some, h0, show (0 : Int) = ((0 : Nat) : Int) from rfl, h, Option.bind_some, if_pos (by rw [son_size, son_size]; simp; omega), son_append, show (l.length : Int) % 256 = (l.length : Int) by omega]
  rfl
theorem cutRow_l0 (tot : Nat) (ht : tot ≤ 10) : ∀ (l : List S24) (k i c : Nat) (acc : List S24), 12010 + l.length < k → (∀ v ∈ l, MadeS v) → i + l.length = tot → acc.length = i → c < (rowB l).length →
    key_ReadRow.l0 k acc (strOfNums ((rowB l).take c)) (tot : Int) (i : Int) = some ([], false)
  | [], k, i, c, acc, hk, hl, hi, ha, hc => by simp [rowB] at hc
  | v :: l, k, i, c, acc, hk, hl, hi, ha, hc => by
    obtain ⟨k, rfl⟩ : ∃ m, k = m + 1 := ⟨k - 1, by omega⟩
    have hv := hl v List.mem_cons_self
    have hl' : ∀ u ∈ l, MadeS u := fun u hu => hl u (List.mem_cons_of_mem _ hu)
    have e1 := rowB_len hl'
    have e2 := keyS_len hv
    rw [List.length_cons] at hi hk
    have hk2 : (keyL v.f0 v.f1 v.f2.toNat v.f3).length = (keyS v).length := rfl
    rw [rowB_cons, List.length_append] at hc
    simp only [key_ReadRow.l0]
    rw [if_pos (by omega), rowB_cons]
    by_cases h : c < (keyS v).length
    · have hr := ReadKey_cut hv.m c h k (by omega)
      rw [List.take_append_of_le_length (by omega)]
      have : strOfNums ((keyS v).take c) = strOfNums ((keyL v.f0 v.f1 v.f2.toNat v.f3).take c) := rfl
      rw [this, hr, Option.bind_some]
      dsimp only
      rw [if_neg (by decide)]
    · obtain ⟨j, rfl⟩ : ∃ j, c = (keyS v).length + j := ⟨c - (keyS v).length, by omega⟩
      rw [List.take_length_add_append]
      have hB : isB ((rowB l).take j) := isB_take (rowB_isB hl') j
      have hjl : ((rowB l).take j).length = j := by rw [List.length_take]; omega
      have hr := ReadKey_eq hv.m ((rowB l).take j) hB (by omega) k (by omega)
      have hz := son_size (keyL v.f0 v.f1 v.f2.toNat v.f3 ++ (rowB l).take j)
      rw [List.length_append] at hz
      have : strOfNums (keyS v ++ (rowB l).take j) = strOfNums (keyL v.f0 v.f1 v.f2.toNat v.f3 ++ (rowB l).take j) := rfl
      rw [this, hr, Option.bind_some]
      dsimp only
      rw [if_pos rfl, if_pos (by omega), if_pos (by omega), if_pos (by omega), Int.toNat_natCast, son_drop, List.drop_append_of_le_length (Nat.le_refl _), List.drop_length, List.nil_append, wrap64_of (by omega) (by omega), show (i : Int) + 1 = ((i + 1 : Nat) : Int) by omega]
      exact cutRow_l0 tot ht l k (i + 1) j _ (by omega) hl' (by omega) (by simp [ha]) (by omega)
theorem ReadRow_cut (l : List S24) (hl : ∀ v ∈ l, MadeS v) (hn : l.length ≤ 10) (c : Nat) (hc : c < (rowL l).length) (k : Nat) (hk : 12030 < k) :
    key_ReadRow.f k (strOfNums ((rowL l).take c)) = some ([], false) := by
  obtain ⟨k, rfl⟩ : ∃ m, k = m + 1 := ⟨k - 1, by omega⟩
  have hB : isB ((rowL l).take c) := isB_take (isB_cons (by omega) (rowB_isB hl)) c
  have hz := son_size ((rowL l).take c)
  have hcl : ((rowL l).take c).length = c := by rw [List.length_take]; omega
  have hL : (rowL l).length = (rowB l).length + 1 := rfl
  unfold key_ReadRow.f
  cases c with
  | zero =>
    rw [if_pos (by rw [son_nil]; rfl)]
    simp only [key_ReadRow.j0]
    rw [if_pos trivial]
  | succ c =>
    have b0 := bt_son hB 0 (by omega)
    have e0 : ((rowL l).take (c + 1))[0]'(by omega) = (l.length : Int) := rfl
    have hd : ((rowL l).take (c + 1)).drop 1 = (rowB l).take c := rfl
    rw [e0, show ((0 : Nat) : Int) = 0 from rfl] at b0
    rw [if_neg (by rw [son_nil]; intro h; rw [h, List.length_nil] at hcl; omega), if_pos (by omega), b0, wrap64_of (by omega) (by omega), decide_eq_false (by omega)]
    simp only [key_ReadRow.j0]
    rw [if_neg (by decide), if_pos (by omega), if_pos (by omega), b0, wrap64_of (by omega) (by omega), son_drop, hd]
    exact cutRow_l0 l.length hn l k 0 c [] (by omega) hl (by omega) rfl (by omega)
theorem lawRow_l0 (ns : List Int) (st : ByteArray) (hs : st.size ≤ 100) (hns : ∀ x ∈ ns, I64 x) (hlen : ns.length ≤ 140737488351232) : ∀ (d i : Nat) (acc : List S24), i + d = min ns.length 10 → acc.length = i → (∀ v ∈ acc, MadeS v) →
    ∃ l : List S24, (∀ k, 100 + 2 * d < k → federationlaw2_Row.l0 k ns st acc (i : Int) = some l) ∧ l.length ≤ 10 ∧ ∀ v ∈ l, MadeS v
  | 0, i, acc, hd, ha, hm => by
    refine ⟨acc, fun k hk => ?_, by omega, hm⟩
    obtain ⟨k, rfl⟩ : ∃ m, k = m + 2 := ⟨k - 2, by omega⟩
    simp only [federationlaw2_Row.l0]
    by_cases h : i < ns.length
    · rw [if_pos (by omega), decide_eq_false (by omega)]
      simp only [federationlaw2_Row.j1]
      rw [if_neg (by decide)]
    · rw [if_neg (by omega)]
      simp only [federationlaw2_Row.j1]
      rw [if_neg (by decide)]
  | d + 1, i, acc, hd, ha, hm => by
    have hi : i < ns.length := by omega
    have hx := hns _ (List.getElem_mem hi)
    have hr : rd ns (i : Int) = ns[i] := by
      unfold rd
      rw [Int.toNat_natCast, List.getD_eq_getElem?_getD, List.getElem?_eq_getElem hi]; rfl
    have b1 := emod_bd (ns[i]) 1099511627776 (by decide)
    have w1 := within2_eq (ns[i]) 1099511627776 hx (by decide) (by decide)
    have b2 := emod_bd (ns[i] % 1099511627776) ((st.size : Int) + 1) (by omega)
    have w2 := within2_eq (ns[i] % 1099511627776) ((st.size : Int) + 1) (by unfold I64; omega) (by omega) (by omega)
    have i2 := I64_tdiv (ns[i] % 1099511627776) 300 (by unfold I64; omega) (by decide)
    have ht : (ns[i] % 1099511627776).tdiv 300 = ns[i] % 1099511627776 / 300 := Int.tdiv_eq_ediv_of_nonneg b1.1
    have hx2 : I64 (ns[i] % 1099511627776 / 300 - 5000) := by unfold I64; omega
    obtain ⟨n1, s1, t1, hm1, m1⟩ := Make_eq (ns[i] % 1099511627776) (ns[i] % 1099511627776 / 300 - 5000) (st.extract 0 (ns[i] % 1099511627776 % ((st.size : Int) + 1)).toNat) (by unfold I64; omega) hx2 (by
      have := extract_size st (ns[i] % 1099511627776 % ((st.size : Int) + 1)).toNat
      have hz : (st.extract 0 (ns[i] % 1099511627776 % ((st.size : Int) + 1)).toNat).size = (st.extract 0 (ns[i] % 1099511627776 % ((st.size : Int) + 1)).toNat).data.size := rfl
      omega)
    obtain ⟨l, hl1, hl2, hl3⟩ := lawRow_l0 ns st hs hns hlen d (i + 1) (acc ++ [(⟨ns[i] % 1099511627776 % 6, n1, ((s1 : Nat) : Int), t1⟩ : S24)]) (by omega) (by simp [ha]) (by
      intro v hv
      rcases List.mem_append.1 hv with hv | hv
      · exact hm v hv
      · rw [List.mem_singleton.1 hv]
        exact ⟨by simp, by simpa using m1⟩)
    refine ⟨l, fun k hk => ?_, hl2, hl3⟩
    obtain ⟨k, rfl⟩ : ∃ m, k = m + 2 := ⟨k - 2, by omega⟩
    simp only [federationlaw2_Row.l0]
    rw [if_pos (by omega), decide_eq_true (by omega)]
    simp only [federationlaw2_Row.j1]
    rw [if_pos trivial, if_pos (by omega), if_pos (by omega), hr, w1, Option.bind_some, wrap64_of (x := (st.size : Int) + 1) (by omega) (by omega), w2, Option.bind_some, if_pos (by omega), if_pos (by omega), i2.2, ht, wrap64_of (by omega) (by omega), hm1 k (by omega), Option.bind_some]
    dsimp only
    rw [if_pos (by omega), wrap64_of (by omega) (by omega), show (i : Int) + 1 = ((i + 1 : Nat) : Int) by omega]
    exact hl1 k (by omega)
theorem lawRow_eq (ns : List Int) (st : ByteArray) (hs : st.size ≤ 100) (hns : ∀ x ∈ ns, I64 x) (hlen : ns.length ≤ 140737488351232) :
    ∃ l : List S24, (∀ k, 130 < k → federationlaw2_Row.f k ns st = some l) ∧ l.length ≤ 10 ∧ ∀ v ∈ l, MadeS v := by
  obtain ⟨l, h1, h2, h3⟩ := lawRow_l0 ns st hs hns hlen (min ns.length 10) 0 [] (by omega) rfl (fun v hv => by cases hv)
  exact ⟨l, fun k hk => h1 k (by omega), h2, h3⟩
end Go.Proofs.Ytjacflmgbmfhcaa.K
namespace Go.Proofs.Ytjacflmgbmfhcaa.K
open Go.RowKit Go.Proofs.YtjacflmgbmfhcaaW.PrintWords Go.Proofs.YtjacflmgbmfhcaaW.PrintLast Go.Proofs.YtjacflmgbmfhcaaW.PrintMore
attribute [local go_sem] max2_int min2_int max_two min_two max_three min_three max_four min_four
attribute [local go_sem high] own_gtr own_leq own_geq own_cell_set Option.map_some fld24_3
set_option linter.unusedVariables false
set_option linter.unusedSimpArgs false
theorem I64_of {x : Int} (h : (Lit.int .i64 x).wf = true) : I64 x := by
  have h1 : IntKind.i64.min = -9223372036854775808 := by decide
  have h2 : IntKind.i64.max = 9223372036854775807 := by decide
  simp only [Lit.wf, Bool.and_eq_true, decide_eq_true_eq, h1, h2] at h
  exact h
end Go.Proofs.Ytjacflmgbmfhcaa.K
namespace Go.Proofs.Ytjacflmgbmfhcaa.Pure
open Go.RowKit Go.Proofs.Ytjacflmgbmfhcaa.K Go.Proofs.YtjacflmgbmfhcaaW.PrintWords Go.Proofs.YtjacflmgbmfhcaaW.PrintLast Go.Proofs.YtjacflmgbmfhcaaW.PrintMore
theorem KeyCut : federationlaw2_KeyCut.Pure := by
  intro a0 a1 a2 a3 l4 w0 w1 z2 w3 z4 z4' w4
  refine ⟨12040, ?_⟩
  unfold federationlaw2_KeyCut.f
  rw [known2_ge (by decide), Option.bind_some, if_pos rfl]
  by_cases y2 : (a2.size : Int) > 60
  · rw [if_pos y2]
  rw [if_neg y2]
  obtain ⟨n1, s1, t1, hm1, m1⟩ := Make_eq a0 a1 a2 (I64_of w0) (I64_of w1) (by omega)
  obtain ⟨l, hl, hn, hm⟩ := lawRow_eq l4 a2 (by omega) (fun x hx => I64_of (w4 x hx)) (by omega)
  have i3 := I64_of w3
  have hb := keyB_len m1
  have hL1 : (keyL (a0 % 6) n1 s1 t1).length = (keyB (a0 % 6) n1 s1 t1).length + 1 := rfl
  have e1 := rowB_len hm
  have hL : (rowL l).length = (rowB l).length + 1 := rfl
  have b1 := emod_bd a3 ((keyL (a0 % 6) n1 s1 t1).length : Int) (by omega)
  have b2 := emod_bd a3 ((rowL l).length : Int) (by omega)
  have c1 := ReadKey_cut m1 (a3 % ((keyL (a0 % 6) n1 s1 t1).length : Int)).toNat (by omega) 12040 (by decide)
  have c2 := ReadRow_cut l hm hn (a3 % ((rowL l).length : Int)).toNat (by omega) 12040 (by decide)
  rw [hm1 12040 (by decide), Option.bind_some]
  dsimp only
  rw [key_Key_eq m1 12040 (by decide), Option.bind_some, son_size, if_neg (by omega), within2_eq a3 _ i3 (by omega) (by omega), Option.bind_some, if_pos b1.1, if_pos (by omega), son_take, c1, Option.bind_some,
    hl 12040 (by decide), Option.bind_some, key_Row_eq l hm hn 12040 (by decide), Option.bind_some, son_size, if_neg (by omega), within2_eq a3 _ i3 (by omega) (by omega), Option.bind_some, if_pos b2.1, if_pos (by omega), son_take, c2, Option.bind_some]
  decide +kernel
end Go.Proofs.Ytjacflmgbmfhcaa.Pure
