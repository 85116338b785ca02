-- Written by drive.py and pack.py (programs of this proof's own) through the kit's printer; not trusted: Lean checks it.
import Derived.Test.YtjacflmgbmfhcaaCKeyNumbers1
import Derived.Test.YtjacflmgbmfhcaaCKeyNumbers13
import Derived.Test.YtjacflmgbmfhcaaCKeyNumbers3
import Derived.Lib.Strings
import Derived.Test.YtjacflmgbmfhcaaCKeyNumbers2
import Derived.Test.YtjacflmgbmfhcaaCKeyNumbers8
import Derived.Test.YtjacflmgbmfhcaaCKeyNumbers7
import Derived.Test.YtjacflmgbmfhcaaCKeyNumbers6
import Derived.Test.YtjacflmgbmfhcaaCKeyNumbers4
namespace Go.Proofs.Ytjacflmgbmfhcaa.D
open Go.RowKit Go.Proofs.YtjacflmgbmfhcaaW.PrintWords Go.Proofs.YtjacflmgbmfhcaaW.PrintLast Go.Proofs.YtjacflmgbmfhcaaW.PrintMore
attribute [local go_sem] max2_int min2_int max_two min_two max_three min_three max_four min_four
attribute [local go_sem high] own_gtr own_leq own_geq own_cell_set Option.map_some
set_option linter.unusedVariables false
set_option linter.unusedSimpArgs false
theorem emod_bd (a n : Int) (h0 : 0 < n) : 0 ≤ a % n ∧ a % n < n := ⟨Int.emod_nonneg a (by omega), Int.emod_lt_of_pos a h0⟩
theorem noS_empty : noS (⟨#[]⟩ : ByteArray) = true := by decide +kernel
theorem right_RD {n : Int} {s : Nat} (h : RD n s) : rightB 3 n (s : Int) (⟨#[]⟩ : ByteArray) = true := by
  unfold rightB
  rw [if_neg (by decide), if_neg (by decide), if_neg (by decide), if_pos rfl, noS_empty, Bool.and_true, decide_eq_true_eq]
  exact ⟨h.lo, h.hi, by omega, by have := h.sc; omega, by have := h.nm; omega⟩
theorem RD_red (n : Int) (s : Nat) (h0 : -1000000000000000 < n) (h1 : n < 1000000000000000) (hs : s ≤ 6) : RD (red n s).1 (red n s).2 := by
  have a := red_abs s n
  have b := red_scale s n
  have c := red_done s n
  exact ⟨by omega, by omega, by omega, c⟩
structure Made (kd n : Int) (s : Nat) (st : ByteArray) : Prop where
  r : rightB kd n (s : Int) st = true
  v : RV kd n s
  sz : st.data.size ≤ 40
  k0 : 0 ≤ kd
  k5 : kd ≤ 5
  z : kd ≠ 3 → s = 0
theorem I64_tdiv (a b : Int) (ha : I64 a) (hb : 2 ≤ b) : I64 (wrap64 (a.tdiv b)) ∧ wrap64 (a.tdiv b) = a.tdiv b := by
  have h := Int.natAbs_tdiv_le_natAbs a b
  have h2 : (a.tdiv b).natAbs ≤ 4611686018427387904 := by
    rw [Int.natAbs_tdiv]
    have h1 : a.natAbs ≤ 9223372036854775808 := by unfold I64 at ha; omega
    exact Nat.le_trans (Nat.div_le_div_left (show 2 ≤ b.natAbs by omega) (by decide)) (by have := Nat.div_le_div_right (c := 2) h1; simpa using this)
  have e : wrap64 (a.tdiv b) = a.tdiv b := wrap64_of (by omega) (by omega)
  rw [e]
  exact ⟨⟨by omega, by omega⟩, rfl⟩
end Go.Proofs.Ytjacflmgbmfhcaa.D
namespace Go.Proofs.Ytjacflmgbmfhcaa.D
open Go.RowKit Go.Proofs.YtjacflmgbmfhcaaW.PrintWords Go.Proofs.YtjacflmgbmfhcaaW.PrintLast Go.Proofs.YtjacflmgbmfhcaaW.PrintMore
attribute [local go_sem] max2_int min2_int max_two min_two max_three min_three max_four min_four
attribute [local go_sem high] own_gtr own_leq own_geq own_cell_set Option.map_some
set_option linter.unusedVariables false
set_option linter.unusedSimpArgs false
def escL (xs : List Int) : List Int := xs.flatMap escOne ++ [0, 1]
theorem escAll_eq (s : ByteArray) : escAll s = escL (byteL s) := rfl
theorem escL_nil : escL [] = [0, 1] := rfl
theorem escL_cons (x : Int) (xs : List Int) : escL (x :: xs) = escOne x ++ escL xs := by simp [escL]
theorem escL_len : ∀ xs : List Int, 2 ≤ (escL xs).length ∧ (escL xs).length ≤ 2 * xs.length + 2
  | [] => by simp [escL_nil]
  | x :: xs => by
    have := escL_len xs
    have h := escOne_len x
    rw [escL_cons, List.length_append, List.length_cons]
    omega
theorem tdm (n p : Int) (hp : 0 < p) : (n.tmod p < 0 ∧ n / p = n.tdiv p - 1 ∧ n % p = n.tmod p + p) ∨ (¬ n.tmod p < 0 ∧ n / p = n.tdiv p ∧ n % p = n.tmod p) := by
  have e1 := Int.mul_tdiv_add_tmod n p
  have e5 := Int.tmod_lt_of_pos n hp
  have e6 := Int.tmod_lt_of_pos (-n) hp
  rw [Int.neg_tmod] at e6
  by_cases c : n.tmod p < 0
  · have := (Int.ediv_emod_unique (a := n) (r := n.tmod p + p) (q := n.tdiv p - 1) hp).2 ⟨by rw [Int.mul_sub, Int.mul_one]; omega, by omega, by omega⟩
    exact Or.inl ⟨c, this.1, this.2⟩
  · have := (Int.ediv_emod_unique (a := n) (r := n.tmod p) (q := n.tdiv p) hp).2 ⟨by omega, by omega, by omega⟩
    exact Or.inr ⟨c, this.1, this.2⟩
theorem key_scaled_l0 (kd n : Int) (s : Nat) (st : ByteArray) (hs : s ≤ 6) (h0 : -1000000000000000 < n) (h1 : n < 1000000000000000) : ∀ (d k i : Nat), d < k → i + d = s → key_scaled.l0 k (p10 i) (s : Int) (i : Int) kd n (s : Int) st = some (n / p10 s, n % p10 s * p10 (6 - s))
  | 0, k, i, hk, hd => by
    obtain ⟨k, rfl⟩ : ∃ m, k = m + 1 := ⟨k - 1, by omega⟩
    obtain rfl : i = s := by omega
    have hp := p10_pos i
    have hp6 := p10_mono (m := i) (n := 6) hs
    have e6 := p10_six
    have hq := p10_six_sub i hs
    have hq0 := p10_pos (6 - i)
    have ht := tdiv_pows i hs
    rw [e6] at ht
    have hq1 := p10_mono (m := 6 - i) (n := 6) (by omega)
    have hd := ediv_small hp h0 h1
    have hm0 := Int.emod_nonneg n (show p10 i ≠ 0 by omega)
    have hm1 := Int.emod_lt_of_pos n hp
    have hmul : n % p10 i * p10 (6 - i) ≤ p10 i * p10 (6 - i) := Int.mul_le_mul_of_nonneg_right (by omega) (by omega)
    have hmul0 : 0 ≤ n % p10 i * p10 (6 - i) := Int.mul_nonneg hm0 (by omega)
    simp only [key_scaled.l0]
    rw [if_neg (by omega), if_neg (by omega), ht, wrap64_of (x := p10 (6 - i)) (by omega) (by omega)]
    rcases tdm n (p10 i) hp with ⟨c, e1, e2⟩ | ⟨c, e1, e2⟩
    · rw [if_pos c, wrap64_of (x := n.tdiv (p10 i)) (by omega) (by omega), wrap64_of (x := n.tdiv (p10 i) - 1) (by omega) (by omega), wrap64_of (x := n.tmod (p10 i) + p10 i) (by omega) (by omega), ← e1, ← e2, wrap64_of (by omega) (by omega)]
    · rw [if_neg c, wrap64_of (x := n.tdiv (p10 i)) (by omega) (by omega), ← e1, ← e2, wrap64_of (by omega) (by omega)]
  | d + 1, k, i, hk, hd => by
    obtain ⟨k, rfl⟩ : ∃ m, k = m + 1 := ⟨k - 1, by omega⟩
    have hp := p10_le (i + 1) (by omega)
    have hp0 := p10_pos (i + 1)
    simp only [key_scaled.l0]
    rw [if_pos (by omega), ← p10_succ, wrap64_of (by omega) (by omega), wrap64_of (by omega) (by omega), show (i : Int) + 1 = ((i + 1 : Nat) : Int) by omega]
    exact key_scaled_l0 kd n s st hs h0 h1 d k (i + 1) (by omega) (by omega)
theorem key_scaled_eq (k : Nat) (kd n : Int) (s : Nat) (st : ByteArray) (hk : 6 < k) (h : RD n s) : key_scaled.f k kd n (s : Int) st = some (n / p10 s, n % p10 s * p10 (6 - s)) := by
  have hs := h.sc
  exact key_scaled_l0 kd n s st hs h.lo h.hi s k 0 (by omega) (by omega)
def keyB (kd n : Int) (s : Nat) (st : ByteArray) : List Int :=
  if kd = 1 then [n] else if kd = 2 then be (n + 9223372036854775808) 8
  else if kd = 3 then be (n / p10 s + 9223372036854775808) 8 ++ be (n % p10 s * p10 (6 - s)) 4
  else if kd = 4 ∨ kd = 5 then escL (byteL st) else []
def keyL (kd n : Int) (s : Nat) (st : ByteArray) : List Int := kd :: keyB kd n s st
theorem right_bool {n sc : Int} {st : ByteArray} (h : rightB 1 n sc st = true) : 0 ≤ n ∧ n ≤ 1 := by
  unfold rightB at h
  rw [if_neg (by decide), if_pos rfl] at h
  simp only [Bool.and_eq_true, decide_eq_true_eq] at h
  exact h.1
theorem key_Key_eq {kd n : Int} {s : Nat} {st : ByteArray} (m : Made kd n s st) (k : Nat) (hk : 20 < k) : key_Key.f k kd n (s : Int) st = some (strOfNums (keyL kd n s st)) := by
  have hz : st.size = st.data.size := rfl
  have hsz := m.sz
  have he := escL_len (byteL st)
  rw [byteL_len] at he
  have k0 := m.k0
  have k5 := m.k5
  have hm : kd % 256 = kd := by omega
  unfold key_Key.f keyL keyB
  by_cases h4 : kd = 4
  · subst h4
    rw [if_pos rfl, if_pos (by omega), escAll_eq, if_pos (by omega), if_neg (by decide), if_neg (by decide), if_neg (by decide), if_pos (Or.inl rfl)]
  rw [if_neg h4]
  by_cases h5 : kd = 5
  · subst h5
    rw [if_pos rfl, if_pos (by omega), escAll_eq, if_pos (by omega), if_neg (by decide), if_neg (by decide), if_neg (by decide), if_pos (Or.inr rfl)]
  rw [if_neg h5]
  unfold key_Key_p.f
  rw [Option.bind_some, hm]
  by_cases h1 : kd = 1
  · subst h1
    have := right_bool m.r
    rw [if_pos rfl, if_pos rfl, if_pos (by simp), show n % 256 = n by omega]; rfl
  rw [if_neg h1, if_neg h1]
  by_cases h2 : kd = 2
  · rw [if_pos h2, if_pos h2, key_signed_eq k n (by omega), Option.bind_some, if_pos (by rw [be_len]; simp)]; rfl
  rw [if_neg h2, if_neg h2]
  by_cases h3 : kd = 3
  · have hd := m.v.d h3
    have hs := hd.sc
    obtain ⟨k, rfl⟩ : ∃ j, k = j + 1 := ⟨k - 1, by omega⟩
    rw [if_pos h3, if_pos h3, if_neg (by omega), decide_eq_false (by omega)]
    simp only [key_Key_p.j0]
    have e4 := key_number_eq (n % p10 s * p10 (6 - s)) 4 k (by omega) (by decide) (by decide)
    rw [if_neg (by decide), key_scaled_eq k kd n s st (by omega) hd, Option.bind_some]
    dsimp only
    rw [key_signed_eq k _ (by omega), Option.bind_some, if_pos (by rw [be_len]; simp), Option.bind_some, show (4 : Int) = ((4 : Nat) : Int) from rfl, e4, Option.bind_some, if_pos (by simp [be_len]), List.append_assoc]
    rfl
  · rw [if_neg h3, if_neg h3, if_neg h4, if_neg h5, if_neg (by omega)]
end Go.Proofs.Ytjacflmgbmfhcaa.D
namespace Go.Proofs.Ytjacflmgbmfhcaa.D
open Go.RowKit Go.Proofs.YtjacflmgbmfhcaaW.PrintWords Go.Proofs.YtjacflmgbmfhcaaW.PrintLast Go.Proofs.YtjacflmgbmfhcaaW.PrintMore
attribute [local go_sem] max2_int min2_int max_two min_two max_three min_three max_four min_four
attribute [local go_sem high] own_gtr own_leq own_geq own_cell_set Option.map_some
set_option linter.unusedVariables false
set_option linter.unusedSimpArgs false
theorem bits_u8_top (b : Int) (h0 : 0 ≤ b) (h1 : b < 256) : Go.bits .xor .u8 b 128 = (b + 128) % 256 := by
  have key : ∀ i : Fin 256, Go.bits .xor .u8 ((i.val : Nat) : Int) 128 = (((i.val : Nat) : Int) + 128) % 256 := by decide +kernel
  have := key ⟨b.toNat, by omega⟩
  rwa [show ((b.toNat : Nat) : Int) = b by omega] at this
theorem be_snoc (n : Int) : ∀ (j d : Nat), be n (j + d + 1) = (be n (j + d + 1)).take j ++ be n (d + 1)
  | 0, d => by simp
  | j + 1, d => by
    have := be_snoc n j d
    rw [show j + 1 + d + 1 = (j + d + 1) + 1 by omega, be, List.take_succ_cons, List.cons_append, ← this]
theorem ref_num_l0 (n : Int) : ∀ (d k i : Nat), d < k → i + d = 8 → federationref2_num.l0 k n ((be n 8).take i) (i : Int) = some (strOfNums (be (n + 9223372036854775808) 8))
  | 0, k, i, hk, hd => by
    obtain ⟨k, rfl⟩ : ∃ m, k = m + 1 := ⟨k - 1, by omega⟩
    obtain rfl : i = 8 := by omega
    simp only [federationref2_num.l0]
    rw [if_neg (by omega), List.take_of_length_le (by rw [be_len]; decide), be_len, if_pos (by decide)]
    have e1 : be n 8 = (n / p256 7) % 256 :: be n 7 := rfl
    have e2 : be (n + 9223372036854775808) 8 = ((n + 9223372036854775808) / p256 7) % 256 :: be (n + 9223372036854775808) 7 := rfl
    have e3 : be (n + 9223372036854775808) 7 = be n 7 := by
      have := be_add n 128 7 0
      rw [show (128 : Int) * (p256 7 * p256 0) = 9223372036854775808 by decide] at this
      exact this
    have p7 : p256 7 = 72057594037927936 := by decide
    have hx := bits_u8_top (n / p256 7 % 256) (Int.emod_nonneg _ (by decide)) (Int.emod_lt_of_pos _ (by decide))
    rw [e1, e2, e3]
    have : rd (n / p256 7 % 256 :: be n 7) 0 = n / p256 7 % 256 := rfl
    rw [this, hx]
    congr 2
    show _ :: _ = _
    congr 1
    rw [p7]
    omega
  | d + 1, k, i, hk, hd => by
    obtain ⟨k, rfl⟩ : ∃ m, k = m + 1 := ⟨k - 1, by omega⟩
    have hl : ((be n 8).take i).length = i := by rw [List.length_take, be_len]; omega
    have w1 : wrap64 (8 * (i : Int)) = 8 * (i : Int) := wrap64_of (by omega) (by omega)
    have w2 : wrap64 (56 - 8 * (i : Int)) = ((8 * d : Nat) : Int) := by rw [wrap64_of (by omega) (by omega)]; omega
    have w3 : IntKind.u64.wrap ((8 * d : Nat) : Int) = ((8 * d : Nat) : Int) := by
      rw [IntKind.wrap_u64]; omega
    simp only [federationref2_num.l0]
    rw [if_pos (by omega), w1, w2, w3, if_pos (by omega), if_pos (by omega), shr8 n d (by omega), wrap64_of (by omega) (by omega), show (i : Int) + 1 = ((i + 1 : Nat) : Int) by omega]
    have ih := ref_num_l0 n d k (i + 1) (by omega) (by omega)
    have hs := be_snoc n i d
    rw [show i + d + 1 = 8 by omega] at hs
    have : (be n 8).take (i + 1) = (be n 8).take i ++ [n / p256 d % 256] := by
      conv => lhs; rw [hs]
      have h2 : be n (d + 1) = n / p256 d % 256 :: be n d := rfl
      rw [h2, show i + 1 = ((be n 8).take i).length + 1 by omega, List.take_length_add_append]
      rfl
    rw [← this]
    exact ih
theorem ref_num_eq (n : Int) (k : Nat) (hk : 8 < k) : federationref2_num.f k n = some (strOfNums (be (n + 9223372036854775808) 8)) := ref_num_l0 n 8 k 0 hk (by decide)
theorem ref_text_l0 (L : List Int) (hL : isB L) (hlen : L.length ≤ 100000) : ∀ (d k i : Nat) (acc : List Int), d < k → i + d = L.length → acc.length + 2 * d ≤ 1000000 → federationref2_text.l0 k (strOfNums L) acc (i : Int) = some (strOfNums (acc ++ escL (L.drop i)))
  | 0, k, i, acc, hk, hd, ha => by
    obtain ⟨k, rfl⟩ : ∃ m, k = m + 1 := ⟨k - 1, by omega⟩
    have hz := son_size L
    simp only [federationref2_text.l0]
    rw [if_neg (by omega), Option.bind_some, if_pos (by simp; omega), List.drop_of_length_le (by omega)]
    rfl
  | d + 1, k, i, acc, hk, hd, ha => by
    obtain ⟨k, rfl⟩ : ∃ m, k = m + 1 := ⟨k - 1, by omega⟩
    have hz := son_size L
    have hi : i < L.length := by omega
    simp only [federationref2_text.l0]
    rw [if_pos (by omega), if_pos (by omega), if_pos (by omega), bt_son hL i hi, Option.bind_some, List.drop_eq_getElem_cons hi, escL_cons, wrap64_of (by omega) (by omega), show (i : Int) + 1 = ((i + 1 : Nat) : Int) by omega]
    unfold escOne
    by_cases h : L[i] = 0
    · rw [if_pos h, if_pos (by simp; omega), if_pos h, h, ref_text_l0 L hL hlen d k (i + 1) _ (by omega) (by omega) (by simp; omega)]
      simp
    · rw [if_neg h, if_neg h, ref_text_l0 L hL hlen d k (i + 1) _ (by omega) (by omega) (by simp; omega)]
      simp
theorem ref_text_eq (st : ByteArray) (k : Nat) (hs : st.size ≤ 40) (hk : 40 < k) : federationref2_text.f k st = some (strOfNums (escL (byteL st))) := by
  have hl := byteL_len st
  have := ref_text_l0 (byteL st) (byteL_isB st) (by omega) (byteL st).length k 0 [] (by omega) (by omega) (by simp; omega)
  rw [son_byteL] at this
  unfold federationref2_text.f
  exact this
theorem quads (f : Int) (h0 : 0 ≤ f) (h1 : f < 4294967296) : [(f / 16777216) % 256, (f / 65536) % 256, (f / 256) % 256, f % 256] = be f 4 := by
  have p3 : p256 3 = 16777216 := by decide
  have p2 : p256 2 = 65536 := by decide
  have p1 : p256 1 = 256 := by decide
  show _ = [(f / p256 3) % 256, (f / p256 2) % 256, (f / p256 1) % 256, (f / p256 0) % 256]
  rw [p3, p2, p1, p256_zero, Int.ediv_one]
theorem ref_Key_eq {kd n : Int} {s : Nat} {st : ByteArray} (m : Made kd n s st) (k : Nat) (hk : 50 < k) : federationref2_Key.f k kd n (s : Int) st = some (strOfNums (keyL kd n s st)) := by
  have hz : st.size = st.data.size := rfl
  have hsz := m.sz
  have k0 := m.k0
  have k5 := m.k5
  have hm : kd % 256 = kd := by omega
  have he := escL_len (byteL st)
  rw [byteL_len] at he
  unfold federationref2_Key.f keyL keyB
  rw [Option.bind_some, hm]
  by_cases h1 : kd = 1
  · subst h1
    have := right_bool m.r
    rw [if_pos rfl, if_pos rfl, Option.bind_some, if_pos (by rw [son_size, son_size]; simp), show n % 256 = n by omega, son_append]; rfl
  rw [if_neg h1, if_neg h1]
  by_cases h2 : kd = 2
  · rw [if_pos h2, if_pos h2, ref_num_eq n k (by omega), Option.bind_some, if_pos (by rw [son_size, son_size, be_len]; simp), son_append]; rfl
  rw [if_neg h2, if_neg h2]
  by_cases h3 : kd = 3
  · have d := m.v.d h3
    have hs := d.sc
    have hp := p10_pos s
    have hq := p10_six_sub s hs
    have hq0 := p10_pos (6 - s)
    have hm0 := Int.emod_nonneg n (show p10 s ≠ 0 by omega)
    have hm1 := Int.emod_lt_of_pos n hp
    have hmul : n % p10 s * p10 (6 - s) ≤ (p10 s - 1) * p10 (6 - s) := Int.mul_le_mul_of_nonneg_right (by omega) (by omega)
    rw [Int.sub_mul, Int.one_mul] at hmul
    have hmul0 : 0 ≤ n % p10 s * p10 (6 - s) := Int.mul_nonneg hm0 (by omega)
    rw [if_pos h3, if_pos h3, ref_Parts_eq k kd n s st (by omega) hs d.lo d.hi, Option.bind_some]
    dsimp only
    rw [ref_num_eq _ k (by omega), Option.bind_some, if_pos (by rw [son_size, son_size, be_len]; simp), Option.bind_some, quads _ hmul0 (by omega), son_append, if_pos (by rw [son_size, son_size, be_len, List.length_append, be_len]; simp), son_append, List.append_assoc]; rfl
  rw [if_neg h3, if_neg h3]
  have ht := ref_text_eq st k (by omega) (by omega)
  by_cases h4 : kd = 4
  · rw [if_pos h4, if_pos (Or.inl h4), ht, Option.bind_some, if_pos (by rw [son_size, son_size]; simp; omega), son_append]; rfl
  rw [if_neg h4]
  by_cases h5 : kd = 5
  · rw [if_pos h5, if_pos (Or.inr h5), ht, Option.bind_some, if_pos (by rw [son_size, son_size]; simp; omega), son_append]; rfl
  · rw [if_neg h5, if_neg (by omega)]
end Go.Proofs.Ytjacflmgbmfhcaa.D
namespace Go.Proofs.Ytjacflmgbmfhcaa.D
open Go.RowKit Go.Proofs.YtjacflmgbmfhcaaW.PrintWords Go.Proofs.YtjacflmgbmfhcaaW.PrintLast Go.Proofs.YtjacflmgbmfhcaaW.PrintMore
attribute [local go_sem] max2_int min2_int max_two min_two max_three min_three max_four min_four
attribute [local go_sem high] own_gtr own_leq own_geq own_cell_set Option.map_some
set_option linter.unusedVariables false
set_option linter.unusedSimpArgs false
theorem known2_three : federationlaw2_known.f 300 = some true := by decide +kernel
theorem known2_ge {k : Nat} (h : 300 ≤ k) : federationlaw2_known.f k = some true := at_rounds federationlaw2_known.mono h known2_three
theorem within2_eq (a n : Int) (ha : I64 a) (h0 : 0 < n) (h1 : n ≤ 4611686018427387904) : federationlaw2_within.f a n = some (a % n) := by
  unfold federationlaw2_within.f I64 at *
  rw [if_neg (by omega)]
  have e3 := Int.emod_lt_of_pos a h0
  have e4 := Int.emod_nonneg a (show n ≠ 0 by omega)
  rcases tdm a n h0 with ⟨c, e1, e2⟩ | ⟨c, e1, e2⟩
  · rw [if_pos c, wrap64_of (by omega) (by omega), e2]
  · rw [if_neg c, e2]
theorem made_dec {n : Int} {s : Nat} (h : RD n s) : Made 3 n s (⟨#[]⟩ : ByteArray) where
  r := right_RD h
  v := ⟨by have := h.lo; have := h.hi; unfold I64; omega, fun _ => h⟩
  sz := by decide
  k0 := by decide
  k5 := by decide
  z := fun e => absurd rfl e
end Go.Proofs.Ytjacflmgbmfhcaa.D
namespace Go.Proofs.Ytjacflmgbmfhcaa.D
open Go.RowKit Go.Proofs.YtjacflmgbmfhcaaW.PrintWords Go.Proofs.YtjacflmgbmfhcaaW.PrintLast Go.Proofs.YtjacflmgbmfhcaaW.PrintMore
attribute [local go_sem] max2_int min2_int max_two min_two max_three min_three max_four min_four
attribute [local go_sem high] own_gtr own_leq own_geq own_cell_set Option.map_some
set_option linter.unusedVariables false
set_option linter.unusedSimpArgs false
theorem I64_of {x : Int} (h : (Lit.int .i64 x).wf = true) : I64 x := by
  have h1 : IntKind.i64.min = -9223372036854775808 := by decide
  have h2 : IntKind.i64.max = 9223372036854775807 := by decide
  simp only [Lit.wf, Bool.and_eq_true, decide_eq_true_eq, h1, h2] at h
  exact h
end Go.Proofs.Ytjacflmgbmfhcaa.D
namespace Go.Proofs.Ytjacflmgbmfhcaa.Pure
open Go.RowKit Go.Proofs.Ytjacflmgbmfhcaa.D Go.Proofs.YtjacflmgbmfhcaaW.PrintWords Go.Proofs.YtjacflmgbmfhcaaW.PrintLast Go.Proofs.YtjacflmgbmfhcaaW.PrintMore
theorem decRes_RD {n : Int} {s : Nat} (h : RD n s) : decRes (n * p10 (6 - s)) 6 = (3, n, (s : Int), (⟨#[]⟩ : ByteArray), 0) := by
  have hs := h.sc
  have hp := red_tens n (6 - s) s
  rw [show s + (6 - s) = 6 by omega, red_same n s h.nm] at hp
  unfold decRes
  rw [hp, if_pos ⟨h.lo, h.hi, h.sc⟩]
theorem KeyNumbers : federationlaw2_KeyNumbers.Pure := by
  intro a0 a1 a2 w0 w1 w2
  refine ⟨500, ?_⟩
  have i0 := I64_of w0; have i1 := I64_of w1; have i2 := I64_of w2
  have b0 := emod_bd a0 200000 (by decide)
  have b1 := emod_bd a1 200000 (by decide)
  have b2 := emod_bd a2 5 (by decide)
  have t2 := I64_tdiv a2 5 i2 (by decide)
  have b4 := emod_bd (wrap64 (a2.tdiv 5)) 5 (by decide)
  unfold federationlaw2_KeyNumbers.f
  rw [known2_ge (by decide), Option.bind_some, if_pos rfl, within2_eq a0 200000 i0 (by decide) (by decide), Option.bind_some, within2_eq a2 5 i2 (by decide) (by decide), Option.bind_some]
  obtain ⟨s, hs⟩ : ∃ s : Nat, a2 % 5 = (s : Int) := ⟨(a2 % 5).toNat, by omega⟩
  obtain ⟨t, ht⟩ : ∃ t : Nat, wrap64 (a2.tdiv 5) % 5 = (t : Int) := ⟨(wrap64 (a2.tdiv 5) % 5).toNat, by omega⟩
  have hX := RD_red (a0 % 200000 - 100000) s (by omega) (by omega) (by omega)
  have hY := RD_red (a1 % 200000 - 100000) t (by omega) (by omega) (by omega)
  have vX := red_value s (a0 % 200000 - 100000)
  have vY := red_value t (a1 % 200000 - 100000)
  have sX := red_scale s (a0 % 200000 - 100000)
  have sY := red_scale t (a1 % 200000 - 100000)
  rw [hs, wrap64_of (x := a0 % 200000 - 100000) (by omega) (by omega), ref_Norm_eq 500 s _ _ (by omega) (by omega) (by omega) (by omega), Option.bind_some]
  dsimp only
  rw [within2_eq a1 200000 i1 (by decide) (by decide), Option.bind_some, within2_eq _ 5 t2.1 (by decide) (by decide), Option.bind_some, ht, wrap64_of (x := a1 % 200000 - 100000) (by omega) (by omega), ref_Norm_eq 500 t _ _ (by omega) (by omega) (by omega) (by omega), Option.bind_some]
  dsimp only
  have aX := red_abs s (a0 % 200000 - 100000)
  have aY := red_abs t (a1 % 200000 - 100000)
  generalize (red (a0 % 200000 - 100000) s).1 = n1 at *
  generalize (red (a0 % 200000 - 100000) s).2 = s1 at *
  generalize (red (a1 % 200000 - 100000) t).1 = n2 at *
  generalize (red (a1 % 200000 - 100000) t).2 = s2 at *
  have mX := made_dec hX
  have mY := made_dec hY
  have micb : ∀ (n : Int) (s : Nat), s ≤ 6 → n.natAbs ≤ 100000 → -100000000000 ≤ n * p10 (6 - s) ∧ n * p10 (6 - s) ≤ 100000000000 := fun n s hs hn => by
    have hp := p10_pos (6 - s)
    have hp6 := p10_mono (m := 6 - s) (n := 6) (by omega)
    have e6 := p10_six
    have c1 : n * p10 (6 - s) ≤ 100000 * p10 (6 - s) := Int.mul_le_mul_of_nonneg_right (by omega) (by omega)
    have c2 : -100000 * p10 (6 - s) ≤ n * p10 (6 - s) := Int.mul_le_mul_of_nonneg_right (by omega) (by omega)
    omega
  have cX := micb n1 s1 hX.sc (by omega)
  have cY := micb n2 s2 hY.sc (by omega)
  have r1 : reckB 7 3 n1 s1 3 n2 s2 = decRes (n1 * p10 (6 - s1) + n2 * p10 (6 - s2)) 6 := by
    unfold reckB reckRes decsRes
    rw [if_neg (by decide), if_pos ⟨by decide, by decide, by decide⟩, if_neg (by decide), if_pos rfl, if_neg (by decide), if_neg (by decide)]
    show decRes (_ + 1 * _) 6 = _
    rw [Int.one_mul]
  have hS : -1000000000000000 < (red (n1 * p10 (6 - s1) + n2 * p10 (6 - s2)) 6).1 ∧ (red (n1 * p10 (6 - s1) + n2 * p10 (6 - s2)) 6).1 < 1000000000000000 := by
    have := red_abs 6 (n1 * p10 (6 - s1) + n2 * p10 (6 - s2))
    omega
  have hRS := RD_red (n1 * p10 (6 - s1) + n2 * p10 (6 - s2)) 6 (by omega) (by omega) (by decide)
  have vS := red_value 6 (n1 * p10 (6 - s1) + n2 * p10 (6 - s2))
  have eS : decRes (n1 * p10 (6 - s1) + n2 * p10 (6 - s2)) 6 = (3, (red (n1 * p10 (6 - s1) + n2 * p10 (6 - s2)) 6).1, ((red (n1 * p10 (6 - s1) + n2 * p10 (6 - s2)) 6).2 : Int), (⟨#[]⟩ : ByteArray), 0) := by
    unfold decRes
    rw [if_pos ⟨hS.1, hS.2, red_scale 6 _⟩]
  rw [ref_Reckon_eq 500 7 3 n1 s1 _ 3 n2 s2 _ (by decide) mX.v mY.v, Option.bind_some, r1, eS]
  dsimp only
  generalize (red (n1 * p10 (6 - s1) + n2 * p10 (6 - s2)) 6).1 = n3 at *
  generalize (red (n1 * p10 (6 - s1) + n2 * p10 (6 - s2)) 6).2 = s3 at *
  have mS := made_dec hRS
  have r2 : reckB 8 3 n3 s3 3 n2 s2 = (3, n1, (s1 : Int), (⟨#[]⟩ : ByteArray), 0) := by
    unfold reckB reckRes decsRes
    rw [if_neg (by decide), if_pos ⟨by decide, by decide, by decide⟩, if_neg (by decide), if_pos rfl, if_neg (by decide), if_neg (by decide), vS]
    rw [show sgn 8 = -1 from rfl, show n1 * p10 (6 - s1) + n2 * p10 (6 - s2) + -1 * (n2 * p10 (6 - s2)) = n1 * p10 (6 - s1) by omega]
    exact decRes_RD hX
  rw [ref_Reckon_eq 500 8 3 n3 s3 _ 3 n2 s2 _ (by decide) mS.v mY.v, Option.bind_some, r2]
  dsimp only
  rw [if_pos rfl, if_pos rfl, key_Key_eq mX 500 (by decide), Option.bind_some, Option.bind_some, if_pos rfl, Option.bind_some, ref_Key_eq mX 500 (by decide), Option.bind_some]
  simp
end Go.Proofs.Ytjacflmgbmfhcaa.Pure
