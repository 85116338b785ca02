-- Written by drive.py and pack.py (programs of this proof's own) through the kit's printer; not trusted: Lean checks it.
import Derived.Test.YtjacflmgbmfhcaaCKeyRowOrder1
import Derived.Test.YtjacflmgbmfhcaaCKeyRowOrder3
import Derived.Test.YtjacflmgbmfhcaaCKeyRowOrder5
import Derived.Test.YtjacflmgbmfhcaaCKeyRowOrder4
import Derived.Test.YtjacflmgbmfhcaaCKeyRowOrder2
import Derived.Lib.Strings
import Derived.Test.YtjacflmgbmfhcaaCKeyRowOrder9
import Derived.Test.YtjacflmgbmfhcaaCKeyRowOrder8
import Derived.Test.YtjacflmgbmfhcaaCKeyRowOrder7
import Derived.Test.YtjacflmgbmfhcaaCKeyRowOrder6
import Derived.Test.YtjacflmgbmfhcaaCKeyRowOrder10
namespace Go.Proofs.Ytjacflmgbmfhcaa.K
open Go.RowKit Go.Proofs.YtjacflmgbmfhcaaW.PrintWords Go.Proofs.YtjacflmgbmfhcaaW.PrintLast Go.Proofs.YtjacflmgbmfhcaaW.PrintMore
attribute [local go_sem] max2_int min2_int max_two min_two max_three min_three max_four min_four
attribute [local go_sem high] own_gtr own_leq own_geq own_cell_set Option.map_some fld24_3
set_option linter.unusedVariables false
set_option linter.unusedSimpArgs false
def p256 (n : Nat) : Int := (256 : Int) ^ n
theorem p256_pos (n : Nat) : 0 < p256 n := Int.pow_pos (by decide)
theorem p256_zero : p256 0 = 1 := rfl
theorem p256_succ (n : Nat) : p256 (n + 1) = p256 n * 256 := by unfold p256; rw [Int.pow_succ]
def be (n : Int) : Nat → List Int
  | 0 => []
  | k + 1 => (n / p256 k) % 256 :: be n k
theorem be_len (n : Int) : ∀ k, (be n k).length = k
  | 0 => rfl
  | k + 1 => by simp [be, be_len n k]
def isB (l : List Int) : Prop := ∀ x ∈ l, 0 ≤ x ∧ x < 256
theorem isB_nil : isB [] := fun _ h => by cases h
theorem isB_cons {x : Int} {l : List Int} (h : 0 ≤ x ∧ x < 256) (hl : isB l) : isB (x :: l) := by
  intro y hy
  rcases List.mem_cons.1 hy with rfl | hy
  · exact h
  · exact hl _ hy
theorem isB_tail {x : Int} {l : List Int} (h : isB (x :: l)) : isB l := fun y hy => h y (List.mem_cons_of_mem _ hy)
theorem isB_head {x : Int} {l : List Int} (h : isB (x :: l)) : 0 ≤ x ∧ x < 256 := h x List.mem_cons_self
theorem isB_append {l m : List Int} (h : isB l) (k : isB m) : isB (l ++ m) := by
  intro y hy
  rcases List.mem_append.1 hy with hy | hy
  · exact h y hy
  · exact k y hy
theorem isB_take {l : List Int} (h : isB l) (n : Nat) : isB (l.take n) := fun y hy => h y (List.mem_of_mem_take hy)
theorem be_isB (n : Int) : ∀ k, isB (be n k)
  | 0 => isB_nil
  | k + 1 => isB_cons ⟨Int.emod_nonneg _ (by decide), Int.emod_lt_of_pos _ (by decide)⟩ (be_isB n k)
theorem be_add (n m : Int) : ∀ k j, be (n + m * (p256 k * p256 j)) k = be n k
  | 0, _ => rfl
  | k + 1, j => by
    have h := be_add n m k (j + 1)
    have e : p256 (k + 1) * p256 j = p256 k * p256 (j + 1) := by rw [p256_succ, p256_succ, Int.mul_assoc, Int.mul_comm 256]
    simp only [be]
    rw [e, h]
    have d : (n + m * (p256 k * p256 (j + 1))) / p256 k = n / p256 k + m * p256 (j + 1) := by
      rw [show n + m * (p256 k * p256 (j + 1)) = n + p256 k * (m * p256 (j + 1)) by rw [← Int.mul_assoc, Int.mul_comm m, Int.mul_assoc], Int.add_mul_ediv_left _ _ (by have := p256_pos k; omega)]
    rw [d, p256_succ, ← Int.mul_assoc]
    congr 1
    omega
def num256 (l : List Int) : Int := l.foldl (fun a b => a * 256 + b) 0
theorem foldl256 : ∀ (l : List Int) (a : Int), l.foldl (fun a b => a * 256 + b) a = a * p256 l.length + num256 l
  | [], a => by simp [num256, p256_zero]
  | x :: l, a => by
    unfold num256
    simp only [List.foldl_cons, List.length_cons]
    rw [foldl256 l (a * 256 + x), foldl256 l (0 * 256 + x), p256_succ, Int.add_mul, Int.mul_assoc, Int.mul_comm 256, Int.zero_mul, Int.zero_add, Int.add_assoc]
theorem num256_cons (x : Int) (l : List Int) : num256 (x :: l) = x * p256 l.length + num256 l := by
  have := foldl256 l (0 * 256 + x)
  rw [Int.zero_mul, Int.zero_add] at this
  unfold num256
  simp only [List.foldl_cons]
  rw [Int.zero_mul, Int.zero_add, this]
  rfl
theorem num256_be (n : Int) : ∀ k, num256 (be n k) = n % p256 k
  | 0 => by simp [be, num256, p256_zero, Int.emod_one]
  | k + 1 => by
    simp only [be]
    rw [num256_cons, be_len, num256_be n k, p256_succ]
    have h := p256_pos k
    have h1 := Int.emod_lt_of_pos n h
    have h2 := Int.emod_nonneg n (show p256 k ≠ 0 by omega)
    have h3 := Int.mul_ediv_add_emod n (p256 k)
    have h4 := Int.mul_ediv_add_emod (n / p256 k) 256
    have h5 := Int.emod_lt_of_pos (n / p256 k) (show (0 : Int) < 256 by decide)
    have h6 := Int.emod_nonneg (n / p256 k) (show (256 : Int) ≠ 0 by decide)
    generalize n / p256 k % 256 = b at *
    have h7 : b * p256 k ≤ 255 * p256 k := Int.mul_le_mul_of_nonneg_right (by omega) (Int.le_of_lt h)
    have h8 : 0 ≤ b * p256 k := Int.mul_nonneg h6 (Int.le_of_lt h)
    refine (((Int.ediv_emod_unique (a := n) (r := b * p256 k + n % p256 k) (q := n / p256 k / 256) (b := p256 k * 256) (by omega)).2 ⟨?_, by omega, by omega⟩).2).symm
    have h9 : p256 k * 256 * (n / p256 k / 256) = p256 k * (256 * (n / p256 k / 256)) := Int.mul_assoc _ _ _
    have h10 : p256 k * (n / p256 k) = p256 k * (256 * (n / p256 k / 256)) + b * p256 k := by
      rw [Int.mul_comm b, ← Int.mul_add, h4]
    omega
theorem shr8 (n : Int) (j : Nat) (h : j ≤ 8) : shr .i64 n ((8 * j : Nat) : Int) = n / p256 j := by
  have hb : IntKind.i64.bits = 64 := rfl
  unfold shr p256
  rw [hb, Int.toNat_natCast, Nat.min_eq_left (by omega), Int.pow_mul]
  rfl
theorem key_number_l0 (n : Int) : ∀ (j k : Nat) (acc : List Int), j < k → j ≤ 8 → acc.length + j ≤ 100 → key_number.l0 k n acc (8 * (j : Int) - 8) = some (acc ++ be n j)
  | 0, k, acc, hk, hj, ha => by
    obtain ⟨k, rfl⟩ : ∃ m, k = m + 1 := ⟨k - 1, by omega⟩
    simp only [key_number.l0]; rw [if_neg (by omega), be, List.append_nil]
  | j + 1, k, acc, hk, hj, ha => by
    obtain ⟨k, rfl⟩ : ∃ m, k = m + 1 := ⟨k - 1, by omega⟩
    have e : 8 * ((j + 1 : Nat) : Int) - 8 = ((8 * j : Nat) : Int) := by omega
    simp only [key_number.l0]
    rw [e, if_pos (by omega), if_pos (by omega), if_pos (by omega), shr8 n j (by omega), wrap64_of (by omega) (by omega)]
    have := key_number_l0 n j k (acc ++ [n / p256 j % 256]) (by omega) (by omega) (by
      simp only [List.length_append, List.length_singleton]; omega)
    rw [show ((8 * j : Nat) : Int) - 8 = 8 * (j : Int) - 8 by omega, this, be, List.append_assoc]
    rfl
theorem key_number_eq (n : Int) (j k : Nat) (hk : j < k) (h1 : 1 ≤ j) (hj : j ≤ 8) : key_number.f k n (j : Int) = some (be n j) := by
  unfold key_number.f
  rw [wrap64_of (x := (j : Int) - 1) (by omega) (by omega), wrap64_of (by omega) (by omega), show 8 * ((j : Int) - 1) = 8 * (j : Int) - 8 by omega, key_number_l0 n j k [] hk hj (by simp; omega)]
  rfl
theorem nat_xor_top (r : Nat) (h : r < 9223372036854775808) : r ^^^ 9223372036854775808 = r + 9223372036854775808 := by
  apply Nat.eq_of_testBit_eq
  intro i
  have e : 9223372036854775808 = 2 ^ 63 := by decide
  rw [Nat.testBit_xor, e, Nat.add_comm, Nat.testBit_two_pow]
  by_cases c : i = 63
  · subst c
    rw [Nat.testBit_two_pow_add_eq]
    simp
  · by_cases c2 : i < 63
    · rw [Nat.testBit_two_pow_add_gt c2]
      simp [Ne.symm c]
    · have h1 : r.testBit i = false := Nat.testBit_lt_two_pow (Nat.lt_of_lt_of_le h (by rw [e]; exact Nat.pow_le_pow_right (by decide) (by omega)))
      have h2 : (2 ^ 63 + r).testBit i = false := Nat.testBit_lt_two_pow (Nat.lt_of_lt_of_le (m := 2 ^ 64) (by omega) (Nat.pow_le_pow_right (by decide) (by omega)))
      rw [h1, h2]
      simp [Ne.symm c]
theorem nat_xor_top' (r : Nat) (h : r < 18446744073709551616) : r ^^^ 9223372036854775808 = (r + 9223372036854775808) % 18446744073709551616 := by
  by_cases c : r < 9223372036854775808
  · rw [nat_xor_top r c]; omega
  · obtain ⟨q, rfl⟩ : ∃ q, r = q + 9223372036854775808 := ⟨r - 9223372036854775808, by omega⟩
    rw [← nat_xor_top q (by omega), Nat.xor_assoc, Nat.xor_self, Nat.xor_zero]
    rw [nat_xor_top q (by omega)]
    omega
theorem toNat_ofInt (a : Int) : ((BitVec.ofInt 64 a).toNat : Int) = a % 18446744073709551616 := by
  rw [BitVec.toNat_ofInt]
  have : (0 : Int) ≤ a % ((2 ^ 64 : Nat) : Int) := Int.emod_nonneg _ (by decide)
  rw [Int.toNat_of_nonneg this]
  rfl
theorem i64_wrap (n : Int) : IntKind.i64.wrap n = wrap64 n := by
  simp [IntKind.wrap, IntKind.bits, IntKind.signed, wrap64]
  split <;> omega
theorem xorMin (a : Int) : Go.bits .xor .i64 a (-9223372036854775808) = wrap64 (a + 9223372036854775808) := by
  have h1 := toNat_ofInt a
  have h2 : (BitVec.ofInt 64 (-9223372036854775808)).toNat = 9223372036854775808 := by decide +kernel
  have h3 : (BitVec.ofInt 64 a).toNat < 18446744073709551616 := (BitVec.ofInt 64 a).isLt
  have hx := nat_xor_top' _ h3
  show IntKind.i64.wrap ((BitVec.ofInt 64 a ^^^ BitVec.ofInt 64 (-9223372036854775808)).toNat : Int) = _
  rw [BitVec.toNat_xor, h2, hx, i64_wrap]
  generalize (BitVec.ofInt 64 a).toNat = r at *
  unfold wrap64
  omega
theorem be_eq_of_emod {a b : Int} {k : Nat} (h : a % p256 k = b % p256 k) : be a k = be b k := by
  have h1 := Int.mul_ediv_add_emod a (p256 k)
  have h2 := Int.mul_ediv_add_emod b (p256 k)
  have := be_add b (a / p256 k - b / p256 k) k 0
  rw [p256_zero, Int.mul_one, Int.sub_mul, Int.mul_comm (a / p256 k), Int.mul_comm (b / p256 k)] at this
  rw [show b + (p256 k * (a / p256 k) - p256 k * (b / p256 k)) = a by omega] at this
  exact this
theorem p256_8 : p256 8 = 18446744073709551616 := by decide
theorem p256_4 : p256 4 = 4294967296 := by decide
theorem key_signed_eq (k : Nat) (a : Int) (hk : 9 < k) : key_signed.f k a = some (be (a + 9223372036854775808) 8) := by
  unfold key_signed.f
  have := key_number_eq (wrap64 (a + 9223372036854775808)) 8 k (by omega) (by decide) (by decide)
  rw [xorMin, show (8 : Int) = ((8 : Nat) : Int) from rfl, this, Option.bind_some]
  congr 1
  apply be_eq_of_emod
  rw [p256_8]; unfold wrap64; omega
end Go.Proofs.Ytjacflmgbmfhcaa.K
namespace Go.Proofs.Ytjacflmgbmfhcaa.K
open Go.RowKit Go.Proofs.YtjacflmgbmfhcaaW.PrintWords Go.Proofs.YtjacflmgbmfhcaaW.PrintLast Go.Proofs.YtjacflmgbmfhcaaW.PrintMore
attribute [local go_sem] max2_int min2_int max_two min_two max_three min_three max_four min_four
attribute [local go_sem high] own_gtr own_leq own_geq own_cell_set Option.map_some fld24_3
set_option linter.unusedVariables false
set_option linter.unusedSimpArgs false
def okB (st : ByteArray) : Bool := st.data.toList.all fun b => decide (32 ≤ b.toNat ∧ b.toNat ≤ 126)
theorem bt_data (st : ByteArray) (i : Nat) (h : i < st.data.size) : bt st (i : Int) = ((st.data[i]).toNat : Int) := by
  rw [← bt_at st (i : Int) (by simpa using h)]
  rfl
theorem all_drop (st : ByteArray) (i : Nat) (h : i < st.data.size) : (st.data.toList.drop i).all (fun b => decide (32 ≤ b.toNat ∧ b.toNat ≤ 126)) = (decide (32 ≤ (st.data[i]).toNat ∧ (st.data[i]).toNat ≤ 126) && (st.data.toList.drop (i + 1)).all fun b => decide (32 ≤ b.toNat ∧ b.toNat ≤ 126)) := by
  rw [List.drop_eq_getElem_cons (by simpa using h), List.all_cons]
  simp
theorem val_printable_l0 (st : ByteArray) (hs : st.data.size ≤ 140737488351232) : ∀ (d k i : Nat), d < k → i + d = st.data.size → val_printable.l0 k st (i : Int) = some ((st.data.toList.drop i).all fun b => decide (32 ≤ b.toNat ∧ b.toNat ≤ 126))
  | 0, k, i, hk, h => by
    obtain ⟨k, rfl⟩ : ∃ m, k = m + 1 := ⟨k - 1, by omega⟩
    simp only [val_printable.l0]; rw [if_neg (by have hz : st.size = st.data.size := rfl; omega), List.drop_of_length_le (by have hz : st.data.toList.length = st.data.size := rfl; omega)]; rfl
  | d + 1, k, i, hk, h => by
    obtain ⟨k, rfl⟩ : ∃ m, k = m + 1 := ⟨k - 1, by omega⟩
    simp only [val_printable.l0]
    rw [if_pos (by have hz : st.size = st.data.size := rfl; omega), if_pos (by omega), bt_data st i (by omega), all_drop st i (by omega)]
    by_cases h1 : ((st.data[i]'(by omega)).toNat : Int) < 32
    · rw [if_pos h1, decide_eq_false (by omega)]; rfl
    · rw [if_neg h1]
      by_cases h2 : ((st.data[i]'(by omega)).toNat : Int) > 126
      · rw [if_pos h2, decide_eq_false (by omega)]; rfl
      · rw [if_neg h2, decide_eq_true (by omega), wrap64_of (by omega) (by omega), Bool.true_and]
        exact val_printable_l0 st hs d k (i + 1) (by omega) (by omega)
theorem val_printable_eq (st : ByteArray) (k : Nat) (hs : st.data.size ≤ 140737488351232) (hk : st.data.size < k) : val_printable.f k st = some (okB st) := val_printable_l0 st hs st.data.size k 0 hk (by omega)
def noS (st : ByteArray) : Bool := st.toList == ([] : List UInt8)
def rightB (kd n sc : Int) (st : ByteArray) : Bool :=
  if kd = 0 then n == 0 && (sc == 0 && noS st)
  else if kd = 1 then decide (0 ≤ n ∧ n ≤ 1) && (sc == 0 && noS st)
  else if kd = 2 then sc == 0 && noS st
  else if kd = 3 then decide (-1000000000000000 < n ∧ n < 1000000000000000 ∧ 0 ≤ sc ∧ sc ≤ 6 ∧ (sc = 0 ∨ n % 10 ≠ 0)) && noS st
  else if kd = 4 then decide (n = 0 ∧ sc = 0 ∧ st.data.size ≤ 40) && okB st
  else if kd = 5 then decide (n = 0 ∧ sc = 0 ∧ st.data.size ≤ 40)
  else false
theorem val_Right_eq (k : Nat) (kd n sc : Int) (st : ByteArray) (hk : 42 < k) : val_Right.f k kd n sc st = some (rightB kd n sc st) := by
  obtain ⟨k, rfl⟩ : ∃ m, k = m + 1 := ⟨k - 1, by omega⟩
  have hz : (st.size : Int) = (st.data.size : Int) := rfl
  unfold val_Right.f rightB
  by_cases h0 : kd = 0
  · rw [if_pos h0, if_pos h0]; rfl
  rw [if_neg h0, if_neg h0]
  by_cases h1 : kd = 1
  · rw [if_pos h1, if_pos h1]
    congr 2
    rw [Bool.eq_iff_iff]; simp only [beq_iff_eq, decide_eq_true_eq]; unfold mn mx
    constructor
    · intro h; split at h <;> (try split at h) <;> omega
    · intro h; split <;> (try split) <;> omega
  rw [if_neg h1, if_neg h1]
  by_cases h2 : kd = 2
  · rw [if_pos h2, if_pos h2]; rfl
  rw [if_neg h2, if_neg h2]
  by_cases h3 : kd = 3
  · rw [if_pos h3, if_pos h3]
    have ht := tmod10 n
    by_cases a1 : n ≤ -1000000000000000
    · rw [if_pos a1, decide_eq_false (by omega)]; rfl
    rw [if_neg a1]
    by_cases a2 : n ≥ 1000000000000000
    · rw [if_pos a2, decide_eq_false (by omega)]; rfl
    rw [if_neg a2]
    have hm : (sc == mn (mx sc 0) 6) = decide (0 ≤ sc ∧ sc ≤ 6) := by
      rw [Bool.eq_iff_iff]; simp only [beq_iff_eq, decide_eq_true_eq]; unfold mn mx
      constructor
      · intro h; split at h <;> (try split at h) <;> omega
      · intro h; split <;> (try split) <;> omega
    by_cases a3 : sc > 0
    · rw [if_pos a3]
      by_cases a4 : Int.tmod n 10 = 0
      · rw [if_pos a4, decide_eq_false (by have := ht.1 a4; omega)]; rfl
      · rw [if_neg a4, hm]
        have : n % 10 ≠ 0 := fun e => a4 (ht.2 e)
        by_cases a5 : sc ≤ 6
        · rw [decide_eq_true (by omega), decide_eq_true (by omega)]; rfl
        · rw [decide_eq_false (by omega), decide_eq_false (by omega)]; rfl
    · rw [if_neg a3, hm]
      by_cases a5 : 0 ≤ sc
      · rw [decide_eq_true (by omega), decide_eq_true (by omega)]; rfl
      · rw [decide_eq_false (by omega), decide_eq_false (by omega)]; rfl
  rw [if_neg h3, if_neg h3]
  by_cases h4 : kd = 4
  · rw [if_pos h4, if_pos h4]
    subst h4
    simp only [val_Right.j0, beq_self_eq_true, if_true, Bool.true_and]
    by_cases a1 : (st.size : Int) > 40
    · rw [if_pos a1, decide_eq_false (by omega)]; rfl
    · rw [if_neg a1, val_printable_eq st k (by omega) (by omega)]
      simp only [Option.bind_some]
      cases hb : okB st with
      | false => simp
      | true =>
        simp only [if_true, Bool.and_true]
        congr 1
        rw [Bool.eq_iff_iff]; simp only [Bool.and_eq_true, beq_iff_eq, decide_eq_true_eq]; omega
  rw [if_neg h4, if_neg h4]
  by_cases h5 : kd = 5
  · rw [if_pos h5]
    subst h5
    simp only [val_Right.j0, beq_self_eq_true, if_true, Bool.true_and]
    by_cases a1 : (st.size : Int) > 40
    · rw [if_pos a1, decide_eq_false (by omega)]
    · rw [if_neg a1, if_neg (by decide)]
      congr 1
      rw [Bool.eq_iff_iff]; simp only [Bool.and_eq_true, beq_iff_eq, decide_eq_true_eq]; omega
  · rw [if_neg h5]
    simp only [val_Right.j0, show (kd == 5) = false from by simpa using h5]
    simp
end Go.Proofs.Ytjacflmgbmfhcaa.K
namespace Go.Proofs.Ytjacflmgbmfhcaa.K
open Go.RowKit Go.Proofs.YtjacflmgbmfhcaaW.PrintWords Go.Proofs.YtjacflmgbmfhcaaW.PrintLast Go.Proofs.YtjacflmgbmfhcaaW.PrintMore
attribute [local go_sem] max2_int min2_int max_two min_two max_three min_three max_four min_four
attribute [local go_sem high] own_gtr own_leq own_geq own_cell_set Option.map_some fld24_3
set_option linter.unusedVariables false
set_option linter.unusedSimpArgs false
theorem son_toList (L : List Int) : (strOfNums L).toList = L.map fun n => UInt8.ofNat n.toNat := by
  rw [Lib.toList_data]; rfl
theorem son_size (L : List Int) : (strOfNums L).size = L.length := by simp [strOfNums, ByteArray.size]
theorem son_append (L M : List Int) : strOfNums L ++ strOfNums M = strOfNums (L ++ M) := by
  apply ByteArray.ext
  simp [strOfNums, ByteArray.data_append]
theorem u8_back {x : Int} (h : 0 ≤ x ∧ x < 256) : ((UInt8.ofNat x.toNat).toNat : Int) = x := by
  rw [UInt8.toNat_ofNat']
  omega
theorem byteL_son {L : List Int} (h : isB L) : byteL (strOfNums L) = L := by
  unfold byteL
  rw [strOfNums_data, List.map_map]
  conv => rhs; rw [← List.map_id L]
  apply List.map_congr_left
  intro x hx
  exact u8_back (h x hx)
theorem byteL_isB (s : ByteArray) : isB (byteL s) := by
  intro x hx
  obtain ⟨b, _, rfl⟩ := List.mem_map.1 hx
  have := b.toNat_lt
  omega
theorem byteL_len (s : ByteArray) : (byteL s).length = s.size := by unfold byteL; rw [List.length_map]; rfl
theorem son_byteL (s : ByteArray) : strOfNums (byteL s) = s := by
  apply ByteArray.ext
  unfold strOfNums byteL
  simp only [List.map_map]
  have : (s.data.toList.map ((fun n : Int => UInt8.ofNat n.toNat) ∘ fun b : UInt8 => (b.toNat : Int))) = s.data.toList := by
    conv => rhs; rw [← List.map_id s.data.toList]
    apply List.map_congr_left
    intro x _
    simp
  rw [this]
theorem son_inj {L M : List Int} (hL : isB L) (hM : isB M) (h : strOfNums L = strOfNums M) : L = M := by
  rw [← byteL_son hL, ← byteL_son hM, h]
theorem toList_inj {s t : ByteArray} : s.toList = t.toList ↔ s = t := by
  constructor
  · intro h
    rw [Lib.toList_data, Lib.toList_data] at h
    apply ByteArray.ext
    exact Array.toList_inj.1 h
  · rintro rfl; rfl
theorem son_eq {L M : List Int} (hL : isB L) (hM : isB M) : (strOfNums L).toList = (strOfNums M).toList ↔ L = M :=
  ⟨fun h => son_inj hL hM (toList_inj.1 h), fun h => by rw [h]⟩
theorem son_nil (L : List Int) : (strOfNums L).toList = ([] : List UInt8) ↔ L = [] := by
  rw [son_toList, List.map_eq_nil_iff]
theorem son_drop (L : List Int) (n : Nat) : (strOfNums L).extract n (strOfNums L).size = strOfNums (L.drop n) := by
  apply ByteArray.ext
  apply Array.toList_inj.1
  rw [Lib.extract_data, son_size, strOfNums_data, strOfNums_data, ← List.map_drop, List.take_of_length_le (by simp)]
theorem son_take (L : List Int) (n : Nat) : (strOfNums L).extract 0 n = strOfNums (L.take n) := by
  apply ByteArray.ext
  apply Array.toList_inj.1
  rw [Lib.extract_data, strOfNums_data, strOfNums_data, List.drop_zero, Nat.sub_zero, ← List.map_take]
theorem bt_son {L : List Int} (h : isB L) (i : Nat) (hi : i < L.length) : bt (strOfNums L) (i : Int) = L[i] := by
  have hs : i < (strOfNums L).data.size := by have := son_size L; have h2 : (strOfNums L).size = (strOfNums L).data.size := rfl; omega
  rw [bt_data _ i hs]
  have : (strOfNums L).data[i] = UInt8.ofNat (L[i]).toNat := by simp [strOfNums]
  rw [this]
  exact u8_back (h _ (List.getElem_mem hi))
def lessL : List Int → List Int → Bool
  | [], [] => false
  | [], _ :: _ => true
  | _ :: _, [] => false
  | a :: x, b :: y => decide (a < b) || (a == b && lessL x y)
theorem u8_lt {a b : Int} (ha : 0 ≤ a ∧ a < 256) (hb : 0 ≤ b ∧ b < 256) : (UInt8.ofNat a.toNat < UInt8.ofNat b.toNat) ↔ a < b := by
  rw [UInt8.lt_iff_toNat_lt]
  have h1 := u8_back ha
  have h2 := u8_back hb
  omega
theorem u8_eq {a b : Int} (ha : 0 ≤ a ∧ a < 256) (hb : 0 ≤ b ∧ b < 256) : (UInt8.ofNat a.toNat = UInt8.ofNat b.toNat) ↔ a = b := by
  constructor
  · intro h
    have h1 := u8_back ha
    have h2 := u8_back hb
    rw [h] at h1
    omega
  · rintro rfl; rfl
theorem less_map : ∀ (L M : List Int), isB L → isB M → Op.bytesLess (L.map fun n => UInt8.ofNat n.toNat) (M.map fun n => UInt8.ofNat n.toNat) = lessL L M
  | [], [], _, _ => rfl
  | [], _ :: _, _, _ => rfl
  | _ :: _, [], _, _ => rfl
  | a :: x, b :: y, hL, hM => by
    simp only [List.map_cons, Op.bytesLess, lessL]
    rw [less_map x y (isB_tail hL) (isB_tail hM)]
    have h1 := u8_lt (isB_head hL) (isB_head hM)
    have h2 := u8_eq (isB_head hL) (isB_head hM)
    congr 1
    · rw [Bool.eq_iff_iff]; simpa using h1
    · congr 1
      rw [Bool.eq_iff_iff, beq_iff_eq, beq_iff_eq]; exact h2
theorem less_son {L M : List Int} (hL : isB L) (hM : isB M) : Op.bytesLess (strOfNums L).toList (strOfNums M).toList = lessL L M := by
  rw [son_toList, son_toList]; exact less_map L M hL hM
theorem less_bytes (s t : ByteArray) : Op.bytesLess s.toList t.toList = lessL (byteL s) (byteL t) := by
  rw [← less_son (byteL_isB s) (byteL_isB t), son_byteL, son_byteL]
theorem lessL_irrefl : ∀ L, lessL L L = false
  | [] => rfl
  | a :: x => by simp [lessL, lessL_irrefl x]
theorem lessL_same (u v : List Int) : ∀ L, lessL (L ++ u) (L ++ v) = lessL u v
  | [] => rfl
  | a :: x => by simp [lessL, lessL_same u v x]
theorem lessL_len (u v : List Int) : ∀ L M : List Int, L.length = M.length → lessL (L ++ u) (M ++ v) = if L = M then lessL u v else lessL L M
  | [], [], _ => by simp
  | [], _ :: _, h => by simp at h
  | _ :: _, [], h => by simp at h
  | a :: x, b :: y, h => by
    simp only [List.cons_append, lessL]
    rw [lessL_len u v x y (by simpa using h)]
    by_cases e : a = b
    · subst e
      by_cases e2 : x = y
      · subst e2; simp
      · rw [if_neg e2, if_neg (by simpa using e2)]
    · have e3 : ¬ (a :: x = b :: y) := by simp [e]
      have : (a == b) = false := by simpa using e
      rw [if_neg e3, this]; simp
theorem be_lt : ∀ (k : Nat) (a b : Int), 0 ≤ a → a < p256 k → 0 ≤ b → b < p256 k → lessL (be a k) (be b k) = decide (a < b)
  | 0, a, b, h0, h1, h2, h3 => by
    rw [p256_zero] at h1 h3
    rw [decide_eq_false (by omega)]; rfl
  | k + 1, a, b, h0, h1, h2, h3 => by
    have hp := p256_pos k
    rw [p256_succ] at h1 h3
    have a1 := Int.mul_ediv_add_emod a (p256 k)
    have b1 := Int.mul_ediv_add_emod b (p256 k)
    have a2 := Int.emod_nonneg a (show p256 k ≠ 0 by omega)
    have b2 := Int.emod_nonneg b (show p256 k ≠ 0 by omega)
    have a3 := Int.emod_lt_of_pos a hp
    have b3 := Int.emod_lt_of_pos b hp
    have a4 : 0 ≤ a / p256 k := Int.ediv_nonneg h0 (by omega)
    have b4 : 0 ≤ b / p256 k := Int.ediv_nonneg h2 (by omega)
    have a5 : a / p256 k < 256 := Int.ediv_lt_of_lt_mul hp (by rw [Int.mul_comm]; exact h1)
    have b5 : b / p256 k < 256 := Int.ediv_lt_of_lt_mul hp (by rw [Int.mul_comm]; exact h3)
    have ih := be_lt k (a % p256 k) (b % p256 k) a2 a3 b2 b3
    have ea : be (a % p256 k) k = be a k := be_eq_of_emod (Int.emod_emod_of_dvd a (Int.dvd_refl _))
    have eb : be (b % p256 k) k = be b k := be_eq_of_emod (Int.emod_emod_of_dvd b (Int.dvd_refl _))
    rw [ea, eb] at ih
    simp only [be, lessL]
    rw [ih, Int.emod_eq_of_lt a4 a5, Int.emod_eq_of_lt b4 b5, Bool.eq_iff_iff]
    simp only [Bool.or_eq_true, Bool.and_eq_true, decide_eq_true_eq, beq_iff_eq]
    generalize a / p256 k = u at *
    generalize b / p256 k = v at *
    generalize a % p256 k = r at *
    generalize b % p256 k = s at *
    generalize p256 k = p at *
    constructor
    · rintro (h | ⟨rfl, h⟩)
      · have : p * (u + 1) ≤ p * v := Int.mul_le_mul_of_nonneg_left (by omega) (by omega)
        rw [Int.mul_add, Int.mul_one] at this
        omega
      · omega
    · intro h
      by_cases c : u < v
      · exact Or.inl c
      · by_cases c2 : u = v
        · subst c2; exact Or.inr ⟨rfl, by omega⟩
        · have : p * (v + 1) ≤ p * u := Int.mul_le_mul_of_nonneg_left (by omega) (by omega)
          rw [Int.mul_add, Int.mul_one] at this
          omega
theorem be_inj {k : Nat} {a b : Int} (h0 : 0 ≤ a) (h1 : a < p256 k) (h2 : 0 ≤ b) (h3 : b < p256 k) (h : be a k = be b k) : a = b := by
  have ha := num256_be a k
  have hb := num256_be b k
  rw [h, hb, Int.emod_eq_of_lt h0 h1, Int.emod_eq_of_lt h2 h3] at ha
  exact ha.symm
end Go.Proofs.Ytjacflmgbmfhcaa.K
namespace Go.Proofs.Ytjacflmgbmfhcaa.K
open Go.RowKit Go.Proofs.YtjacflmgbmfhcaaW.PrintWords Go.Proofs.YtjacflmgbmfhcaaW.PrintLast Go.Proofs.YtjacflmgbmfhcaaW.PrintMore
attribute [local go_sem] max2_int min2_int max_two min_two max_three min_three max_four min_four
attribute [local go_sem high] own_gtr own_leq own_geq own_cell_set Option.map_some fld24_3
set_option linter.unusedVariables false
set_option linter.unusedSimpArgs false
def cmpI (a b : Int) : Int := if a < b then -1 else if b < a then 1 else 0
def cmpT (a b : ByteArray) : Int := if Op.bytesLess a.toList b.toList = true then -1 else if Op.bytesLess b.toList a.toList = true then 1 else 0
theorem bytesLess_irrefl : ∀ a : List UInt8, Op.bytesLess a a = false
  | [] => rfl
  | x :: a => by simp [Op.bytesLess, bytesLess_irrefl a]
theorem bytesLess_total (a b : List UInt8) : Op.bytesLess a b = true ∨ a = b ∨ Op.bytesLess b a = true := by
  have := bytesLess_swap a b
  cases h : Op.bytesLess a b with
  | true => exact Or.inl rfl
  | false =>
    rw [h, Bool.false_or] at this
    by_cases e : a = b
    · exact Or.inr (Or.inl e)
    · right; right; rw [this]; simpa using e
theorem bytesLess_asymm (a b : List UInt8) (h : Op.bytesLess a b = true) : Op.bytesLess b a = false := by
  have := bytesLess_swap a b
  rw [h] at this
  simpa using this
def mic (n sc : Int) : Int := n * p10 (6 - sc.toNat)
def ordB (k1 n1 s1 : Int) (t1 : ByteArray) (k2 n2 s2 : Int) (t2 : ByteArray) : Int :=
  if k1 = k2 then (if k1 = 1 ∨ k1 = 2 then cmpI n1 n2 else if k1 = 3 then cmpI (mic n1 s1) (mic n2 s2) else cmpT t1 t2) else cmpI k1 k2
theorem ref_order_eq (a b : Int) : federationref1_order.f a b = some (cmpI a b) := by
  unfold federationref1_order.f cmpI
  by_cases h : a < b
  · rw [if_pos h, if_pos h]
  · rw [if_neg h, if_neg h]
    by_cases h2 : b < a
    · rw [if_pos h2, if_pos h2]
    · rw [if_neg h2, if_neg h2]
theorem ref_texts_eq (a b : ByteArray) : federationref1_texts.f a b = some (cmpT a b) := by
  unfold federationref1_texts.f cmpT
  by_cases h : Op.bytesLess a.toList b.toList = true
  · rw [if_pos h, if_pos h]
  · rw [if_neg h, if_neg h]
    by_cases h2 : Op.bytesLess b.toList a.toList = true
    · rw [if_pos h2, if_pos h2]
    · rw [if_neg h2, if_neg h2]
theorem cmpI_congr {a b c d : Int} (h : c < d ↔ a < b) (k : d < c ↔ b < a) : cmpI c d = cmpI a b := by
  unfold cmpI; simp only [h, k]
theorem parts_order' {a b : Int} (q : Int) (hq : 0 < q) : (if cmpI (a / q) (b / q) = 0 then cmpI (a % q) (b % q) else cmpI (a / q) (b / q)) = cmpI a b := by
  have ha := Int.mul_ediv_add_emod a q
  have hb := Int.mul_ediv_add_emod b q
  have a1 := Int.emod_lt_of_pos a hq
  have b1 := Int.emod_lt_of_pos b hq
  have a4 := Int.emod_nonneg a (show q ≠ 0 by omega)
  have b4 := Int.emod_nonneg b (show q ≠ 0 by omega)
  generalize a / q = u at *
  generalize b / q = v at *
  generalize a % q = c at *
  generalize b % q = d at *
  rcases Int.lt_trichotomy u v with h | h | h
  · have h1 : q * u + q ≤ q * v := by
      have := Int.mul_le_mul_of_nonneg_left (show u + 1 ≤ v by omega) (show 0 ≤ q by omega)
      rw [Int.mul_add, Int.mul_one] at this; exact this
    have : cmpI u v = -1 := by unfold cmpI; rw [if_pos h]
    rw [if_neg (by rw [this]; decide), this]
    unfold cmpI
    rw [if_pos (by omega)]
  · subst h
    have : cmpI u u = 0 := by unfold cmpI; rw [if_neg (Int.lt_irrefl _), if_neg (Int.lt_irrefl _)]
    rw [if_pos this]
    clear this
    obtain ⟨m, hm⟩ : ∃ m, m = q * u := ⟨_, rfl⟩
    rw [← hm] at ha hb
    exact cmpI_congr (by omega) (by omega)
  · have h1 : q * v + q ≤ q * u := by
      have := Int.mul_le_mul_of_nonneg_left (show v + 1 ≤ u by omega) (show 0 ≤ q by omega)
      rw [Int.mul_add, Int.mul_one] at this; exact this
    have : cmpI u v = 1 := by unfold cmpI; rw [if_neg (by omega), if_pos h]
    rw [if_neg (by rw [this]; decide), this]
    unfold cmpI
    rw [if_neg (by omega), if_pos (by omega)]
theorem p10_six_sub (s : Nat) (h : s ≤ 6) : p10 s * p10 (6 - s) = 1000000 := by
  rw [← p10_add, show s + (6 - s) = 6 by omega, p10_six]
theorem tdiv_pows (s : Nat) (hs : s ≤ 6) : Int.tdiv (p10 6) (p10 s) = p10 (6 - s) := by
  have h := p10_six_sub s hs
  rw [p10_six, ← h, Int.mul_comm, Int.mul_tdiv_cancel _ (by have := p10_pos s; omega)]
theorem ref_Parts_eq (k : Nat) (kd n : Int) (s : Nat) (st : ByteArray) (hk : 18 < k) (hs : s ≤ 6) (h0 : -1000000000000000 < n) (h1 : n < 1000000000000000) : federationref1_Parts.f k kd n (s : Int) st = some (n / p10 s, n % p10 s * p10 (6 - s)) := by
  unfold federationref1_Parts.f
  have hp := p10_pos s
  have hp2 := p10_le s (by omega)
  have hq := p10_pos (6 - s)
  have hq2 := p10_le (6 - s) (by omega)
  have h6 := p10_six_sub s hs
  have b1 := Int.emod_lt_of_pos n hp
  have b2 := Int.emod_nonneg n (show p10 s ≠ 0 by omega)
  have b4 : n % p10 s * p10 (6 - s) ≤ p10 s * p10 (6 - s) := Int.mul_le_mul_of_nonneg_right (by omega) (by omega)
  have b5 : 0 ≤ n % p10 s * p10 (6 - s) := Int.mul_nonneg b2 (by omega)
  have h2 := Int.mul_ediv_add_emod n (p10 s)
  have h3 := Int.mul_tdiv_add_tmod n (p10 s)
  have h4 := Int.natAbs_tdiv_le_natAbs n (p10 s)
  have b6 := Int.tmod_lt_of_pos n hp
  have b7 := Int.tmod_lt_of_pos (-n) hp
  rw [Int.neg_tmod] at b7
  rw [ref_Ten_eq k s hk (by omega)]
  simp only [Option.bind_some]
  rw [if_neg (by omega), show (6 : Int) - (s : Int) = ((6 - s : Nat) : Int) by omega]
  rw [wrap64_of (x := ((6 - s : Nat) : Int)) (by omega) (by omega), ref_Ten_eq k (6 - s) hk (by omega)]
  simp only [Option.bind_some]
  have hfl : n / p10 s = if n.tmod (p10 s) < 0 then n.tdiv (p10 s) - 1 else n.tdiv (p10 s) := by
    split
    · exact ((Int.ediv_emod_unique (r := n.tmod (p10 s) + p10 s) (q := n.tdiv (p10 s) - 1) hp).2 ⟨by rw [Int.mul_sub, Int.mul_one]; omega, by omega, by omega⟩).1
    · exact ((Int.ediv_emod_unique (r := n.tmod (p10 s)) (q := n.tdiv (p10 s)) hp).2 ⟨by omega, by omega, by omega⟩).1
  by_cases hn : n.tmod (p10 s) < 0
  · rw [if_pos hn]
    rw [if_pos hn] at hfl
    have e1 : wrap64 (n.tdiv (p10 s)) = n.tdiv (p10 s) := wrap64_of (by omega) (by omega)
    rw [e1, wrap64_of (x := n.tdiv (p10 s) - 1) (by omega) (by omega), ← hfl]
    have e2 : n / p10 s * p10 s = n - n % p10 s := by rw [Int.mul_comm]; omega
    rw [e2, wrap64_of (x := n - n % p10 s) (by omega) (by omega), show n - (n - n % p10 s) = n % p10 s by omega, wrap64_of (x := n % p10 s) (by omega) (by omega), wrap64_of (by omega) (by omega)]
  · rw [if_neg hn]
    rw [if_neg hn] at hfl
    have e1 : wrap64 (n.tdiv (p10 s)) = n.tdiv (p10 s) := wrap64_of (by omega) (by omega)
    rw [e1, ← hfl]
    have e2 : n / p10 s * p10 s = n - n % p10 s := by rw [Int.mul_comm]; omega
    rw [e2, wrap64_of (x := n - n % p10 s) (by omega) (by omega), show n - (n - n % p10 s) = n % p10 s by omega, wrap64_of (x := n % p10 s) (by omega) (by omega), wrap64_of (by omega) (by omega)]
theorem mic_ediv (n : Int) (s : Nat) (hs : s ≤ 6) : (n * p10 (6 - s)) / 1000000 = n / p10 s := by
  rw [← p10_six_sub s hs]; exact Int.mul_ediv_mul_of_pos_left _ _ (p10_pos _)
theorem mic_emod (n : Int) (s : Nat) (hs : s ≤ 6) : (n * p10 (6 - s)) % 1000000 = n % p10 s * p10 (6 - s) := by
  have h1 := Int.mul_ediv_add_emod (n * p10 (6 - s)) 1000000
  have h2 := Int.mul_ediv_add_emod n (p10 s)
  rw [mic_ediv n s hs] at h1
  have h3 : (p10 s * (n / p10 s) + n % p10 s) * p10 (6 - s) = n * p10 (6 - s) := by rw [h2]
  rw [Int.add_mul, Int.mul_assoc, Int.mul_comm (n / p10 s), ← Int.mul_assoc, p10_six_sub s hs] at h3
  omega
theorem ref_Order_eq (k : Nat) (k1 n1 : Int) (s1 : Nat) (t1 : ByteArray) (k2 n2 : Int) (s2 : Nat) (t2 : ByteArray) (hk : 42 < k) (h1 : k1 = 3 → s1 ≤ 6 ∧ -1000000000000000 < n1 ∧ n1 < 1000000000000000) (h2 : k2 = 3 → s2 ≤ 6 ∧ -1000000000000000 < n2 ∧ n2 < 1000000000000000) :
    federationref1_Order.f k k1 n1 (s1 : Int) t1 k2 n2 (s2 : Int) t2 = some (ordB k1 n1 (s1 : Int) t1 k2 n2 (s2 : Int) t2) := by
  obtain ⟨k, rfl⟩ : ∃ m, k = m + 1 := ⟨k - 1, by omega⟩
  unfold federationref1_Order.f ordB
  rw [ref_order_eq]
  simp only [Option.bind_some]
  by_cases e : k1 = k2
  · have hc : cmpI k1 k2 = 0 := by unfold cmpI; rw [if_neg (by omega), if_neg (by omega)]
    rw [if_pos hc, if_pos e]
    by_cases e1 : k1 = 1
    · rw [if_pos e1, if_pos (Or.inl e1)]
      simp only [federationref1_Order.j0]
      rw [if_pos (by simpa using e1), ref_order_eq]; rfl
    · rw [if_neg e1]
      simp only [federationref1_Order.j0]
      by_cases e2 : k1 = 2
      · rw [if_pos (by simpa using e2), if_pos (Or.inr e2), ref_order_eq]; rfl
      · rw [if_neg (by simpa using e2), if_neg (show ¬(k1 = 1 ∨ k1 = 2) by omega)]
        by_cases e3 : k1 = 3
        · rw [if_pos e3, if_pos e3]
          obtain ⟨a1, a2, a3⟩ := h1 e3
          obtain ⟨b1, b2, b3⟩ := h2 (by omega)
          simp only [ref_Parts_eq k _ n1 s1 _ (by omega) a1 a2 a3, ref_Parts_eq k _ n2 s2 _ (by omega) b1 b2 b3, Option.bind_some, ref_order_eq]
          unfold mic
          have hp := parts_order' (a := n1 * p10 (6 - s1)) (b := n2 * p10 (6 - s2)) 1000000 (by decide)
          rw [mic_ediv n1 s1 a1, mic_ediv n2 s2 b1, mic_emod n1 s1 a1, mic_emod n2 s2 b1] at hp
          simp only [Int.toNat_natCast]
          rw [← hp]
          by_cases hz : cmpI (n1 / p10 s1) (n2 / p10 s2) = 0
          · rw [if_pos hz, if_pos hz]
          · rw [if_neg hz, if_neg hz]
        · rw [if_neg e3, if_neg e3, ref_texts_eq]; rfl
  · have hc : ¬ cmpI k1 k2 = 0 := by
      unfold cmpI
      by_cases h : k1 < k2
      · rw [if_pos h]; decide
      · rw [if_neg h, if_pos (by omega)]; decide
    rw [if_neg hc, if_neg e]
end Go.Proofs.Ytjacflmgbmfhcaa.K
namespace Go.Proofs.Ytjacflmgbmfhcaa.K
open Go.RowKit Go.Proofs.YtjacflmgbmfhcaaW.PrintWords Go.Proofs.YtjacflmgbmfhcaaW.PrintLast Go.Proofs.YtjacflmgbmfhcaaW.PrintMore
attribute [local go_sem] max2_int min2_int max_two min_two max_three min_three max_four min_four
attribute [local go_sem high] own_gtr own_leq own_geq own_cell_set Option.map_some fld24_3
set_option linter.unusedVariables false
set_option linter.unusedSimpArgs false
def I64 (x : Int) : Prop := -9223372036854775808 ≤ x ∧ x ≤ 9223372036854775807
end Go.Proofs.Ytjacflmgbmfhcaa.K
namespace Go.Proofs.Ytjacflmgbmfhcaa.K
open Go.RowKit Go.Proofs.YtjacflmgbmfhcaaW.PrintWords Go.Proofs.YtjacflmgbmfhcaaW.PrintLast Go.Proofs.YtjacflmgbmfhcaaW.PrintMore
attribute [local go_sem] max2_int min2_int max_two min_two max_three min_three max_four min_four
attribute [local go_sem high] own_gtr own_leq own_geq own_cell_set Option.map_some fld24_3
set_option linter.unusedVariables false
set_option linter.unusedSimpArgs false
structure RD (n : Int) (s : Nat) : Prop where
  lo : -1000000000000000 < n
  hi : n < 1000000000000000
  sc : s ≤ 6
  nm : s = 0 ∨ n % 10 ≠ 0
theorem ediv_small {n p : Int} (hp : 0 < p) (h0 : -1000000000000000 < n) (h1 : n < 1000000000000000) : -1000000000000000 ≤ n / p ∧ n / p ≤ 1000000000000000 := by
  have e := Int.mul_ediv_add_emod n p
  have e1 := Int.emod_lt_of_pos n hp
  have e2 := Int.emod_nonneg n (show p ≠ 0 by omega)
  have e3 := Int.natAbs_ediv_le_natAbs n p
  omega
structure RV (kd n : Int) (s : Nat) : Prop where
  i : I64 n
  d : kd = 3 → RD n s
end Go.Proofs.Ytjacflmgbmfhcaa.K
namespace Go.Proofs.Ytjacflmgbmfhcaa.K
open Go.RowKit Go.Proofs.YtjacflmgbmfhcaaW.PrintWords Go.Proofs.YtjacflmgbmfhcaaW.PrintLast Go.Proofs.YtjacflmgbmfhcaaW.PrintMore
attribute [local go_sem] max2_int min2_int max_two min_two max_three min_three max_four min_four
attribute [local go_sem high] own_gtr own_leq own_geq own_cell_set Option.map_some fld24_3
set_option linter.unusedVariables false
set_option linter.unusedSimpArgs false
theorem within_eq (a n : Int) (ha : I64 a) (h0 : 0 < n) (h1 : n ≤ 4611686018427387904) : federationlaw1_within.f a n = some (a % n) := by
  unfold federationlaw1_within.f I64 at *
  rw [if_neg (by omega)]
  have e1 := Int.mul_tdiv_add_tmod a n
  have e2 := Int.mul_ediv_add_emod a n
  have e3 := Int.emod_lt_of_pos a h0
  have e4 := Int.emod_nonneg a (show n ≠ 0 by omega)
  have e5 := Int.tmod_lt_of_pos a h0
  have e6 := Int.tmod_lt_of_pos (-a) h0
  rw [Int.neg_tmod] at e6
  by_cases c : a.tmod n < 0
  · rw [if_pos c, wrap64_of (by omega) (by omega)]
    have := ((Int.ediv_emod_unique (a := a) (r := a.tmod n + n) (q := a.tdiv n - 1) h0).2 ⟨by rw [Int.mul_sub, Int.mul_one]; omega, by omega, by omega⟩).2
    rw [this]
  · rw [if_neg c]
    have := ((Int.ediv_emod_unique (a := a) (r := a.tmod n) (q := a.tdiv n) h0).2 ⟨by omega, by omega, by omega⟩).2
    rw [this]
theorem emod_bd (a n : Int) (h0 : 0 < n) : 0 ≤ a % n ∧ a % n < n := ⟨Int.emod_nonneg a (by omega), Int.emod_lt_of_pos a h0⟩
theorem RV_right {kd n : Int} {s : Nat} {st : ByteArray} (hn : I64 n) (h : rightB kd n (s : Int) st = true) : RV kd n s := by
  refine ⟨hn, fun e => ?_⟩
  subst e
  unfold rightB at h
  rw [if_neg (by decide), if_neg (by decide), if_neg (by decide), if_pos rfl, Bool.and_eq_true, decide_eq_true_eq] at h
  obtain ⟨⟨a, b, c, d, e⟩, _⟩ := h
  exact ⟨a, b, by omega, by omega⟩
theorem noS_empty : noS (⟨#[]⟩ : ByteArray) = true := by decide +kernel
theorem right_RD {n : Int} {s : Nat} (h : RD n s) : rightB 3 n (s : Int) (⟨#[]⟩ : ByteArray) = true := by
  unfold rightB
  rw [if_neg (by decide), if_neg (by decide), if_neg (by decide), if_pos rfl, noS_empty, Bool.and_true, decide_eq_true_eq]
  exact ⟨h.lo, h.hi, by omega, by have := h.sc; omega, by have := h.nm; omega⟩
theorem RD_red (n : Int) (s : Nat) (h0 : -1000000000000000 < n) (h1 : n < 1000000000000000) (hs : s ≤ 6) : RD (red n s).1 (red n s).2 := by
  have a := red_abs s n
  have b := red_scale s n
  have c := red_done s n
  exact ⟨by omega, by omega, by omega, c⟩
theorem mkText_size (st : ByteArray) : (mkText st).data.size ≤ 40 := by
  unfold mkText strOfNums
  simp [conv8L_length]
  omega
theorem mkText_ok (st : ByteArray) : okB (mkText st) = true := by
  unfold okB mkText strOfNums
  simp only [List.all_eq_true, decide_eq_true_eq, List.map_toArray, List.mem_map, conv8L]
  rintro b ⟨x, hx, rfl⟩
  obtain ⟨c, _, rfl⟩ := List.mem_map.1 (List.mem_of_mem_take hx)
  unfold conv8
  have h1 := emod_bd (c.toNat : Int) 95 (by decide)
  generalize (c.toNat : Int) % 95 = z at *
  have : ((32 + z).toNat % 256) = (32 + z).toNat := Nat.mod_eq_of_lt (by omega)
  simp only [UInt8.toNat_ofNat']
  omega
theorem extract_size (st : ByteArray) (j : Nat) : (st.extract 0 j).data.size = min j st.data.size := by
  rw [← Array.length_toList, Lib.extract_data]
  simp
structure Made (kd n : Int) (s : Nat) (st : ByteArray) : Prop where
  r : rightB kd n (s : Int) st = true
  v : RV kd n s
  sz : st.data.size ≤ 40
  k0 : 0 ≤ kd
  k5 : kd ≤ 5
  z : kd ≠ 3 → s = 0
theorem rd6 (a b c d e f : Int) (i : Int) (h0 : 0 ≤ i) (h1 : i < 6) : rd [a, b, c, d, e, f] i = a ∨ rd [a, b, c, d, e, f] i = b ∨ rd [a, b, c, d, e, f] i = c ∨ rd [a, b, c, d, e, f] i = d ∨ rd [a, b, c, d, e, f] i = e ∨ rd [a, b, c, d, e, f] i = f := by
  have : i = 0 ∨ i = 1 ∨ i = 2 ∨ i = 3 ∨ i = 4 ∨ i = 5 := by omega
  rcases this with rfl | rfl | rfl | rfl | rfl | rfl
  · exact Or.inl rfl
  · exact Or.inr (Or.inl rfl)
  · exact Or.inr (Or.inr (Or.inl rfl))
  · exact Or.inr (Or.inr (Or.inr (Or.inl rfl)))
  · exact Or.inr (Or.inr (Or.inr (Or.inr (Or.inl rfl))))
  · exact Or.inr (Or.inr (Or.inr (Or.inr (Or.inr rfl))))
theorem rd8 (a b c d e f g h : Int) (P : Int → Prop) (pa : P a) (pb : P b) (pc : P c) (pd : P d) (pe : P e) (pf : P f) (pg : P g) (ph : P h) (i : Int) (h0 : 0 ≤ i) (h1 : i < 8) : P (rd [a, b, c, d, e, f, g, h] i) := by
  have : i = 0 ∨ i = 1 ∨ i = 2 ∨ i = 3 ∨ i = 4 ∨ i = 5 ∨ i = 6 ∨ i = 7 := by omega
  rcases this with rfl | rfl | rfl | rfl | rfl | rfl | rfl | rfl
  · exact pa
  · exact pb
  · exact pc
  · exact pd
  · exact pe
  · exact pf
  · exact pg
  · exact ph
theorem I64_tdiv (a b : Int) (ha : I64 a) (hb : 2 ≤ b) : I64 (wrap64 (a.tdiv b)) ∧ wrap64 (a.tdiv b) = a.tdiv b := by
  have h := Int.natAbs_tdiv_le_natAbs a b
  have h2 : (a.tdiv b).natAbs ≤ 4611686018427387904 := by
    rw [Int.natAbs_tdiv]
    have h1 : a.natAbs ≤ 9223372036854775808 := by unfold I64 at ha; omega
    exact Nat.le_trans (Nat.div_le_div_left (show 2 ≤ b.natAbs by omega) (by decide)) (by have := Nat.div_le_div_right (c := 2) h1; simpa using this)
  have e : wrap64 (a.tdiv b) = a.tdiv b := wrap64_of (by omega) (by omega)
  rw [e]
  exact ⟨⟨by omega, by omega⟩, rfl⟩
theorem Make_eq (kind n : Int) (st : ByteArray) (hk : I64 kind) (hn : I64 n) (hs : st.size ≤ 140737488351232) :
    ∃ n' s' st', (∀ k, 60 < k → federationlaw1_Make.f k kind n st = some (kind % 6, n', ((s' : Nat) : Int), st')) ∧ Made (kind % 6) n' s' st' := by
  have hk6 := within_eq kind 6 hk (by decide) (by decide)
  have hb := emod_bd kind 6 (by decide)
  have hd := I64_tdiv kind 6 hk (by decide)
  have hd2 := I64_tdiv kind 36 hk (by decide)
  have h0 : I64 0 := ⟨by decide, by decide⟩
  have em : (⟨#[]⟩ : ByteArray).data.size ≤ 40 := by decide
  have c : kind % 6 = 0 ∨ kind % 6 = 1 ∨ kind % 6 = 2 ∨ kind % 6 = 3 ∨ kind % 6 = 4 ∨ kind % 6 = 5 := by omega
  rcases c with c | c | c | c | c | c
  · have hr : rightB (kind % 6) 0 ((0 : Nat) : Int) (⟨#[]⟩ : ByteArray) = true := by rw [c]; decide +kernel
    refine ⟨0, 0, _, fun k _ => ?_, ⟨hr, RV_right h0 hr, em, hb.1, by omega, fun _ => rfl⟩⟩
    unfold federationlaw1_Make.f federationlaw1_Make_p.f
    rw [hk6, c, if_neg (by decide), Option.bind_some, if_neg (by decide), if_neg (by decide), if_neg (by decide), if_neg (by decide), if_neg (by decide)]
    rfl
  · have hw := within_eq n 2 hn (by decide) (by decide)
    have hm := emod_bd n 2 (by decide)
    have hr : rightB (kind % 6) (n % 2) ((0 : Nat) : Int) (⟨#[]⟩ : ByteArray) = true := by
      rw [c]; unfold rightB; rw [if_neg (by decide), if_pos rfl, noS_empty, decide_eq_true (by omega)]; rfl
    refine ⟨n % 2, 0, _, fun k _ => ?_, ⟨hr, RV_right ⟨by omega, by omega⟩ hr, em, hb.1, by omega, fun _ => rfl⟩⟩
    unfold federationlaw1_Make.f federationlaw1_Make_p.f
    rw [hk6, c, if_neg (by decide), Option.bind_some, if_pos rfl, hw, Option.bind_some]
    rfl
  · have hw := within_eq n 100 hn (by decide) (by decide)
    have hm := emod_bd n 100 (by decide)
    have hi := within_eq (wrap64 (Int.tdiv kind 6)) 8 hd.1 (by decide) (by decide)
    have hj := emod_bd (wrap64 (Int.tdiv kind 6)) 8 (by decide)
    generalize hz : wrap64 (Int.tdiv kind 6) % 8 = j at hi hj
    have hrd : I64 (rd [n, 0, 1, -1, 9223372036854775807, -9223372036854775808, wrap64 (n % 100 - 50), 7] j) := by
      rw [wrap64_of (by omega) (by omega)]
      exact rd8 _ _ _ _ _ _ _ _ I64 hn ⟨by decide, by decide⟩ ⟨by decide, by decide⟩ ⟨by decide, by decide⟩ ⟨by decide, by decide⟩ ⟨by decide, by decide⟩ ⟨by omega, by omega⟩ ⟨by decide, by decide⟩ j hj.1 hj.2
    have hr : rightB (kind % 6) (rd [n, 0, 1, -1, 9223372036854775807, -9223372036854775808, wrap64 (n % 100 - 50), 7] j) ((0 : Nat) : Int) (⟨#[]⟩ : ByteArray) = true := by
      rw [c]; unfold rightB; rw [if_neg (by decide), if_neg (by decide), if_pos rfl, noS_empty]; rfl
    refine ⟨_, 0, _, fun k _ => ?_, ⟨hr, RV_right hrd hr, em, hb.1, by omega, fun _ => rfl⟩⟩
    unfold federationlaw1_Make.f federationlaw1_Make_p.f
    rw [hk6, c, if_neg (by decide), Option.bind_some, if_neg (by decide), if_pos rfl, hw, Option.bind_some, Option.bind_some, hi, Option.bind_some, if_pos hj.1, if_pos (by simp; omega)]
    rfl
  · have hw := within_eq n 2000 hn (by decide) (by decide)
    have hm := emod_bd n 2000 (by decide)
    have hw2 := within_eq n 50 hn (by decide) (by decide)
    have hm2 := emod_bd n 50 (by decide)
    have hi := within_eq (wrap64 (Int.tdiv kind 6)) 6 hd.1 (by decide) (by decide)
    have hj := emod_bd (wrap64 (Int.tdiv kind 6)) 6 (by decide)
    have hi2 := within_eq (wrap64 (Int.tdiv kind 36)) 7 hd2.1 (by decide) (by decide)
    have hj2 := emod_bd (wrap64 (Int.tdiv kind 36)) 7 (by decide)
    generalize hz : wrap64 (Int.tdiv kind 6) % 6 = j at hi hj
    generalize hz2 : wrap64 (Int.tdiv kind 36) % 7 = j2 at hi2 hj2
    have ht1 := Int.tmod_lt_of_pos n (show (0 : Int) < 1000000000000000 by decide)
    have ht2 := Int.tmod_lt_of_pos (-n) (show (0 : Int) < 1000000000000000 by decide)
    rw [Int.neg_tmod] at ht2
    have hx : -1000000000000000 < rd [Int.tmod n 1000000000000000, wrap64 (n % 2000 - 1000), 999999999999999, -999999999999999, 1, wrap64 (wrap64 (n % 50 * 1000) - 20000)] j ∧ rd [Int.tmod n 1000000000000000, wrap64 (n % 2000 - 1000), 999999999999999, -999999999999999, 1, wrap64 (wrap64 (n % 50 * 1000) - 20000)] j < 1000000000000000 := by
      have e1 : wrap64 (n % 2000 - 1000) = n % 2000 - 1000 := wrap64_of (by omega) (by omega)
      have e2 : wrap64 (n % 50 * 1000) = n % 50 * 1000 := wrap64_of (by omega) (by omega)
      have e3 : wrap64 (n % 50 * 1000 - 20000) = n % 50 * 1000 - 20000 := wrap64_of (by omega) (by omega)
      rw [e1, e2, e3]
      rcases rd6 (Int.tmod n 1000000000000000) (n % 2000 - 1000) 999999999999999 (-999999999999999) 1 (n % 50 * 1000 - 20000) j hj.1 hj.2 with h | h | h | h | h | h <;> rw [h] <;> omega
    obtain ⟨t, rfl⟩ : ∃ t : Nat, j2 = (t : Int) := ⟨j2.toNat, by omega⟩
    generalize hy : rd [Int.tmod n 1000000000000000, wrap64 (n % 2000 - 1000), 999999999999999, -999999999999999, 1, wrap64 (wrap64 (n % 50 * 1000) - 20000)] j = y at hx
    have hrd := RD_red y t hx.1 hx.2 (by omega)
    have hr := right_RD hrd
    rw [← c] at hr
    refine ⟨(red y t).1, (red y t).2, _, fun k hk => ?_, ⟨hr, RV_right ⟨by have := hrd.lo; omega, by have := hrd.hi; omega⟩ hr, em, hb.1, by omega, fun e => absurd c e⟩⟩
    unfold federationlaw1_Make.f federationlaw1_Make_p.f
    rw [hk6, c, if_neg (by decide), Option.bind_some, if_neg (by decide), if_neg (by decide), if_pos rfl, hw, Option.bind_some, hw2, Option.bind_some, Option.bind_some, hi, Option.bind_some, if_pos hj.1, if_pos (by simp; omega), hi2, Option.bind_some, hy, ref_Norm_eq k t y _ (by omega) (by omega) (by omega) (by omega), Option.bind_some]
  · have hr : rightB (kind % 6) 0 ((0 : Nat) : Int) (mkText st) = true := by
      have h1 := mkText_size st
      have h2 := mkText_ok st
      rw [c]; unfold rightB; rw [if_neg (by decide), if_neg (by decide), if_neg (by decide), if_neg (by decide), if_pos rfl, h2, decide_eq_true (by omega)]; rfl
    refine ⟨0, 0, _, fun k _ => ?_, ⟨hr, RV_right h0 hr, mkText_size st, hb.1, by omega, fun _ => rfl⟩⟩
    unfold federationlaw1_Make.f
    rw [hk6, c, if_pos rfl, if_pos hs]
    rfl
  · have hz : (st.size : Int) = (st.data.size : Int) := rfl
    have hm : mn (st.size : Int) 40 = ((min 40 st.data.size : Nat) : Int) := by unfold mn; split <;> omega
    have hr : rightB (kind % 6) 0 ((0 : Nat) : Int) (st.extract 0 (min 40 st.data.size)) = true := by
      have h1 := extract_size st (min 40 st.data.size)
      rw [c]; unfold rightB; rw [if_neg (by decide), if_neg (by decide), if_neg (by decide), if_neg (by decide), if_neg (by decide), if_pos rfl, decide_eq_true (by omega)]
    refine ⟨0, 0, _, fun k _ => ?_, ⟨hr, RV_right h0 hr, by rw [extract_size]; omega, hb.1, by omega, fun _ => rfl⟩⟩
    unfold federationlaw1_Make.f federationlaw1_Make_p.f
    rw [hk6, c, if_neg (by decide), Option.bind_some, if_neg (by decide), if_neg (by decide), if_neg (by decide), if_neg (by decide), if_pos rfl, hm, if_pos (by omega), if_pos (by omega)]
    rfl
end Go.Proofs.Ytjacflmgbmfhcaa.K
namespace Go.Proofs.Ytjacflmgbmfhcaa.K
open Go.RowKit Go.Proofs.YtjacflmgbmfhcaaW.PrintWords Go.Proofs.YtjacflmgbmfhcaaW.PrintLast Go.Proofs.YtjacflmgbmfhcaaW.PrintMore
attribute [local go_sem] max2_int min2_int max_two min_two max_three min_three max_four min_four
attribute [local go_sem high] own_gtr own_leq own_geq own_cell_set Option.map_some fld24_3
set_option linter.unusedVariables false
set_option linter.unusedSimpArgs false
def escL (xs : List Int) : List Int := xs.flatMap escOne ++ [0, 1]
theorem escAll_eq (s : ByteArray) : escAll s = escL (byteL s) := rfl
theorem escL_nil : escL [] = [0, 1] := rfl
theorem escL_cons (x : Int) (xs : List Int) : escL (x :: xs) = escOne x ++ escL xs := by simp [escL]
theorem escOne_isB {x : Int} (h : 0 ≤ x ∧ x < 256) : isB (escOne x) := by
  unfold escOne
  split
  · exact isB_cons (by omega) (isB_cons (by omega) isB_nil)
  · exact isB_cons h isB_nil
theorem escL_isB : ∀ {xs : List Int}, isB xs → isB (escL xs)
  | [], _ => isB_cons (by omega) (isB_cons (by omega) isB_nil)
  | x :: xs, h => by rw [escL_cons]; exact isB_append (escOne_isB (isB_head h)) (escL_isB (isB_tail h))
theorem escL_len : ∀ xs : List Int, 2 ≤ (escL xs).length ∧ (escL xs).length ≤ 2 * xs.length + 2
  | [] => by simp [escL_nil]
  | x :: xs => by
    have := escL_len xs
    have h := escOne_len x
    rw [escL_cons, List.length_append, List.length_cons]
    omega
theorem esc_less (u v : List Int) : ∀ xs ys : List Int, isB xs → isB ys → xs ≠ ys → lessL (escL xs ++ u) (escL ys ++ v) = lessL xs ys
  | [], [], _, _, h => absurd rfl h
  | [], y :: ys, _, hy, _ => by
    have := isB_head hy
    rw [escL_nil, escL_cons]
    unfold escOne
    split
    · simp [lessL]
    · have : 0 < y := by omega
      simp [lessL, this]
  | x :: xs, [], hx, _, _ => by
    have := isB_head hx
    rw [escL_nil, escL_cons]
    unfold escOne
    split
    · simp [lessL]
    · rename_i h
      have h2 : ¬ x < 0 := by omega
      simp [lessL, h, h2]
  | x :: xs, y :: ys, hx, hy, h => by
    have h1 := isB_head hx
    have h2 := isB_head hy
    rw [escL_cons, escL_cons, List.append_assoc, List.append_assoc]
    by_cases e : x = y
    · subst e
      rw [lessL_same, esc_less u v xs ys (isB_tail hx) (isB_tail hy) (fun h' => h (by rw [h']))]
      simp [lessL]
    · have e2 : (x == y) = false := by simpa using e
      unfold escOne
      by_cases a : x = 0
      · subst a
        rw [if_pos rfl, if_neg (fun h' => e h'.symm)]
        have : 0 < y := by omega
        simp [lessL, this]
      · rw [if_neg a]
        by_cases b : y = 0
        · subst b
          rw [if_pos rfl]
          simp [lessL, e2]
        · rw [if_neg b]
          simp [lessL, e2]
def txt : List Int → Option (List Int × Nat)
  | [] => none
  | [_] => none
  | x :: y :: m => if x = 0 then (if y = 255 then (txt m).map (fun p => (0 :: p.1, p.2 + 2)) else if y = 1 then some ([], 2) else none) else (txt (y :: m)).map (fun p => (x :: p.1, p.2 + 1))
theorem txt_cons {x : Int} (h : x ≠ 0) (l : List Int) : txt (x :: l) = (txt l).map (fun p => (x :: p.1, p.2 + 1)) := by
  cases l with
  | nil => rfl
  | cons y m => rw [txt, if_neg h]
theorem txt_esc (more : List Int) : ∀ xs : List Int, txt (escL xs ++ more) = some (xs, (escL xs).length)
  | [] => by
    rw [escL_nil, List.cons_append, List.cons_append, txt, if_pos rfl, if_neg (by decide), if_pos rfl]; rfl
  | x :: xs => by
    have ih := txt_esc more xs
    rw [escL_cons, List.append_assoc]
    unfold escOne
    by_cases h : x = 0
    · subst h
      rw [if_pos rfl, List.cons_append, List.cons_append, List.nil_append, txt, if_pos rfl, if_pos rfl, ih]
      simp
    · rw [if_neg h, List.cons_append, List.nil_append, txt_cons h, ih]
      simp
def txtRes (acc : List Int) (i : Nat) : Option (List Int × Nat) → ByteArray × Int × Bool
  | none => ((⟨#[]⟩ : ByteArray), 0, false)
  | some p => (strOfNums (acc ++ p.1), ((i + p.2 : Nat) : Int), true)
theorem txtRes_map1 (acc : List Int) (i : Nat) (x : Int) (r : Option (List Int × Nat)) : txtRes acc i (r.map (fun p => (x :: p.1, p.2 + 1))) = txtRes (acc ++ [x]) (i + 1) r := by
  cases r with
  | none => rfl
  | some p => simp only [Option.map_some, txtRes]; rw [List.append_assoc, show i + (p.2 + 1) = i + 1 + p.2 by omega]; rfl
theorem txtRes_map2 (acc : List Int) (i : Nat) (x : Int) (r : Option (List Int × Nat)) : txtRes acc i (r.map (fun p => (x :: p.1, p.2 + 2))) = txtRes (acc ++ [x]) (i + 2) r := by
  cases r with
  | none => rfl
  | some p => simp only [Option.map_some, txtRes]; rw [List.append_assoc, show i + (p.2 + 2) = i + 2 + p.2 by omega]; rfl
theorem key_text_l0 (L : List Int) (hL : isB L) (hlen : L.length ≤ 100000) : ∀ (d k i : Nat) (acc : List Int), 2 * d + 2 < k → i + d = L.length → acc.length + d ≤ 100000 → key_text.l0 k (strOfNums L) acc (i : Int) = some (txtRes acc i (txt (L.drop i))) := by
  intro d
  induction d using Nat.strongRecOn with
  | _ d ih =>
    intro k i acc hk hd ha
    have hz := son_size L
    obtain ⟨k, rfl⟩ : ∃ m, k = m + 1 := ⟨k - 1, by omega⟩
    simp only [key_text.l0]
    by_cases h : i < L.length
    · rw [if_pos (by omega), if_pos (by omega), bt_son hL i h, List.drop_eq_getElem_cons h]
      by_cases h0 : L[i] = 0
      · rw [if_pos h0, h0, wrap64_of (by omega) (by omega)]
        obtain ⟨k, rfl⟩ : ∃ m, k = m + 1 := ⟨k - 1, by omega⟩
        by_cases h1 : i + 1 < L.length
        · rw [if_pos (by omega), if_pos (by omega), show (i : Int) + 1 = ((i + 1 : Nat) : Int) by omega, bt_son hL (i + 1) h1, List.drop_eq_getElem_cons h1]
          simp only [key_text.j1]
          rw [txt, if_pos rfl]
          by_cases h2 : L[i + 1] = 255
          · rw [if_pos (by simpa using h2), if_pos (by omega), if_pos h2, txtRes_map2, wrap64_of (by omega) (by omega), show ((i + 1 : Nat) : Int) + 1 = ((i + 2 : Nat) : Int) by omega]
            exact ih (d - 2) (by omega) k (i + 2) (acc ++ [0]) (by omega) (by omega) (by simp; omega)
          · rw [if_neg (by simpa using h2), if_neg h2, if_pos (by omega), if_pos (by omega), bt_son hL (i + 1) h1]
            by_cases h3 : L[i + 1] = 1
            · rw [if_pos h3, if_pos h3, wrap64_of (by omega) (by omega)]
              simp only [txtRes, List.append_nil]
              rw [show ((i + 1 : Nat) : Int) + 1 = ((i + 2 : Nat) : Int) by omega]
            · rw [if_neg h3, if_neg h3]; rfl
        · rw [if_neg (by omega), List.drop_of_length_le (by omega)]
          simp only [key_text.j1]
          rw [if_neg (by decide), if_neg (by omega)]; rfl
      · rw [if_neg h0, if_pos (by omega), txt_cons h0, txtRes_map1, wrap64_of (by omega) (by omega), show (i : Int) + 1 = ((i + 1 : Nat) : Int) by omega]
        exact ih (d - 1) (by omega) k (i + 1) (acc ++ [L[i]]) (by omega) (by omega) (by simp; omega)
    · rw [if_neg (by omega), List.drop_of_length_le (by omega)]; rfl
theorem key_text_eq (L : List Int) (hL : isB L) (hlen : L.length ≤ 100000) (k : Nat) (hk : 2 * L.length + 2 < k) : key_text.f k (strOfNums L) = some (txtRes [] 0 (txt L)) := by
  have := key_text_l0 L hL hlen L.length k 0 [] hk (by omega) (by simpa using hlen)
  exact this
theorem tdm (n p : Int) (hp : 0 < p) : (n.tmod p < 0 ∧ n / p = n.tdiv p - 1 ∧ n % p = n.tmod p + p) ∨ (¬ n.tmod p < 0 ∧ n / p = n.tdiv p ∧ n % p = n.tmod p) := by
  have e1 := Int.mul_tdiv_add_tmod n p
  have e5 := Int.tmod_lt_of_pos n hp
  have e6 := Int.tmod_lt_of_pos (-n) hp
  rw [Int.neg_tmod] at e6
  by_cases c : n.tmod p < 0
  · have := (Int.ediv_emod_unique (a := n) (r := n.tmod p + p) (q := n.tdiv p - 1) hp).2 ⟨by rw [Int.mul_sub, Int.mul_one]; omega, by omega, by omega⟩
    exact Or.inl ⟨c, this.1, this.2⟩
  · have := (Int.ediv_emod_unique (a := n) (r := n.tmod p) (q := n.tdiv p) hp).2 ⟨by omega, by omega, by omega⟩
    exact Or.inr ⟨c, this.1, this.2⟩
theorem key_scaled_l0 (kd n : Int) (s : Nat) (st : ByteArray) (hs : s ≤ 6) (h0 : -1000000000000000 < n) (h1 : n < 1000000000000000) : ∀ (d k i : Nat), d < k → i + d = s → key_scaled.l0 k (p10 i) (s : Int) (i : Int) kd n (s : Int) st = some (n / p10 s, n % p10 s * p10 (6 - s))
  | 0, k, i, hk, hd => by
    obtain ⟨k, rfl⟩ : ∃ m, k = m + 1 := ⟨k - 1, by omega⟩
    obtain rfl : i = s := by omega
    have hp := p10_pos i
    have hp6 := p10_mono (m := i) (n := 6) hs
    have e6 := p10_six
    have hq := p10_six_sub i hs
    have hq0 := p10_pos (6 - i)
    have ht := tdiv_pows i hs
    rw [e6] at ht
    have hq1 := p10_mono (m := 6 - i) (n := 6) (by omega)
    have hd := ediv_small hp h0 h1
    have hm0 := Int.emod_nonneg n (show p10 i ≠ 0 by omega)
    have hm1 := Int.emod_lt_of_pos n hp
    have hmul : n % p10 i * p10 (6 - i) ≤ p10 i * p10 (6 - i) := Int.mul_le_mul_of_nonneg_right (by omega) (by omega)
    have hmul0 : 0 ≤ n % p10 i * p10 (6 - i) := Int.mul_nonneg hm0 (by omega)
    simp only [key_scaled.l0]
    rw [if_neg (by omega), if_neg (by omega), ht, wrap64_of (x := p10 (6 - i)) (by omega) (by omega)]
    rcases tdm n (p10 i) hp with ⟨c, e1, e2⟩ | ⟨c, e1, e2⟩
    · rw [if_pos c, wrap64_of (x := n.tdiv (p10 i)) (by omega) (by omega), wrap64_of (x := n.tdiv (p10 i) - 1) (by omega) (by omega), wrap64_of (x := n.tmod (p10 i) + p10 i) (by omega) (by omega), ← e1, ← e2, wrap64_of (by omega) (by omega)]
    · rw [if_neg c, wrap64_of (x := n.tdiv (p10 i)) (by omega) (by omega), ← e1, ← e2, wrap64_of (by omega) (by omega)]
  | d + 1, k, i, hk, hd => by
    obtain ⟨k, rfl⟩ : ∃ m, k = m + 1 := ⟨k - 1, by omega⟩
    have hp := p10_le (i + 1) (by omega)
    have hp0 := p10_pos (i + 1)
    simp only [key_scaled.l0]
    rw [if_pos (by omega), ← p10_succ, wrap64_of (by omega) (by omega), wrap64_of (by omega) (by omega), show (i : Int) + 1 = ((i + 1 : Nat) : Int) by omega]
    exact key_scaled_l0 kd n s st hs h0 h1 d k (i + 1) (by omega) (by omega)
theorem key_scaled_eq (k : Nat) (kd n : Int) (s : Nat) (st : ByteArray) (hk : 6 < k) (h : RD n s) : key_scaled.f k kd n (s : Int) st = some (n / p10 s, n % p10 s * p10 (6 - s)) := by
  have hs := h.sc
  exact key_scaled_l0 kd n s st hs h.lo h.hi s k 0 (by omega) (by omega)
def keyB (kd n : Int) (s : Nat) (st : ByteArray) : List Int :=
  if kd = 1 then [n] else if kd = 2 then be (n + 9223372036854775808) 8
  else if kd = 3 then be (n / p10 s + 9223372036854775808) 8 ++ be (n % p10 s * p10 (6 - s)) 4
  else if kd = 4 ∨ kd = 5 then escL (byteL st) else []
def keyL (kd n : Int) (s : Nat) (st : ByteArray) : List Int := kd :: keyB kd n s st
theorem right_bool {n sc : Int} {st : ByteArray} (h : rightB 1 n sc st = true) : 0 ≤ n ∧ n ≤ 1 := by
  unfold rightB at h
  rw [if_neg (by decide), if_pos rfl] at h
  simp only [Bool.and_eq_true, decide_eq_true_eq] at h
  exact h.1
theorem keyB_isB {kd n : Int} {s : Nat} {st : ByteArray} (m : Made kd n s st) : isB (keyB kd n s st) := by
  unfold keyB
  by_cases h1 : kd = 1
  · subst h1
    have := right_bool m.r
    rw [if_pos rfl]
    exact isB_cons (by omega) isB_nil
  rw [if_neg h1]
  by_cases h2 : kd = 2
  · rw [if_pos h2]; exact be_isB _ _
  rw [if_neg h2]
  by_cases h3 : kd = 3
  · rw [if_pos h3]; exact isB_append (be_isB _ _) (be_isB _ _)
  rw [if_neg h3]
  split
  · exact escL_isB (byteL_isB st)
  · exact isB_nil
theorem keyL_isB {kd n : Int} {s : Nat} {st : ByteArray} (m : Made kd n s st) : isB (keyL kd n s st) :=
  isB_cons (by have := m.k0; have := m.k5; omega) (keyB_isB m)
theorem keyB_len {kd n : Int} {s : Nat} {st : ByteArray} (m : Made kd n s st) : (keyB kd n s st).length ≤ 82 := by
  have h := escL_len (byteL st)
  rw [byteL_len] at h
  have hz : st.size = st.data.size := rfl
  have := m.sz
  unfold keyB
  split
  · simp
  split
  · rw [be_len]; omega
  split
  · rw [List.length_append, be_len, be_len]; omega
  split
  · omega
  · simp
theorem key_Key_eq {kd n : Int} {s : Nat} {st : ByteArray} (m : Made kd n s st) (k : Nat) (hk : 20 < k) : key_Key.f k kd n (s : Int) st = some (strOfNums (keyL kd n s st)) := by
  have hz : st.size = st.data.size := rfl
  have hsz := m.sz
  have he := escL_len (byteL st)
  rw [byteL_len] at he
  have k0 := m.k0
  have k5 := m.k5
  have hm : kd % 256 = kd := by omega
  unfold key_Key.f keyL keyB
  by_cases h4 : kd = 4
  · subst h4
    rw [if_pos rfl, if_pos (by omega), escAll_eq, if_pos (by omega), if_neg (by decide), if_neg (by decide), if_neg (by decide), if_pos (Or.inl rfl)]
  rw [if_neg h4]
  by_cases h5 : kd = 5
  · subst h5
    rw [if_pos rfl, if_pos (by omega), escAll_eq, if_pos (by omega), if_neg (by decide), if_neg (by decide), if_neg (by decide), if_pos (Or.inr rfl)]
  rw [if_neg h5]
  unfold key_Key_p.f
  rw [Option.bind_some, hm]
  by_cases h1 : kd = 1
  · subst h1
    have := right_bool m.r
    rw [if_pos rfl, if_pos rfl, if_pos (by simp), show n % 256 = n by omega]; rfl
  rw [if_neg h1, if_neg h1]
  by_cases h2 : kd = 2
  · rw [if_pos h2, if_pos h2, key_signed_eq k n (by omega), Option.bind_some, if_pos (by rw [be_len]; simp)]; rfl
  rw [if_neg h2, if_neg h2]
  by_cases h3 : kd = 3
  · have hd := m.v.d h3
    have hs := hd.sc
    obtain ⟨k, rfl⟩ : ∃ j, k = j + 1 := ⟨k - 1, by omega⟩
    rw [if_pos h3, if_pos h3, if_neg (by omega), decide_eq_false (by omega)]
    simp only [key_Key_p.j0]
    have e4 := key_number_eq (n % p10 s * p10 (6 - s)) 4 k (by omega) (by decide) (by decide)
    rw [if_neg (by decide), key_scaled_eq k kd n s st (by omega) hd, Option.bind_some]
    dsimp only
    rw [key_signed_eq k _ (by omega), Option.bind_some, if_pos (by rw [be_len]; simp), Option.bind_some, show (4 : Int) = ((4 : Nat) : Int) from rfl, e4, Option.bind_some, if_pos (by simp [be_len]), List.append_assoc]
    rfl
  · rw [if_neg h3, if_neg h3, if_neg h4, if_neg h5, if_neg (by omega)]
end Go.Proofs.Ytjacflmgbmfhcaa.K
namespace Go.Proofs.Ytjacflmgbmfhcaa.K
open Go.RowKit Go.Proofs.YtjacflmgbmfhcaaW.PrintWords Go.Proofs.YtjacflmgbmfhcaaW.PrintLast Go.Proofs.YtjacflmgbmfhcaaW.PrintMore
attribute [local go_sem] max2_int min2_int max_two min_two max_three min_three max_four min_four
attribute [local go_sem high] own_gtr own_leq own_geq own_cell_set Option.map_some fld24_3
set_option linter.unusedVariables false
set_option linter.unusedSimpArgs false
theorem cmpT_lt (a b : ByteArray) : decide (cmpT a b < 0) = Op.bytesLess a.toList b.toList := by
  unfold cmpT
  cases h : Op.bytesLess a.toList b.toList with
  | true => simp
  | false => cases Op.bytesLess b.toList a.toList <;> simp
theorem cmpT_zero (a b : ByteArray) : (cmpT a b == 0) = (a.toList == b.toList) := by
  unfold cmpT
  rcases bytesLess_total a.toList b.toList with h | h | h
  · have : a.toList ≠ b.toList := by intro e; rw [e, bytesLess_irrefl] at h; cases h
    rw [if_pos h]; simp [this]
  · rw [h, bytesLess_irrefl]; simp
  · have h2 := bytesLess_asymm _ _ h
    have : a.toList ≠ b.toList := by intro e; rw [e, bytesLess_irrefl] at h; cases h
    rw [h2, h]; simp [this]
theorem right_empty {kd n sc : Int} {st : ByteArray} (h : rightB kd n sc st = true) (h0 : 0 ≤ kd) (h3 : kd ≤ 3) : st.toList = [] := by
  have e : noS st = true := by
    unfold rightB at h
    have c : kd = 0 ∨ kd = 1 ∨ kd = 2 ∨ kd = 3 := by omega
    rcases c with rfl | rfl | rfl | rfl
    · simp only [if_true, Bool.and_eq_true] at h; exact h.2.2
    · rw [if_neg (by decide), if_pos rfl] at h; simp only [Bool.and_eq_true] at h; exact h.2.2
    · rw [if_neg (by decide), if_neg (by decide), if_pos rfl] at h; simp only [Bool.and_eq_true] at h; exact h.2
    · rw [if_neg (by decide), if_neg (by decide), if_neg (by decide), if_pos rfl] at h; simp only [Bool.and_eq_true] at h; exact h.2
  simpa [noS] using e
theorem right_null {n sc : Int} {st : ByteArray} (h : rightB 0 n sc st = true) : n = 0 ∧ sc = 0 := by
  unfold rightB at h
  simp only [if_true, Bool.and_eq_true, beq_iff_eq] at h
  exact ⟨h.1, h.2.1⟩
theorem mic_inj {n1 n2 : Int} {s1 s2 : Nat} (h1 : RD n1 s1) (h2 : RD n2 s2) (h : n1 * p10 (6 - s1) = n2 * p10 (6 - s2)) : n1 = n2 ∧ s1 = s2 := by
  have a := red_same n1 s1 h1.nm
  have b := red_same n2 s2 h2.nm
  have c := red_tens n1 (6 - s1) s1
  have d := red_tens n2 (6 - s2) s2
  have e1 : s1 + (6 - s1) = 6 := by have := h1.sc; omega
  have e2 : s2 + (6 - s2) = 6 := by have := h2.sc; omega
  rw [e1, a] at c
  rw [e2, b, ← h, c] at d
  simpa using d
end Go.Proofs.Ytjacflmgbmfhcaa.K
namespace Go.Proofs.Ytjacflmgbmfhcaa.K
open Go.RowKit Go.Proofs.YtjacflmgbmfhcaaW.PrintWords Go.Proofs.YtjacflmgbmfhcaaW.PrintLast Go.Proofs.YtjacflmgbmfhcaaW.PrintMore
attribute [local go_sem] max2_int min2_int max_two min_two max_three min_three max_four min_four
attribute [local go_sem high] own_gtr own_leq own_geq own_cell_set Option.map_some fld24_3
set_option linter.unusedVariables false
set_option linter.unusedSimpArgs false
theorem orLow (x b : Int) (h0 : 0 ≤ b) (h1 : b < 256) : Go.bits .or .i64 (wrap64 (x * 256)) b = wrap64 (x * 256 + b) := by
  have a1 := toNat_ofInt (wrap64 (x * 256))
  have b1 := toNat_ofInt b
  show IntKind.i64.wrap ((BitVec.ofInt 64 (wrap64 (x * 256)) ||| BitVec.ofInt 64 b).toNat : Int) = _
  rw [BitVec.toNat_or, i64_wrap]
  generalize (BitVec.ofInt 64 (wrap64 (x * 256))).toNat = r at *
  generalize (BitVec.ofInt 64 b).toNat = t at *
  have a2 : (r : Int) = (x * 256) % 18446744073709551616 := by rw [a1]; unfold wrap64; omega
  have b2 : (t : Int) = b := by rw [b1]; omega
  obtain ⟨q, rfl⟩ : ∃ q, r = 2 ^ 8 * q := ⟨r / 256, by omega⟩
  rw [← Nat.two_pow_add_eq_or_of_lt (show t < 2 ^ 8 by omega) q]
  have : ((2 ^ 8 * q + t : Nat) : Int) = (x * 256) % 18446744073709551616 + b := by
    rw [← a2, ← b2]; omega
  rw [this]
  unfold wrap64
  omega
theorem wrap64_congr {a b : Int} (h : a % 18446744073709551616 = b % 18446744073709551616) : wrap64 a = wrap64 b := by
  unfold wrap64; omega
theorem wrap64_emod (a : Int) : wrap64 a % 18446744073709551616 = a % 18446744073709551616 := by unfold wrap64; omega
theorem key_unsigned_l0 (L : List Int) (hL : isB L) (hlen : L.length ≤ 100000) : ∀ (d k i : Nat) (a : Int), d < k → i + d = L.length → key_unsigned.l0 k (strOfNums L) (wrap64 a) (i : Int) = some (wrap64 ((L.drop i).foldl (fun a b => a * 256 + b) a))
  | 0, k, i, a, hk, hd => by
    obtain ⟨k, rfl⟩ : ∃ m, k = m + 1 := ⟨k - 1, by omega⟩
    have hz := son_size L
    simp only [key_unsigned.l0]
    rw [if_neg (by omega), List.drop_of_length_le (by omega)]; rfl
  | d + 1, k, i, a, hk, hd => by
    obtain ⟨k, rfl⟩ : ∃ m, k = m + 1 := ⟨k - 1, by omega⟩
    have hz := son_size L
    have hi : i < L.length := by omega
    have hb := hL _ (List.getElem_mem hi)
    simp only [key_unsigned.l0]
    rw [if_pos (by omega), if_pos (by omega), bt_son hL i hi, wrap64_of (x := L[i]) (by omega) (by omega), orLow _ _ hb.1 hb.2, wrap64_of (x := (i : Int) + 1) (by omega) (by omega), show (i : Int) + 1 = ((i + 1 : Nat) : Int) by omega,
      wrap64_congr (a := wrap64 a * 256 + L[i]) (b := a * 256 + L[i]) (by have := wrap64_emod a; omega), key_unsigned_l0 L hL hlen d k (i + 1) _ (by omega) (by omega), List.drop_eq_getElem_cons hi, List.foldl_cons]
theorem key_unsigned_eq (L : List Int) (hL : isB L) (hlen : L.length ≤ 100000) (k : Nat) (hk : L.length < k) : key_unsigned.f k (strOfNums L) = some (wrap64 (num256 L)) := by
  have := key_unsigned_l0 L hL hlen L.length k 0 0 hk (by omega)
  rw [show wrap64 0 = 0 by unfold wrap64; omega] at this
  unfold key_unsigned.f
  exact this
theorem key_front_eq (L : List Int) (n : Nat) : key_front.f (strOfNums L) (n : Int) = some (if L.length < n then ((⟨#[]⟩ : ByteArray), false) else (strOfNums (L.take n), true)) := by
  have hz := son_size L
  unfold key_front.f
  by_cases h : L.length < n
  · rw [if_pos (by omega), if_pos h]
  · rw [if_neg (by omega), if_neg h, if_pos (by omega), if_pos (by omega), Int.toNat_natCast, son_take]
def decOut (w f : Int) (s : Nat) (x : Int) : Int × Int × Int × ByteArray × Int × Bool :=
  if w < -(1000000000000000 / p10 s) then (0, 0, 0, (⟨#[]⟩ : ByteArray), 0, false) else if w > 1000000000000000 / p10 s then (0, 0, 0, (⟨#[]⟩ : ByteArray), 0, false) else (3, w * p10 s + f, (s : Int), (⟨#[]⟩ : ByteArray), x, true)
theorem most_div (s : Nat) (hs : s ≤ 6) : Int.tdiv (1000000000000000 : Int) (p10 s) = 1000000000000000 / p10 s ∧ Int.tdiv (-1000000000000000 : Int) (p10 s) = -(1000000000000000 / p10 s) ∧ 1000000000000000 / p10 s * p10 s = 1000000000000000 := by
  have : s = 0 ∨ s = 1 ∨ s = 2 ∨ s = 3 ∨ s = 4 ∨ s = 5 ∨ s = 6 := by omega
  rcases this with rfl | rfl | rfl | rfl | rfl | rfl | rfl <;> exact ⟨by decide, by decide, by decide⟩
theorem dec_end (w f : Int) (s : Nat) (x : Int) (hs : s ≤ 6) (h0 : 0 ≤ f) (h1 : f < p10 s) :
    (if p10 s = 0 then none else (if w < (wrap64 (Int.tdiv (-1000000000000000) (p10 s))) then (some (0, 0, 0, (⟨#[]⟩ : ByteArray), 0, false)) else (if w > (wrap64 (Int.tdiv (1000000000000000 : Int) (p10 s))) then (some (0, 0, 0, (⟨#[]⟩ : ByteArray), 0, false)) else (some (3, wrap64 ((wrap64 (w * (p10 s))) + f), (s : Int), (⟨#[]⟩ : ByteArray), x, true))))) = some (decOut w f s x) := by
  have hp := p10_pos s
  have hp6 := p10_mono (m := s) (n := 6) hs
  have e6 := p10_six
  obtain ⟨a1, a2, a3⟩ := most_div s hs
  have b0 : 0 ≤ 1000000000000000 / p10 s := Int.ediv_nonneg (by decide) (by omega)
  have b1 : 1000000000000000 / p10 s ≤ 1000000000000000 := Int.ediv_le_self _ (by decide)
  rw [if_neg (by omega), a1, a2, wrap64_of (x := -(1000000000000000 / p10 s)) (by omega) (by omega), wrap64_of (x := 1000000000000000 / p10 s) (by omega) (by omega)]
  unfold decOut
  by_cases c1 : w < -(1000000000000000 / p10 s)
  · rw [if_pos c1, if_pos c1]
  rw [if_neg c1, if_neg c1]
  by_cases c2 : w > 1000000000000000 / p10 s
  · rw [if_pos c2, if_pos c2]
  rw [if_neg c2, if_neg c2]
  have m1 : w * p10 s ≤ 1000000000000000 / p10 s * p10 s := Int.mul_le_mul_of_nonneg_right (by omega) (by omega)
  have m2 : -(1000000000000000 / p10 s) * p10 s ≤ w * p10 s := Int.mul_le_mul_of_nonneg_right (by omega) (by omega)
  rw [Int.neg_mul] at m2
  rw [wrap64_of (x := w * p10 s) (by omega) (by omega), wrap64_of (by omega) (by omega)]
theorem key_decimal_l0 (w x : Int) : ∀ (s k : Nat) (f : Int), s < k → s ≤ 6 → 0 ≤ f → f < p10 s → key_decimal.l0 k w f x (p10 s) (s : Int) = some (decOut w (red f s).1 (red f s).2 x)
  | 0, k, f, hk, hs, h0, h1 => by
    obtain ⟨k, rfl⟩ : ∃ m, k = m + 1 := ⟨k - 1, by omega⟩
    simp only [key_decimal.l0]
    rw [if_neg (by omega)]
    exact dec_end w f 0 x hs h0 h1
  | s + 1, k, f, hk, hs, h0, h1 => by
    obtain ⟨k, rfl⟩ : ∃ m, k = m + 1 := ⟨k - 1, by omega⟩
    have hp := p10_pos s
    have hp6 := p10_mono (m := s + 1) (n := 6) hs
    have e6 := p10_six
    have e := p10_succ s
    simp only [key_decimal.l0]
    rw [if_pos (by omega)]
    simp only [red]
    by_cases h : f % 10 = 0
    · rw [if_pos ((tmod10 f).2 h), if_pos h, tdiv10 f h, tdiv10 (p10 (s + 1)) (by omega), show p10 (s + 1) / 10 = p10 s by omega, wrap64_of (by omega) (by omega), wrap64_of (by omega) (by omega), wrap64_of (by omega) (by omega), show ((s + 1 : Nat) : Int) - 1 = (s : Int) by omega]
      exact key_decimal_l0 w x s k (f / 10) (by omega) (by omega) (by omega) (by omega)
    · rw [if_neg (fun e => h ((tmod10 f).1 e)), if_neg h]
      exact dec_end w f (s + 1) x hs h0 h1
theorem red_parts (n : Int) (s : Nat) (h : RD n s) : n / p10 s * p10 (red (n % p10 s * p10 (6 - s)) 6).2 + (red (n % p10 s * p10 (6 - s)) 6).1 = n ∧ (red (n % p10 s * p10 (6 - s)) 6).2 = s := by
  have hs := h.sc
  have hp := p10_pos s
  have e1 : red (n % p10 s * p10 (6 - s)) 6 = red (n % p10 s) s := by
    have := red_tens (n % p10 s) (6 - s) s
    rw [show s + (6 - s) = 6 by omega] at this
    exact this
  have hm := Int.mul_ediv_add_emod n (p10 s)
  have e2 : red (n % p10 s) s = (n % p10 s, s) := by
    apply red_same
    rcases h.nm with h' | h'
    · exact Or.inl h'
    · cases s with
      | zero => exact Or.inl rfl
      | succ s =>
        right
        rw [p10_succ] at hm ⊢
        rw [Int.mul_assoc, Int.mul_comm (p10 s), Int.mul_assoc] at hm
        omega
  rw [e1, e2]
  exact ⟨by dsimp only; rw [Int.mul_comm]; exact hm, rfl⟩
theorem whole_bounds (n : Int) (s : Nat) (h : RD n s) : -(1000000000000000 / p10 s) ≤ n / p10 s ∧ n / p10 s ≤ 1000000000000000 / p10 s := by
  have hs := h.sc
  have hp := p10_pos s
  obtain ⟨_, _, a3⟩ := most_div s hs
  have h0 := h.lo
  have h1 := h.hi
  constructor
  · rw [Int.le_ediv_iff_mul_le hp, Int.neg_mul]; omega
  · exact Int.ediv_le_ediv hp (by omega)
theorem decimal_back (n : Int) (s : Nat) (x : Int) (k : Nat) (hk : 6 < k) (h : RD n s) : key_decimal.f k (n / p10 s) (n % p10 s * p10 (6 - s)) x = some (3, n, (s : Int), (⟨#[]⟩ : ByteArray), x, true) := by
  have hs := h.sc
  have hp := p10_pos s
  have hq := p10_six_sub s hs
  have hq0 := p10_pos (6 - s)
  have e6 := p10_six
  have hm0 := Int.emod_nonneg n (show p10 s ≠ 0 by omega)
  have hm1 := Int.emod_lt_of_pos n hp
  have hmul : n % p10 s * p10 (6 - s) ≤ (p10 s - 1) * p10 (6 - s) := Int.mul_le_mul_of_nonneg_right (by omega) (by omega)
  rw [Int.sub_mul, Int.one_mul] at hmul
  have hmul0 : 0 ≤ n % p10 s * p10 (6 - s) := Int.mul_nonneg hm0 (by omega)
  unfold key_decimal.f
  rw [if_neg (by omega)]
  have := key_decimal_l0 (n / p10 s) x 6 k (n % p10 s * p10 (6 - s)) hk (by decide) hmul0 (by omega)
  rw [p10_six] at this
  obtain ⟨r1, r2⟩ := red_parts n s h
  have hw := whole_bounds n s h
  rw [show ((6 : Nat) : Int) = 6 from rfl] at this
  rw [this]
  unfold decOut
  rw [r1, r2, if_neg (by omega), if_neg (by omega)]
theorem num_back (a : Int) (h : I64 a) : Go.bits .xor .i64 (wrap64 (num256 (be (a + 9223372036854775808) 8))) (-9223372036854775808) = a := by
  rw [xorMin, num256_be, p256_8]
  unfold I64 at h
  unfold wrap64
  omega
theorem I64_ediv {n : Int} {s : Nat} (h : RD n s) : I64 (n / p10 s) := by
  have := ediv_small (p10_pos s) h.lo h.hi
  unfold I64; omega
theorem st_empty {st : ByteArray} (h : st.toList = []) : st = ⟨#[]⟩ := toList_inj.1 (h.trans (show [] = (⟨#[]⟩ : ByteArray).toList by decide +kernel))
theorem key_read_eq {kd n : Int} {s : Nat} {st : ByteArray} (m : Made kd n s st) (more : List Int) (hm : isB more) (hl : more.length ≤ 5000) (k : Nat) (hk : 12000 < k) :
    key_read.f k kd 0 0 (⟨#[]⟩ : ByteArray) (strOfNums (keyB kd n s st ++ more)) = some (kd, n, (s : Int), st, ((keyB kd n s st).length : Int), true) := by
  obtain ⟨k, rfl⟩ : ∃ j, k = j + 1 := ⟨k - 1, by omega⟩
  have hb := keyB_isB m
  have hlen := keyB_len m
  have k0 := m.k0
  have k5 := m.k5
  have hr := m.r
  have hB := isB_append hb hm
  unfold key_read.f
  by_cases h1 : kd = 1
  · subst h1
    have hn := right_bool m.r
    have hs := m.z (by decide)
    have hst := right_empty m.r (by decide) (by decide)
    obtain rfl : st = ⟨#[]⟩ := st_empty hst
    subst hs
    have eB : keyB 1 n 0 (⟨#[]⟩ : ByteArray) = [n] := rfl
    rw [eB] at hB ⊢
    have hf := key_front_eq ([n] ++ more) 1
    rw [if_neg (by simp)] at hf
    rw [if_pos rfl]
    simp only [key_read.j0]
    rw [show ((1 : Nat) : Int) = 1 from rfl] at hf
    rw [hf, Option.bind_some]
    simp only [reduceIte, Int.reduceEq]
    rw [key_unsigned_eq _ (isB_take hB 1) (by simp) k (by simp; omega), Option.bind_some]
    have : num256 ([n] ++ more |>.take 1) = n := by simp [num256]
    rw [this, wrap64_of (by omega) (by omega)]; rfl
  rw [if_neg h1]
  by_cases h2 : kd = 2
  · subst h2
    have hn := m.v.i
    have hs := m.z (by decide)
    have hst := right_empty m.r (by decide) (by decide)
    obtain rfl : st = ⟨#[]⟩ := st_empty hst
    subst hs
    have eB : keyB 2 n 0 (⟨#[]⟩ : ByteArray) = be (n + 9223372036854775808) 8 := rfl
    rw [eB] at hB ⊢
    have hf := key_front_eq (be (n + 9223372036854775808) 8 ++ more) 8
    rw [if_neg (by rw [List.length_append, be_len]; omega), List.take_append_of_le_length (by rw [be_len]; decide), List.take_of_length_le (by rw [be_len]; decide)] at hf
    rw [if_pos rfl]
    simp only [key_read.j0]
    rw [show ((8 : Nat) : Int) = 8 from rfl] at hf
    rw [hf, Option.bind_some]
    simp only [reduceIte, Int.reduceEq]
    rw [key_unsigned_eq _ (be_isB _ 8) (by rw [be_len]; decide) k (by rw [be_len]; omega), Option.bind_some, num_back n hn, be_len]
    rfl
  rw [if_neg h2]
  by_cases h3 : kd = 3
  · subst h3
    have hd := m.v.d rfl
    have hst := right_empty m.r (by decide) (by decide)
    obtain rfl : st = ⟨#[]⟩ := st_empty hst
    have eB : keyB 3 n s (⟨#[]⟩ : ByteArray) = be (n / p10 s + 9223372036854775808) 8 ++ be (n % p10 s * p10 (6 - s)) 4 := rfl
    have hl12 : (keyB 3 n s (⟨#[]⟩ : ByteArray)).length = 12 := by rw [eB, List.length_append, be_len, be_len]
    have hf := key_front_eq (keyB 3 n s (⟨#[]⟩ : ByteArray) ++ more) 12
    rw [if_neg (by rw [List.length_append]; omega), List.take_append_of_le_length (by omega), List.take_of_length_le (by omega)] at hf
    rw [hl12, if_pos rfl]
    simp only [key_read.j0]
    rw [show ((12 : Nat) : Int) = 12 from rfl] at hf
    rw [hf, Option.bind_some]
    simp only [reduceIte, Int.reduceEq]
    have hz := son_size (keyB 3 n s (⟨#[]⟩ : ByteArray))
    rw [if_pos (by decide), if_pos (by omega), son_take, son_drop, eB,
      List.take_append_of_le_length (by rw [be_len]; decide), List.take_of_length_le (by rw [be_len]; decide), List.drop_append_of_le_length (by rw [be_len]; decide), List.drop_of_length_le (by rw [be_len]; decide), List.nil_append,
      key_unsigned_eq _ (be_isB _ 8) (by rw [be_len]; decide) k (by rw [be_len]; omega), Option.bind_some, key_unsigned_eq _ (be_isB _ 4) (by rw [be_len]; decide) k (by rw [be_len]; omega), Option.bind_some, num_back _ (I64_ediv hd), num256_be, p256_4]
    have hs := hd.sc
    have hp := p10_pos s
    have hq := p10_six_sub s hs
    have hq0 := p10_pos (6 - s)
    have hm0 := Int.emod_nonneg n (show p10 s ≠ 0 by omega)
    have hm1 := Int.emod_lt_of_pos n hp
    have hmul : n % p10 s * p10 (6 - s) ≤ (p10 s - 1) * p10 (6 - s) := Int.mul_le_mul_of_nonneg_right (by omega) (by omega)
    rw [Int.sub_mul, Int.one_mul] at hmul
    have hmul0 : 0 ≤ n % p10 s * p10 (6 - s) := Int.mul_nonneg hm0 (by omega)
    rw [Int.emod_eq_of_lt hmul0 (by omega), wrap64_of (by omega) (by omega), decimal_back n s _ k (by omega) hd, Option.bind_some]
    rfl
  rw [if_neg h3]
  have hz : st.size = st.data.size := rfl
  have hsz := m.sz
  by_cases h4 : kd = 4
  · subst h4
    have hs := m.z (by decide)
    subst hs
    have hn : n = 0 := by
      unfold rightB at hr
      rw [if_neg (by decide), if_neg (by decide), if_neg (by decide), if_neg (by decide), if_pos rfl] at hr
      simp only [Bool.and_eq_true, decide_eq_true_eq] at hr
      exact hr.1.1
    subst hn
    have eB : keyB 4 0 0 st = escL (byteL st) := rfl
    rw [eB] at hB hlen ⊢
    have := key_text_eq _ hB (by rw [List.length_append]; omega) (k + 1) (by rw [List.length_append]; omega)
    rw [if_pos rfl, this, txt_esc, Option.bind_some]
    simp only [txtRes, List.nil_append, Nat.zero_add, son_byteL]
    rfl
  rw [if_neg h4]
  by_cases h5 : kd = 5
  · subst h5
    have hs := m.z (by decide)
    subst hs
    have hn : n = 0 := by
      unfold rightB at hr
      rw [if_neg (by decide), if_neg (by decide), if_neg (by decide), if_neg (by decide), if_neg (by decide), if_pos rfl] at hr
      simp only [decide_eq_true_eq] at hr
      exact hr.1
    subst hn
    have eB : keyB 5 0 0 st = escL (byteL st) := rfl
    rw [eB] at hB hlen ⊢
    have := key_text_eq _ hB (by rw [List.length_append]; omega) (k + 1) (by rw [List.length_append]; omega)
    rw [if_pos rfl, this, txt_esc, Option.bind_some]
    simp only [txtRes, List.nil_append, Nat.zero_add, son_byteL]
    rfl
  rw [if_neg h5]
  obtain rfl : kd = 0 := by omega
  have hn := right_null m.r
  have hst := right_empty m.r (by decide) (by decide)
  obtain rfl : st = ⟨#[]⟩ := st_empty hst
  have hs := m.z (by decide)
  subst hs
  obtain rfl := hn.1
  have eB : keyB 0 0 0 (⟨#[]⟩ : ByteArray) = [] := rfl
  rw [eB]
  have hf := key_front_eq ([] ++ more) 0
  rw [if_neg (by omega)] at hf
  simp only [key_read.j0]
  rw [show ((0 : Nat) : Int) = 0 from rfl] at hf
  rw [hf, Option.bind_some]
  simp only [reduceIte, Int.reduceEq]
  rfl
theorem ReadKey_eq {kd n : Int} {s : Nat} {st : ByteArray} (m : Made kd n s st) (more : List Int) (hm : isB more) (hl : more.length ≤ 5000) (k : Nat) (hk : 12000 < k) :
    key_ReadKey.f k (strOfNums (keyL kd n s st ++ more)) = some (kd, n, (s : Int), st, ((keyL kd n s st).length : Int), true) := by
  have hB := isB_append (keyL_isB m) hm
  have k0 := m.k0
  have k5 := m.k5
  have hlen := keyB_len m
  have hz := son_size (keyL kd n s st ++ more)
  have hL : (keyL kd n s st).length = (keyB kd n s st).length + 1 := rfl
  have hA : (keyL kd n s st ++ more).length = (keyB kd n s st).length + 1 + more.length := by rw [List.length_append, hL]
  have b0 := bt_son hB 0 (by omega)
  have e0 : (keyL kd n s st ++ more)[0]'(by omega) = kd := rfl
  unfold key_ReadKey.f
  rw [if_neg (by rw [son_nil]; intro h; rw [h, List.length_nil] at hA; omega), if_pos (by omega), if_pos (by omega), show (0 : Int) = ((0 : Nat) : Int) from rfl, b0, e0, wrap64_of (by omega) (by omega), son_drop]
  have hd : (keyL kd n s st ++ more).drop 1 = keyB kd n s st ++ more := rfl
  have hr := key_read_eq m more hm hl k hk
  rw [hd]
  rw [show ((0 : Nat) : Int) = 0 from rfl, hr, Option.bind_some]
  dsimp only
  rw [if_pos rfl, val_Right_eq k kd n (s : Int) st (by omega), Option.bind_some, if_pos m.r, key_Key_eq m k (by omega), Option.bind_some, wrap64_of (by omega) (by omega), if_pos (by omega), if_pos (by omega)]
  rw [show (((keyB kd n s st).length : Int) + 1).toNat = (keyL kd n s st).length by omega, son_take, List.take_append_of_le_length (Nat.le_refl _), List.take_length, if_pos rfl, hL]
  rfl
end Go.Proofs.Ytjacflmgbmfhcaa.K
namespace Go.Proofs.Ytjacflmgbmfhcaa.K
open Go.RowKit Go.Proofs.YtjacflmgbmfhcaaW.PrintWords Go.Proofs.YtjacflmgbmfhcaaW.PrintLast Go.Proofs.YtjacflmgbmfhcaaW.PrintMore
attribute [local go_sem] max2_int min2_int max_two min_two max_three min_three max_four min_four
attribute [local go_sem high] own_gtr own_leq own_geq own_cell_set Option.map_some fld24_3
set_option linter.unusedVariables false
set_option linter.unusedSimpArgs false
theorem keyL_inj {k1 n1 k2 n2 : Int} {s1 s2 : Nat} {t1 t2 : ByteArray} (m1 : Made k1 n1 s1 t1) (m2 : Made k2 n2 s2 t2) (a b : List Int) (ha : isB a) (hb : isB b) (la : a.length ≤ 5000) (lb : b.length ≤ 5000)
    (h : keyL k1 n1 s1 t1 ++ a = keyL k2 n2 s2 t2 ++ b) : k1 = k2 ∧ n1 = n2 ∧ s1 = s2 ∧ t1 = t2 := by
  have e1 := ReadKey_eq m1 a ha la 12001 (by decide)
  have e2 := ReadKey_eq m2 b hb lb 12001 (by decide)
  rw [h, e2] at e1
  have e3 := Option.some.inj e1
  simp only [Prod.mk.injEq] at e3
  exact ⟨e3.1.symm, e3.2.1.symm, by omega, e3.2.2.2.1.symm⟩
theorem right_text {kd n sc : Int} {st : ByteArray} (h : rightB kd n sc st = true) (h4 : kd = 4 ∨ kd = 5) : n = 0 := by
  unfold rightB at h
  rcases h4 with rfl | rfl
  · rw [if_neg (by decide), if_neg (by decide), if_neg (by decide), if_neg (by decide), if_pos rfl] at h
    simp only [Bool.and_eq_true, decide_eq_true_eq] at h
    exact h.1.1
  · rw [if_neg (by decide), if_neg (by decide), if_neg (by decide), if_neg (by decide), if_neg (by decide), if_pos rfl] at h
    simp only [decide_eq_true_eq] at h
    exact h.1
theorem cmpI_eq_zero {a b : Int} : cmpI a b = 0 ↔ a = b := by
  unfold cmpI; split <;> (try split) <;> omega
theorem cmpI_lt' {a b : Int} : cmpI a b < 0 ↔ a < b := by
  unfold cmpI; split <;> (try split) <;> omega
theorem cmpT_eq_zero {a b : ByteArray} : cmpT a b = 0 ↔ a = b := by
  have h := cmpT_zero a b
  rw [Bool.eq_iff_iff, beq_iff_eq, beq_iff_eq, toList_inj] at h
  exact h
theorem ord_self (kd n sc : Int) (st : ByteArray) : ordB kd n sc st kd n sc st = 0 := by
  unfold ordB
  rw [if_pos rfl]
  split
  · exact cmpI_eq_zero.2 rfl
  split
  · exact cmpI_eq_zero.2 rfl
  · exact cmpT_eq_zero.2 rfl
theorem ord_zero {k1 n1 k2 n2 : Int} {s1 s2 : Nat} {t1 t2 : ByteArray} (m1 : Made k1 n1 s1 t1) (m2 : Made k2 n2 s2 t2) (h : ordB k1 n1 (s1 : Int) t1 k2 n2 (s2 : Int) t2 = 0) : k1 = k2 ∧ n1 = n2 ∧ s1 = s2 ∧ t1 = t2 := by
  unfold ordB at h
  by_cases e : k1 = k2
  · subst e
    rw [if_pos rfl] at h
    have k0 := m1.k0
    have k5 := m1.k5
    by_cases c : k1 = 1 ∨ k1 = 2
    · rw [if_pos c] at h
      have z1 := m1.z (by omega)
      have z2 := m2.z (by omega)
      have g1 := st_empty (right_empty m1.r k0 (by omega))
      have g2 := st_empty (right_empty m2.r k0 (by omega))
      exact ⟨rfl, cmpI_eq_zero.1 h, by omega, by rw [g1, g2]⟩
    rw [if_neg c] at h
    by_cases c3 : k1 = 3
    · rw [if_pos c3] at h
      have g1 := st_empty (right_empty m1.r k0 (by omega))
      have g2 := st_empty (right_empty m2.r k0 (by omega))
      have h' := cmpI_eq_zero.1 h
      unfold mic at h'
      rw [Int.toNat_natCast, Int.toNat_natCast] at h'
      have := mic_inj (m1.v.d c3) (m2.v.d c3) h'
      exact ⟨rfl, this.1, this.2, by rw [g1, g2]⟩
    rw [if_neg c3] at h
    have z1 := m1.z c3
    have z2 := m2.z c3
    refine ⟨rfl, ?_, by omega, cmpT_eq_zero.1 h⟩
    by_cases c0 : k1 = 0
    · subst c0
      rw [(right_null m1.r).1, (right_null m2.r).1]
    · rw [right_text m1.r (by omega), right_text m2.r (by omega)]
  · rw [if_neg e] at h
    exact absurd (cmpI_eq_zero.1 h) e
theorem keyL_less {k1 n1 k2 n2 : Int} {s1 s2 : Nat} {t1 t2 : ByteArray} (m1 : Made k1 n1 s1 t1) (m2 : Made k2 n2 s2 t2) :
    lessL (keyL k1 n1 s1 t1) (keyL k2 n2 s2 t2) = decide (ordB k1 n1 (s1 : Int) t1 k2 n2 (s2 : Int) t2 < 0) := by
  unfold keyL ordB
  rw [lessL]
  by_cases e : k1 = k2
  · subst e
    have k0 := m1.k0
    have k5 := m1.k5
    rw [decide_eq_false (Int.lt_irrefl k1), beq_self_eq_true, Bool.false_or, Bool.true_and, if_pos rfl]
    by_cases c1 : k1 = 1
    · subst c1
      rw [if_pos (Or.inl rfl)]
      have : lessL (keyB 1 n1 s1 t1) (keyB 1 n2 s2 t2) = decide (n1 < n2) := by
        show lessL [n1] [n2] = _
        simp [lessL]
      rw [this, decide_eq_decide, cmpI_lt']
    by_cases c2 : k1 = 2
    · subst c2
      rw [if_pos (Or.inr rfl)]
      have h1 := m1.v.i
      have h2 := m2.v.i
      unfold I64 at h1 h2
      have : lessL (keyB 2 n1 s1 t1) (keyB 2 n2 s2 t2) = decide (n1 < n2) := by
        show lessL (be _ 8) (be _ 8) = _
        rw [be_lt 8 _ _ (by omega) (by rw [p256_8]; omega) (by omega) (by rw [p256_8]; omega), decide_eq_decide]
        omega
      rw [this, decide_eq_decide, cmpI_lt']
    rw [if_neg (by omega)]
    by_cases c3 : k1 = 3
    · subst c3
      rw [if_pos rfl]
      have d1 := m1.v.d rfl
      have d2 := m2.v.d rfl
      have i1 := I64_ediv d1
      have i2 := I64_ediv d2
      unfold I64 at i1 i2
      have part : ∀ (n : Int) (s : Nat), RD n s → 0 ≤ n % p10 s * p10 (6 - s) ∧ n % p10 s * p10 (6 - s) < 1000000 := fun n s d => by
        have hs := d.sc
        have hp := p10_pos s
        have hq := p10_six_sub s hs
        have hq0 := p10_pos (6 - s)
        have hm0 := Int.emod_nonneg n (show p10 s ≠ 0 by omega)
        have hm1 := Int.emod_lt_of_pos n hp
        have hmul : n % p10 s * p10 (6 - s) ≤ (p10 s - 1) * p10 (6 - s) := Int.mul_le_mul_of_nonneg_right (by omega) (by omega)
        rw [Int.sub_mul, Int.one_mul] at hmul
        exact ⟨Int.mul_nonneg hm0 (by omega), by omega⟩
      have q1 := part n1 s1 d1
      have q2 := part n2 s2 d2
      have : lessL (keyB 3 n1 s1 t1) (keyB 3 n2 s2 t2) = decide (cmpI (mic n1 (s1 : Int)) (mic n2 (s2 : Int)) < 0) := by
        show lessL (be _ 8 ++ be _ 4) (be _ 8 ++ be _ 4) = _
        rw [lessL_len _ _ _ _ (by rw [be_len, be_len]), be_lt 4 _ _ q1.1 (by rw [p256_4]; omega) q2.1 (by rw [p256_4]; omega), be_lt 8 _ _ (by omega) (by rw [p256_8]; omega) (by omega) (by rw [p256_8]; omega)]
        have hP := parts_order' (a := n1 * p10 (6 - s1)) (b := n2 * p10 (6 - s2)) 1000000 (by decide)
        rw [mic_ediv n1 s1 d1.sc, mic_ediv n2 s2 d2.sc, mic_emod n1 s1 d1.sc, mic_emod n2 s2 d2.sc] at hP
        unfold mic
        rw [Int.toNat_natCast, Int.toNat_natCast, ← hP]
        by_cases c : n1 / p10 s1 = n2 / p10 s2
        · rw [c, if_pos rfl, if_pos (cmpI_eq_zero.2 rfl), decide_eq_decide, cmpI_lt']
        · rw [if_neg (fun h => c (by have := be_inj (k := 8) (by omega) (by rw [p256_8]; omega) (by omega) (by rw [p256_8]; omega) h; omega)), if_neg (fun h => c (cmpI_eq_zero.1 h)), decide_eq_decide, cmpI_lt']
          omega
      rw [this]
    rw [if_neg c3]
    by_cases c0 : k1 = 0
    · subst c0
      have g1 := st_empty (right_empty m1.r (by decide) (by decide))
      have g2 := st_empty (right_empty m2.r (by decide) (by decide))
      rw [g1, g2, cmpT_eq_zero.2 rfl]
      rfl
    have h45 : k1 = 4 ∨ k1 = 5 := by omega
    have eB : ∀ n s t, keyB k1 n s t = escL (byteL t) := fun n s t => by
      unfold keyB
      rw [if_neg c1, if_neg c2, if_neg c3, if_pos h45]
    rw [eB, eB, cmpT_lt, less_bytes]
    by_cases c : byteL t1 = byteL t2
    · rw [c, lessL_irrefl, lessL_irrefl]
    · have := esc_less [] [] (byteL t1) (byteL t2) (byteL_isB _) (byteL_isB _) c
      rw [List.append_nil, List.append_nil] at this
      exact this
  · have e2 : (k1 == k2) = false := by simpa using e
    rw [if_neg e, e2, Bool.false_and, Bool.or_false, decide_eq_decide, cmpI_lt']
theorem keyL_eq_iff {k1 n1 k2 n2 : Int} {s1 s2 : Nat} {t1 t2 : ByteArray} (m1 : Made k1 n1 s1 t1) (m2 : Made k2 n2 s2 t2) : keyL k1 n1 s1 t1 = keyL k2 n2 s2 t2 ↔ ordB k1 n1 (s1 : Int) t1 k2 n2 (s2 : Int) t2 = 0 := by
  constructor
  · intro h
    obtain ⟨rfl, rfl, rfl, rfl⟩ := keyL_inj m1 m2 [] [] isB_nil isB_nil (by simp) (by simp) (by rw [h])
    exact ord_self _ _ _ _
  · intro h
    obtain ⟨rfl, rfl, rfl, rfl⟩ := ord_zero m1 m2 h
    rfl
end Go.Proofs.Ytjacflmgbmfhcaa.K
namespace Go.Proofs.Ytjacflmgbmfhcaa.K
open Go.RowKit Go.Proofs.YtjacflmgbmfhcaaW.PrintWords Go.Proofs.YtjacflmgbmfhcaaW.PrintLast Go.Proofs.YtjacflmgbmfhcaaW.PrintMore
attribute [local go_sem] max2_int min2_int max_two min_two max_three min_three max_four min_four
attribute [local go_sem high] own_gtr own_leq own_geq own_cell_set Option.map_some fld24_3
set_option linter.unusedVariables false
set_option linter.unusedSimpArgs false
theorem known2_three : federationlaw2_known.f 300 = some true := by decide +kernel
theorem known2_ge {k : Nat} (h : 300 ≤ k) : federationlaw2_known.f k = some true := at_rounds federationlaw2_known.mono h known2_three
theorem within2_eq (a n : Int) (ha : I64 a) (h0 : 0 < n) (h1 : n ≤ 4611686018427387904) : federationlaw2_within.f a n = some (a % n) := by
  unfold federationlaw2_within.f I64 at *
  rw [if_neg (by omega)]
  have e3 := Int.emod_lt_of_pos a h0
  have e4 := Int.emod_nonneg a (show n ≠ 0 by omega)
  rcases tdm a n h0 with ⟨c, e1, e2⟩ | ⟨c, e1, e2⟩
  · rw [if_pos c, wrap64_of (by omega) (by omega), e2]
  · rw [if_neg c, e2]
theorem made_int {a : Int} (h : I64 a) : Made 2 a 0 (⟨#[]⟩ : ByteArray) where
  r := by unfold rightB; rw [if_neg (by decide), if_neg (by decide), if_pos rfl, noS_empty]; rfl
  v := ⟨h, fun e => absurd e (by decide)⟩
  sz := by decide
  k0 := by decide
  k5 := by decide
  z := fun _ => rfl
structure MadeS (v : S24) : Prop where
  s : v.f2 = ((v.f2.toNat : Nat) : Int)
  m : Made v.f0 v.f1 v.f2.toNat v.f3
def keyS (v : S24) : List Int := keyL v.f0 v.f1 v.f2.toNat v.f3
def rowB (l : List S24) : List Int := l.flatMap keyS
def rowL (l : List S24) : List Int := (l.length : Int) :: rowB l
theorem keyS_isB {v : S24} (h : MadeS v) : isB (keyS v) := keyL_isB h.m
theorem keyS_len {v : S24} (h : MadeS v) : 1 ≤ (keyS v).length ∧ (keyS v).length ≤ 83 := by
  have := keyB_len h.m
  show 1 ≤ (keyB _ _ _ _).length + 1 ∧ (keyB _ _ _ _).length + 1 ≤ 83
  omega
theorem keyS_eq {v : S24} (h : MadeS v) (k : Nat) (hk : 20 < k) : key_Key.f k v.f0 v.f1 v.f2 v.f3 = some (strOfNums (keyS v)) := by
  have := key_Key_eq h.m k hk
  rw [← h.s] at this
  exact this
theorem rowB_isB : ∀ {l : List S24}, (∀ v ∈ l, MadeS v) → isB (rowB l)
  | [], _ => isB_nil
  | v :: l, h => by
    show isB (keyS v ++ rowB l)
    exact isB_append (keyS_isB (h v List.mem_cons_self)) (rowB_isB fun u hu => h u (List.mem_cons_of_mem _ hu))
theorem rowB_len : ∀ {l : List S24}, (∀ v ∈ l, MadeS v) → (rowB l).length ≤ 83 * l.length
  | [], _ => by simp [rowB]
  | v :: l, h => by
    have h1 := keyS_len (h v List.mem_cons_self)
    have h2 := rowB_len fun u hu => h u (List.mem_cons_of_mem _ hu)
    have : (rowB (v :: l)).length = (keyS v).length + (rowB l).length := by
      show (keyS v ++ rowB l).length = _
      rw [List.length_append]
    rw [this, List.length_cons]
    omega
theorem rowB_snoc (l : List S24) (v : S24) : rowB (l ++ [v]) = rowB l ++ keyS v := by simp [rowB]
theorem rd24 (l : List S24) (i : Nat) (h : i < l.length) : rd_T24 l (i : Int) = l[i] := by
  unfold rd_T24
  rw [Int.toNat_natCast, List.getD_eq_getElem?_getD, List.getElem?_eq_getElem h]; rfl
theorem keys_l0 (l : List S24) (hl : ∀ v ∈ l, MadeS v) (hn : l.length ≤ 10) : ∀ (d k i : Nat), d + 20 < k → i + d = l.length → api_Value__key_Key.l0 k (strOfNums (rowB (l.take i))) l (l.length : Int) (i : Int) = some (strOfNums (rowB l))
  | 0, k, i, hk, hd => by
    obtain ⟨k, rfl⟩ : ∃ m, k = m + 1 := ⟨k - 1, by omega⟩
    simp only [api_Value__key_Key.l0]
    rw [if_neg (by omega), List.take_of_length_le (by omega)]
  | d + 1, k, i, hk, hd => by
    obtain ⟨k, rfl⟩ : ∃ m, k = m + 1 := ⟨k - 1, by omega⟩
    have hi : i < l.length := by omega
    have hm := hl _ (List.getElem_mem hi)
    have e1 := rowB_len (l := l.take i) fun v hv => hl v (List.mem_of_mem_take hv)
    have e2 := keyS_len hm
    have e3 : (l.take i).length ≤ 10 := by rw [List.length_take]; omega
    simp only [api_Value__key_Key.l0]
    rw [if_pos (by omega), if_pos (by omega), if_pos (by omega), rd24 l i hi, keyS_eq hm k (by omega), Option.bind_some, if_pos (by rw [son_size, son_size]; omega), son_append, ← rowB_snoc, wrap64_of (by omega) (by omega), show (i : Int) + 1 = ((i + 1 : Nat) : Int) by omega,
      show l.take i ++ [l[i]] = l.take (i + 1) by rw [List.take_add_one, List.getElem?_eq_getElem hi]; rfl]
    exact keys_l0 l hl hn d k (i + 1) (by omega) (by omega)
theorem key_Row_eq (l : List S24) (hl : ∀ v ∈ l, MadeS v) (hn : l.length ≤ 10) (k : Nat) (hk : 40 < k) : key_Row.f k l = some (strOfNums (rowL l)) := by
  have h := keys_l0 l hl hn l.length k 0 (by omega) (by omega)
  have e1 := rowB_len hl
  unfold key_Row.f api_Value__key_Key.f
  have h0 : (⟨#[]⟩ : ByteArray) = strOfNums (rowB (l.take 0)) := rfl
  rw [Option.bind_some, h0, show (0 : Int) = ((0 : Nat) : Int) from rfl, h, Option.bind_some, if_pos (by rw [son_size, son_size]; simp; omega), son_append, show (l.length : Int) % 256 = (l.length : Int) by omega]
  rfl
theorem sizes_oc (c : Int) {a b : ByteArray} (f : Bool → Option Bool) (h1 : f true = some true) (h2 : (a.size : Int) ≤ c → (b.size : Int) ≤ c → f false = some true) : (if (a.size : Int) > c then f true else f (decide ((b.size : Int) > c))) = some true := by
  by_cases h : (a.size : Int) > c
  · rw [if_pos h, h1]
  · rw [if_neg h]
    by_cases h' : (b.size : Int) > c
    · rw [decide_eq_true h', h1]
    · rw [decide_eq_false h']; exact h2 (by omega) (by omega)
end Go.Proofs.Ytjacflmgbmfhcaa.K
namespace Go.Proofs.Ytjacflmgbmfhcaa.K
open Go.RowKit Go.Proofs.YtjacflmgbmfhcaaW.PrintWords Go.Proofs.YtjacflmgbmfhcaaW.PrintLast Go.Proofs.YtjacflmgbmfhcaaW.PrintMore
attribute [local go_sem] max2_int min2_int max_two min_two max_three min_three max_four min_four
attribute [local go_sem high] own_gtr own_leq own_geq own_cell_set Option.map_some fld24_3
set_option linter.unusedVariables false
set_option linter.unusedSimpArgs false
theorem I64_of {x : Int} (h : (Lit.int .i64 x).wf = true) : I64 x := by
  have h1 : IntKind.i64.min = -9223372036854775808 := by decide
  have h2 : IntKind.i64.max = 9223372036854775807 := by decide
  simp only [Lit.wf, Bool.and_eq_true, decide_eq_true_eq, h1, h2] at h
  exact h
end Go.Proofs.Ytjacflmgbmfhcaa.K
namespace Go.Proofs.Ytjacflmgbmfhcaa.Pure
open Go.RowKit Go.Proofs.Ytjacflmgbmfhcaa.K Go.Proofs.YtjacflmgbmfhcaaW.PrintWords Go.Proofs.YtjacflmgbmfhcaaW.PrintLast Go.Proofs.YtjacflmgbmfhcaaW.PrintMore
theorem key9 {v : S24} (h : v.f0 = 2) : (keyS v).length = 9 := by
  unfold keyS keyL keyB
  rw [h, if_neg (by decide), if_pos rfl, List.length_cons, be_len]
theorem ordS {u v : S24} (hu : MadeS u) (hv : MadeS v) (k : Nat) (hk : 42 < k) : federationref1_Order.f k u.f0 u.f1 u.f2 u.f3 v.f0 v.f1 v.f2 v.f3 = some (ordB u.f0 u.f1 u.f2 u.f3 v.f0 v.f1 v.f2 v.f3) := by
  have m1 := hu.m; have m2 := hv.m
  have := ref_Order_eq k u.f0 u.f1 u.f2.toNat u.f3 v.f0 v.f1 v.f2.toNat v.f3 hk (fun e => ⟨(m1.v.d e).sc, (m1.v.d e).lo, (m1.v.d e).hi⟩) (fun e => ⟨(m2.v.d e).sc, (m2.v.d e).lo, (m2.v.d e).hi⟩)
  rw [← hu.s, ← hv.s] at this
  exact this
theorem lessS {u v : S24} (hu : MadeS u) (hv : MadeS v) : lessL (keyS u) (keyS v) = decide (ordB u.f0 u.f1 u.f2 u.f3 v.f0 v.f1 v.f2 v.f3 < 0) := by
  have := keyL_less hu.m hv.m
  rw [← hu.s, ← hv.s] at this
  exact this
theorem eqS {u v : S24} (hu : MadeS u) (hv : MadeS v) : keyS u = keyS v ↔ ordB u.f0 u.f1 u.f2 u.f3 v.f0 v.f1 v.f2 v.f3 = 0 := by
  have := keyL_eq_iff hu.m hv.m
  rw [← hu.s, ← hv.s] at this
  exact this
theorem row_two (u v : S24) : rowL [u, v] = 2 :: (keyS u ++ keyS v) := by
  show 2 :: (keyS u ++ (keyS v ++ [])) = _
  rw [List.append_nil]
theorem two_in : (0 : Int) ≤ 2 ∧ (2 : Int) < 256 := by decide
theorem len0 (u v : S24) : 0 < (([u, v] : List S24).length : Int) := (show (0 : Int) < 2 by decide)
theorem len1 (u v : S24) : 1 < (([u, v] : List S24).length : Int) := (show (1 : Int) < 2 by decide)
theorem rowOrder_j2 (k : Nat) (hk : 60 < k) (u0 u1 v0 v1 : S24) (h0 : MadeS u0) (h1 : MadeS u1) (g0 : MadeS v0) (g1 : MadeS v1) (e0 : u0.f0 = 2) (f0 : v0.f0 = 2) : federationlaw2_KeyRowOrder.j2 k [u0, u1] [v0, v1] = some true := by
  obtain ⟨k, rfl⟩ : ∃ m, k = m + 1 := ⟨k - 1, by omega⟩
  have hu : ∀ v ∈ [u0, u1], MadeS v := fun v hv => by
    rcases List.mem_cons.1 hv with rfl | hv
    · exact h0
    · rw [List.mem_singleton.1 hv]; exact h1
  have hv : ∀ v ∈ [v0, v1], MadeS v := fun v hv => by
    rcases List.mem_cons.1 hv with rfl | hv
    · exact g0
    · rw [List.mem_singleton.1 hv]; exact g1
  have r1 := key_Row_eq [u0, u1] hu (Nat.le_of_ble_eq_true rfl) k (by omega)
  have r2 := key_Row_eq [v0, v1] hv (Nat.le_of_ble_eq_true rfl) k (by omega)
  have B1 : isB (rowL [u0, u1]) := isB_cons two_in (rowB_isB hu)
  have B2 : isB (rowL [v0, v1]) := isB_cons two_in (rowB_isB hv)
  have o0 := ordS h0 g0 k (by omega)
  have o1 := ordS h1 g1 k (by omega)
  have a0 : rd_T24 [u0, u1] 0 = u0 := rfl
  have a1 : rd_T24 [u0, u1] 1 = u1 := rfl
  have b0 : rd_T24 [v0, v1] 0 = v0 := rfl
  have b1 : rd_T24 [v0, v1] 1 = v1 := rfl
  have l0 := lessS h0 g0
  have l1 := lessS h1 g1
  have q0 := eqS h0 g0
  have q1 := eqS h1 g1
  have n1 := key9 e0
  have n2 := key9 f0
  have hL : lessL (rowL [u0, u1]) (rowL [v0, v1]) = if keyS u0 = keyS v0 then lessL (keyS u1) (keyS v1) else lessL (keyS u0) (keyS v0) := by
    rw [row_two, row_two, ← lessL_len _ _ _ _ (n1.trans n2.symm)]
    simp [lessL]
  have hE : rowL [u0, u1] = rowL [v0, v1] ↔ keyS u0 = keyS v0 ∧ keyS u1 = keyS v1 := by
    rw [row_two, row_two]
    constructor
    · intro h
      have h' := (List.cons.inj h).2
      exact List.append_inj h' (n1.trans n2.symm)
    · rintro ⟨h, h'⟩; rw [h, h']
  have tb : ((strOfNums (rowL [u0, u1])).toList == (strOfNums (rowL [v0, v1])).toList) = decide (keyS u0 = keyS v0 ∧ keyS u1 = keyS v1) := by
    rw [Bool.eq_iff_iff, beq_iff_eq, son_eq B1 B2, hE, decide_eq_true_eq]
  simp only [federationlaw2_KeyRowOrder.j2]
  rw [if_pos (len0 u0 u1), if_pos (len0 v0 v1), a0, b0, o0, Option.bind_some]
  generalize ordB u0.f0 u0.f1 u0.f2 u0.f3 v0.f0 v0.f1 v0.f2 v0.f3 = z0 at *
  generalize ordB u1.f0 u1.f1 u1.f2 u1.f3 v1.f0 v1.f1 v1.f2 v1.f3 = z1 at *
  by_cases c : z0 = 0
  · rw [if_pos c, if_pos (len1 u0 u1), if_pos (len1 v0 v1), a1, b1, o1, Option.bind_some, r1, Option.bind_some, r2, Option.bind_some, less_son B1 B2, hL, if_pos (q0.2 c), l1, tb, if_pos (by simp)]
    congr 1
    rw [beq_iff_eq, Bool.eq_iff_iff, decide_eq_true_eq, beq_iff_eq]
    exact ⟨fun h => q1.1 h.2, fun h => ⟨q0.2 c, q1.2 h⟩⟩
  · have nc : ¬ keyS u0 = keyS v0 := fun h => c (q0.1 h)
    rw [if_neg c, r1, Option.bind_some, r2, Option.bind_some, less_son B1 B2, hL, if_neg nc, l0, tb, if_pos (by simp)]
    congr 1
    rw [beq_iff_eq, Bool.eq_iff_iff, decide_eq_true_eq, beq_iff_eq]
    exact ⟨fun h => absurd h.1 nc, fun h => absurd h c⟩
theorem rowOrder_j1 (k : Nat) (hk : 70 < k) (a3 : Int) (i3 : I64 a3) (u0 u1 v0 v1 : S24) (h0 : MadeS u0) (h1 : MadeS u1) (g0 : MadeS v0) (g1 : MadeS v1) (e0 : u0.f0 = 2) (f0 : v0.f0 = 2) : federationlaw2_KeyRowOrder.j1 k a3 [u0, u1] [v0, v1] = some true := by
  obtain ⟨k, rfl⟩ : ∃ m, k = m + 1 := ⟨k - 1, by omega⟩
  simp only [federationlaw2_KeyRowOrder.j1]
  rw [within2_eq a3 3 i3 (by decide) (by decide), Option.bind_some]
  by_cases c : a3 % 3 = 0
  · rw [if_pos c, if_pos (len1 u0 u1), if_pos (len1 v0 v1)]
    exact rowOrder_j2 k (by omega) u0 u1 v0 u1 h0 h1 g0 h1 e0 f0
  · rw [if_neg c]
    exact rowOrder_j2 k (by omega) u0 u1 v0 v1 h0 h1 g0 g1 e0 f0
theorem textS {n : Int} {s : Nat} {t : ByteArray} (m : Made (4 % 6) n s t) : MadeS ⟨4, 0, 0, t⟩ := by
  have m' : Made 4 n s t := m
  have hn := right_text m'.r (Or.inl rfl)
  have hs := m'.z (by decide)
  subst hn hs
  exact ⟨rfl, m'⟩
theorem KeyRowOrder : federationlaw2_KeyRowOrder.Pure := by
  intro a0 a1 a2 a3 a4 a5 w0 w1 w2 w3 z4 z5
  refine ⟨501, ?_⟩
  have i0 := I64_of w0; have i1 := I64_of w1; have i2 := I64_of w2; have i3 := I64_of w3
  have b0 := emod_bd a0 9 (by decide)
  have b1 := emod_bd a1 9 (by decide)
  unfold federationlaw2_KeyRowOrder.f
  rw [known2_ge (by decide), Option.bind_some, if_pos rfl]
  have hT : federationlaw2_KeyRowOrder.j0 (500 + 1) a0 a1 a2 a3 a4 a5 true = some true := by
    simp only [federationlaw2_KeyRowOrder.j0]
    rw [if_pos trivial]
  refine sizes_oc 60 (fun b => federationlaw2_KeyRowOrder.j0 (500 + 1) a0 a1 a2 a3 a4 a5 b) hT fun y4 y5 => ?_
  show federationlaw2_KeyRowOrder.j0 (500 + 1) a0 a1 a2 a3 a4 a5 false = some true
  obtain ⟨n1, s1, t1, hm1, m1⟩ := Make_eq 4 0 a4 (by unfold I64; omega) (by unfold I64; omega) (by omega)
  obtain ⟨n2, s2, t2, hm2, m2⟩ := Make_eq 4 0 a5 (by unfold I64; omega) (by unfold I64; omega) (by omega)
  have x0 : MadeS ⟨2, a0 % 9, 0, (⟨#[]⟩ : ByteArray)⟩ := ⟨rfl, made_int (a := a0 % 9) (by unfold I64; omega)⟩
  have y0 : MadeS ⟨2, a1 % 9, 0, (⟨#[]⟩ : ByteArray)⟩ := ⟨rfl, made_int (a := a1 % 9) (by unfold I64; omega)⟩
  have x1 := textS m1
  have y1 := textS m2
  simp only [federationlaw2_KeyRowOrder.j0]
  rw [if_neg (by decide), within2_eq a0 9 i0 (by decide) (by decide), Option.bind_some, hm1 500 (by decide), Option.bind_some, Option.bind_some, within2_eq a1 9 i1 (by decide) (by decide), Option.bind_some, hm2 500 (by decide), Option.bind_some, Option.bind_some, within2_eq a2 3 i2 (by decide) (by decide), Option.bind_some]
  by_cases c : a2 % 3 = 0
  · rw [if_pos c, if_pos (len0 _ _), if_pos (len0 _ _)]
    exact rowOrder_j1 500 (by decide) a3 i3 _ _ _ _ x0 x1 x0 y1 rfl rfl
  · rw [if_neg c]
    exact rowOrder_j1 500 (by decide) a3 i3 _ _ _ _ x0 x1 y0 y1 rfl rfl
end Go.Proofs.Ytjacflmgbmfhcaa.Pure
