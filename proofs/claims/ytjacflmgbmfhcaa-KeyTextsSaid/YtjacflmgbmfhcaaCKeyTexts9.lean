-- Written by drive.py and pack.py (programs of this proof's own) through the kit's printer; not trusted: Lean checks it.
import Derived.Test.YtjacflmgbmfhcaaCKeyTexts1
import Derived.Test.YtjacflmgbmfhcaaCKeyTexts2
import Derived.Test.YtjacflmgbmfhcaaCKeyTexts5
import Derived.Test.YtjacflmgbmfhcaaCKeyTexts4
import Derived.Lib.Strings
import Derived.Test.YtjacflmgbmfhcaaCKeyTexts3
import Derived.Test.YtjacflmgbmfhcaaCKeyTexts6
import Derived.Test.YtjacflmgbmfhcaaCKeyTexts7
import Derived.Test.YtjacflmgbmfhcaaCKeyTexts8
namespace Go.Proofs.Ytjacflmgbmfhcaa.K
open Go.RowKit Go.Proofs.YtjacflmgbmfhcaaW.PrintWords Go.Proofs.YtjacflmgbmfhcaaW.PrintLast Go.Proofs.YtjacflmgbmfhcaaW.PrintMore
attribute [local go_sem] max2_int min2_int max_two min_two max_three min_three max_four min_four
attribute [local go_sem high] own_gtr own_leq own_geq own_cell_set Option.map_some fld24_3
set_option linter.unusedVariables false
set_option linter.unusedSimpArgs false
def p256 (n : Nat) : Int := (256 : Int) ^ n
theorem p256_pos (n : Nat) : 0 < p256 n := Int.pow_pos (by decide)
theorem p256_zero : p256 0 = 1 := rfl
theorem p256_succ (n : Nat) : p256 (n + 1) = p256 n * 256 := by unfold p256; rw [Int.pow_succ]
def be (n : Int) : Nat → List Int
  | 0 => []
  | k + 1 => (n / p256 k) % 256 :: be n k
theorem be_len (n : Int) : ∀ k, (be n k).length = k
  | 0 => rfl
  | k + 1 => by simp [be, be_len n k]
def isB (l : List Int) : Prop := ∀ x ∈ l, 0 ≤ x ∧ x < 256
theorem isB_nil : isB [] := fun _ h => by cases h
theorem isB_cons {x : Int} {l : List Int} (h : 0 ≤ x ∧ x < 256) (hl : isB l) : isB (x :: l) := by
  intro y hy
  rcases List.mem_cons.1 hy with rfl | hy
  · exact h
  · exact hl _ hy
theorem isB_tail {x : Int} {l : List Int} (h : isB (x :: l)) : isB l := fun y hy => h y (List.mem_cons_of_mem _ hy)
theorem isB_head {x : Int} {l : List Int} (h : isB (x :: l)) : 0 ≤ x ∧ x < 256 := h x List.mem_cons_self
theorem isB_append {l m : List Int} (h : isB l) (k : isB m) : isB (l ++ m) := by
  intro y hy
  rcases List.mem_append.1 hy with hy | hy
  · exact h y hy
  · exact k y hy
theorem isB_take {l : List Int} (h : isB l) (n : Nat) : isB (l.take n) := fun y hy => h y (List.mem_of_mem_take hy)
theorem be_isB (n : Int) : ∀ k, isB (be n k)
  | 0 => isB_nil
  | k + 1 => isB_cons ⟨Int.emod_nonneg _ (by decide), Int.emod_lt_of_pos _ (by decide)⟩ (be_isB n k)
theorem be_add (n m : Int) : ∀ k j, be (n + m * (p256 k * p256 j)) k = be n k
  | 0, _ => rfl
  | k + 1, j => by
    have h := be_add n m k (j + 1)
    have e : p256 (k + 1) * p256 j = p256 k * p256 (j + 1) := by rw [p256_succ, p256_succ, Int.mul_assoc, Int.mul_comm 256]
    simp only [be]
    rw [e, h]
    have d : (n + m * (p256 k * p256 (j + 1))) / p256 k = n / p256 k + m * p256 (j + 1) := by
      rw [show n + m * (p256 k * p256 (j + 1)) = n + p256 k * (m * p256 (j + 1)) by rw [← Int.mul_assoc, Int.mul_comm m, Int.mul_assoc], Int.add_mul_ediv_left _ _ (by have := p256_pos k; omega)]
    rw [d, p256_succ, ← Int.mul_assoc]
    congr 1
    omega
def num256 (l : List Int) : Int := l.foldl (fun a b => a * 256 + b) 0
theorem foldl256 : ∀ (l : List Int) (a : Int), l.foldl (fun a b => a * 256 + b) a = a * p256 l.length + num256 l
  | [], a => by simp [num256, p256_zero]
  | x :: l, a => by
    unfold num256
    simp only [List.foldl_cons, List.length_cons]
    rw [foldl256 l (a * 256 + x), foldl256 l (0 * 256 + x), p256_succ, Int.add_mul, Int.mul_assoc, Int.mul_comm 256, Int.zero_mul, Int.zero_add, Int.add_assoc]
theorem num256_cons (x : Int) (l : List Int) : num256 (x :: l) = x * p256 l.length + num256 l := by
  have := foldl256 l (0 * 256 + x)
  rw [Int.zero_mul, Int.zero_add] at this
  unfold num256
  simp only [List.foldl_cons]
  rw [Int.zero_mul, Int.zero_add, this]
  rfl
theorem num256_be (n : Int) : ∀ k, num256 (be n k) = n % p256 k
  | 0 => by simp [be, num256, p256_zero, Int.emod_one]
  | k + 1 => by
    simp only [be]
    rw [num256_cons, be_len, num256_be n k, p256_succ]
    have h := p256_pos k
    have h1 := Int.emod_lt_of_pos n h
    have h2 := Int.emod_nonneg n (show p256 k ≠ 0 by omega)
    have h3 := Int.mul_ediv_add_emod n (p256 k)
    have h4 := Int.mul_ediv_add_emod (n / p256 k) 256
    have h5 := Int.emod_lt_of_pos (n / p256 k) (show (0 : Int) < 256 by decide)
    have h6 := Int.emod_nonneg (n / p256 k) (show (256 : Int) ≠ 0 by decide)
    generalize n / p256 k % 256 = b at *
    have h7 : b * p256 k ≤ 255 * p256 k := Int.mul_le_mul_of_nonneg_right (by omega) (Int.le_of_lt h)
    have h8 : 0 ≤ b * p256 k := Int.mul_nonneg h6 (Int.le_of_lt h)
    refine (((Int.ediv_emod_unique (a := n) (r := b * p256 k + n % p256 k) (q := n / p256 k / 256) (b := p256 k * 256) (by omega)).2 ⟨?_, by omega, by omega⟩).2).symm
    have h9 : p256 k * 256 * (n / p256 k / 256) = p256 k * (256 * (n / p256 k / 256)) := Int.mul_assoc _ _ _
    have h10 : p256 k * (n / p256 k) = p256 k * (256 * (n / p256 k / 256)) + b * p256 k := by
      rw [Int.mul_comm b, ← Int.mul_add, h4]
    omega
theorem shr8 (n : Int) (j : Nat) (h : j ≤ 8) : shr .i64 n ((8 * j : Nat) : Int) = n / p256 j := by
  have hb : IntKind.i64.bits = 64 := rfl
  unfold shr p256
  rw [hb, Int.toNat_natCast, Nat.min_eq_left (by omega), Int.pow_mul]
  rfl
theorem key_number_l0 (n : Int) : ∀ (j k : Nat) (acc : List Int), j < k → j ≤ 8 → acc.length + j ≤ 100 → key_number.l0 k n acc (8 * (j : Int) - 8) = some (acc ++ be n j)
  | 0, k, acc, hk, hj, ha => by
    obtain ⟨k, rfl⟩ : ∃ m, k = m + 1 := ⟨k - 1, by omega⟩
    simp only [key_number.l0]; rw [if_neg (by omega), be, List.append_nil]
  | j + 1, k, acc, hk, hj, ha => by
    obtain ⟨k, rfl⟩ : ∃ m, k = m + 1 := ⟨k - 1, by omega⟩
    have e : 8 * ((j + 1 : Nat) : Int) - 8 = ((8 * j : Nat) : Int) := by omega
    simp only [key_number.l0]
    rw [e, if_pos (by omega), if_pos (by omega), if_pos (by omega), shr8 n j (by omega), wrap64_of (by omega) (by omega)]
    have := key_number_l0 n j k (acc ++ [n / p256 j % 256]) (by omega) (by omega) (by
      simp only [List.length_append, List.length_singleton]; omega)
    rw [show ((8 * j : Nat) : Int) - 8 = 8 * (j : Int) - 8 by omega, this, be, List.append_assoc]
    rfl
theorem key_number_eq (n : Int) (j k : Nat) (hk : j < k) (h1 : 1 ≤ j) (hj : j ≤ 8) : key_number.f k n (j : Int) = some (be n j) := by
  unfold key_number.f
  rw [wrap64_of (x := (j : Int) - 1) (by omega) (by omega), wrap64_of (by omega) (by omega), show 8 * ((j : Int) - 1) = 8 * (j : Int) - 8 by omega, key_number_l0 n j k [] hk hj (by simp; omega)]
  rfl
theorem nat_xor_top (r : Nat) (h : r < 9223372036854775808) : r ^^^ 9223372036854775808 = r + 9223372036854775808 := by
  apply Nat.eq_of_testBit_eq
  intro i
  have e : 9223372036854775808 = 2 ^ 63 := by decide
  rw [Nat.testBit_xor, e, Nat.add_comm, Nat.testBit_two_pow]
  by_cases c : i = 63
  · subst c
    rw [Nat.testBit_two_pow_add_eq]
    simp
  · by_cases c2 : i < 63
    · rw [Nat.testBit_two_pow_add_gt c2]
      simp [Ne.symm c]
    · have h1 : r.testBit i = false := Nat.testBit_lt_two_pow (Nat.lt_of_lt_of_le h (by rw [e]; exact Nat.pow_le_pow_right (by decide) (by omega)))
      have h2 : (2 ^ 63 + r).testBit i = false := Nat.testBit_lt_two_pow (Nat.lt_of_lt_of_le (m := 2 ^ 64) (by omega) (Nat.pow_le_pow_right (by decide) (by omega)))
      rw [h1, h2]
      simp [Ne.symm c]
theorem nat_xor_top' (r : Nat) (h : r < 18446744073709551616) : r ^^^ 9223372036854775808 = (r + 9223372036854775808) % 18446744073709551616 := by
  by_cases c : r < 9223372036854775808
  · rw [nat_xor_top r c]; omega
  · obtain ⟨q, rfl⟩ : ∃ q, r = q + 9223372036854775808 := ⟨r - 9223372036854775808, by omega⟩
    rw [← nat_xor_top q (by omega), Nat.xor_assoc, Nat.xor_self, Nat.xor_zero]
    rw [nat_xor_top q (by omega)]
    omega
theorem toNat_ofInt (a : Int) : ((BitVec.ofInt 64 a).toNat : Int) = a % 18446744073709551616 := by
  rw [BitVec.toNat_ofInt]
  have : (0 : Int) ≤ a % ((2 ^ 64 : Nat) : Int) := Int.emod_nonneg _ (by decide)
  rw [Int.toNat_of_nonneg this]
  rfl
theorem i64_wrap (n : Int) : IntKind.i64.wrap n = wrap64 n := by
  simp [IntKind.wrap, IntKind.bits, IntKind.signed, wrap64]
  split <;> omega
theorem xorMin (a : Int) : Go.bits .xor .i64 a (-9223372036854775808) = wrap64 (a + 9223372036854775808) := by
  have h1 := toNat_ofInt a
  have h2 : (BitVec.ofInt 64 (-9223372036854775808)).toNat = 9223372036854775808 := by decide +kernel
  have h3 : (BitVec.ofInt 64 a).toNat < 18446744073709551616 := (BitVec.ofInt 64 a).isLt
  have hx := nat_xor_top' _ h3
  show IntKind.i64.wrap ((BitVec.ofInt 64 a ^^^ BitVec.ofInt 64 (-9223372036854775808)).toNat : Int) = _
  rw [BitVec.toNat_xor, h2, hx, i64_wrap]
  generalize (BitVec.ofInt 64 a).toNat = r at *
  unfold wrap64
  omega
theorem be_eq_of_emod {a b : Int} {k : Nat} (h : a % p256 k = b % p256 k) : be a k = be b k := by
  have h1 := Int.mul_ediv_add_emod a (p256 k)
  have h2 := Int.mul_ediv_add_emod b (p256 k)
  have := be_add b (a / p256 k - b / p256 k) k 0
  rw [p256_zero, Int.mul_one, Int.sub_mul, Int.mul_comm (a / p256 k), Int.mul_comm (b / p256 k)] at this
  rw [show b + (p256 k * (a / p256 k) - p256 k * (b / p256 k)) = a by omega] at this
  exact this
theorem p256_8 : p256 8 = 18446744073709551616 := by decide
theorem p256_4 : p256 4 = 4294967296 := by decide
theorem key_signed_eq (k : Nat) (a : Int) (hk : 9 < k) : key_signed.f k a = some (be (a + 9223372036854775808) 8) := by
  unfold key_signed.f
  have := key_number_eq (wrap64 (a + 9223372036854775808)) 8 k (by omega) (by decide) (by decide)
  rw [xorMin, show (8 : Int) = ((8 : Nat) : Int) from rfl, this, Option.bind_some]
  congr 1
  apply be_eq_of_emod
  rw [p256_8]; unfold wrap64; omega
end Go.Proofs.Ytjacflmgbmfhcaa.K
namespace Go.Proofs.Ytjacflmgbmfhcaa.K
open Go.RowKit Go.Proofs.YtjacflmgbmfhcaaW.PrintWords Go.Proofs.YtjacflmgbmfhcaaW.PrintLast Go.Proofs.YtjacflmgbmfhcaaW.PrintMore
attribute [local go_sem] max2_int min2_int max_two min_two max_three min_three max_four min_four
attribute [local go_sem high] own_gtr own_leq own_geq own_cell_set Option.map_some fld24_3
set_option linter.unusedVariables false
set_option linter.unusedSimpArgs false
def okB (st : ByteArray) : Bool := st.data.toList.all fun b => decide (32 ≤ b.toNat ∧ b.toNat ≤ 126)
def noS (st : ByteArray) : Bool := st.toList == ([] : List UInt8)
def rightB (kd n sc : Int) (st : ByteArray) : Bool :=
  if kd = 0 then n == 0 && (sc == 0 && noS st)
  else if kd = 1 then decide (0 ≤ n ∧ n ≤ 1) && (sc == 0 && noS st)
  else if kd = 2 then sc == 0 && noS st
  else if kd = 3 then decide (-1000000000000000 < n ∧ n < 1000000000000000 ∧ 0 ≤ sc ∧ sc ≤ 6 ∧ (sc = 0 ∨ n % 10 ≠ 0)) && noS st
  else if kd = 4 then decide (n = 0 ∧ sc = 0 ∧ st.data.size ≤ 40) && okB st
  else if kd = 5 then decide (n = 0 ∧ sc = 0 ∧ st.data.size ≤ 40)
  else false
end Go.Proofs.Ytjacflmgbmfhcaa.K
namespace Go.Proofs.Ytjacflmgbmfhcaa.K
open Go.RowKit Go.Proofs.YtjacflmgbmfhcaaW.PrintWords Go.Proofs.YtjacflmgbmfhcaaW.PrintLast Go.Proofs.YtjacflmgbmfhcaaW.PrintMore
attribute [local go_sem] max2_int min2_int max_two min_two max_three min_three max_four min_four
attribute [local go_sem high] own_gtr own_leq own_geq own_cell_set Option.map_some fld24_3
set_option linter.unusedVariables false
set_option linter.unusedSimpArgs false
theorem son_toList (L : List Int) : (strOfNums L).toList = L.map fun n => UInt8.ofNat n.toNat := by
  rw [Lib.toList_data]; rfl
theorem son_size (L : List Int) : (strOfNums L).size = L.length := by simp [strOfNums, ByteArray.size]
theorem u8_back {x : Int} (h : 0 ≤ x ∧ x < 256) : ((UInt8.ofNat x.toNat).toNat : Int) = x := by
  rw [UInt8.toNat_ofNat']
  omega
theorem byteL_son {L : List Int} (h : isB L) : byteL (strOfNums L) = L := by
  unfold byteL
  rw [strOfNums_data, List.map_map]
  conv => rhs; rw [← List.map_id L]
  apply List.map_congr_left
  intro x hx
  exact u8_back (h x hx)
theorem byteL_isB (s : ByteArray) : isB (byteL s) := by
  intro x hx
  obtain ⟨b, _, rfl⟩ := List.mem_map.1 hx
  have := b.toNat_lt
  omega
theorem byteL_len (s : ByteArray) : (byteL s).length = s.size := by unfold byteL; rw [List.length_map]; rfl
theorem son_byteL (s : ByteArray) : strOfNums (byteL s) = s := by
  apply ByteArray.ext
  unfold strOfNums byteL
  simp only [List.map_map]
  have : (s.data.toList.map ((fun n : Int => UInt8.ofNat n.toNat) ∘ fun b : UInt8 => (b.toNat : Int))) = s.data.toList := by
    conv => rhs; rw [← List.map_id s.data.toList]
    apply List.map_congr_left
    intro x _
    simp
  rw [this]
theorem toList_inj {s t : ByteArray} : s.toList = t.toList ↔ s = t := by
  constructor
  · intro h
    rw [Lib.toList_data, Lib.toList_data] at h
    apply ByteArray.ext
    exact Array.toList_inj.1 h
  · rintro rfl; rfl
theorem son_take (L : List Int) (n : Nat) : (strOfNums L).extract 0 n = strOfNums (L.take n) := by
  apply ByteArray.ext
  apply Array.toList_inj.1
  rw [Lib.extract_data, strOfNums_data, strOfNums_data, List.drop_zero, Nat.sub_zero, ← List.map_take]
def lessL : List Int → List Int → Bool
  | [], [] => false
  | [], _ :: _ => true
  | _ :: _, [] => false
  | a :: x, b :: y => decide (a < b) || (a == b && lessL x y)
theorem u8_lt {a b : Int} (ha : 0 ≤ a ∧ a < 256) (hb : 0 ≤ b ∧ b < 256) : (UInt8.ofNat a.toNat < UInt8.ofNat b.toNat) ↔ a < b := by
  rw [UInt8.lt_iff_toNat_lt]
  have h1 := u8_back ha
  have h2 := u8_back hb
  omega
theorem u8_eq {a b : Int} (ha : 0 ≤ a ∧ a < 256) (hb : 0 ≤ b ∧ b < 256) : (UInt8.ofNat a.toNat = UInt8.ofNat b.toNat) ↔ a = b := by
  constructor
  · intro h
    have h1 := u8_back ha
    have h2 := u8_back hb
    rw [h] at h1
    omega
  · rintro rfl; rfl
theorem less_map : ∀ (L M : List Int), isB L → isB M → Op.bytesLess (L.map fun n => UInt8.ofNat n.toNat) (M.map fun n => UInt8.ofNat n.toNat) = lessL L M
  | [], [], _, _ => rfl
  | [], _ :: _, _, _ => rfl
  | _ :: _, [], _, _ => rfl
  | a :: x, b :: y, hL, hM => by
    simp only [List.map_cons, Op.bytesLess, lessL]
    rw [less_map x y (isB_tail hL) (isB_tail hM)]
    have h1 := u8_lt (isB_head hL) (isB_head hM)
    have h2 := u8_eq (isB_head hL) (isB_head hM)
    congr 1
    · rw [Bool.eq_iff_iff]; simpa using h1
    · congr 1
      rw [Bool.eq_iff_iff, beq_iff_eq, beq_iff_eq]; exact h2
theorem less_son {L M : List Int} (hL : isB L) (hM : isB M) : Op.bytesLess (strOfNums L).toList (strOfNums M).toList = lessL L M := by
  rw [son_toList, son_toList]; exact less_map L M hL hM
theorem less_bytes (s t : ByteArray) : Op.bytesLess s.toList t.toList = lessL (byteL s) (byteL t) := by
  rw [← less_son (byteL_isB s) (byteL_isB t), son_byteL, son_byteL]
theorem lessL_irrefl : ∀ L, lessL L L = false
  | [] => rfl
  | a :: x => by simp [lessL, lessL_irrefl x]
theorem lessL_same (u v : List Int) : ∀ L, lessL (L ++ u) (L ++ v) = lessL u v
  | [] => rfl
  | a :: x => by simp [lessL, lessL_same u v x]
theorem lessL_len (u v : List Int) : ∀ L M : List Int, L.length = M.length → lessL (L ++ u) (M ++ v) = if L = M then lessL u v else lessL L M
  | [], [], _ => by simp
  | [], _ :: _, h => by simp at h
  | _ :: _, [], h => by simp at h
  | a :: x, b :: y, h => by
    simp only [List.cons_append, lessL]
    rw [lessL_len u v x y (by simpa using h)]
    by_cases e : a = b
    · subst e
      by_cases e2 : x = y
      · subst e2; simp
      · rw [if_neg e2, if_neg (by simpa using e2)]
    · have e3 : ¬ (a :: x = b :: y) := by simp [e]
      have : (a == b) = false := by simpa using e
      rw [if_neg e3, this]; simp
theorem be_lt : ∀ (k : Nat) (a b : Int), 0 ≤ a → a < p256 k → 0 ≤ b → b < p256 k → lessL (be a k) (be b k) = decide (a < b)
  | 0, a, b, h0, h1, h2, h3 => by
    rw [p256_zero] at h1 h3
    rw [decide_eq_false (by omega)]; rfl
  | k + 1, a, b, h0, h1, h2, h3 => by
    have hp := p256_pos k
    rw [p256_succ] at h1 h3
    have a1 := Int.mul_ediv_add_emod a (p256 k)
    have b1 := Int.mul_ediv_add_emod b (p256 k)
    have a2 := Int.emod_nonneg a (show p256 k ≠ 0 by omega)
    have b2 := Int.emod_nonneg b (show p256 k ≠ 0 by omega)
    have a3 := Int.emod_lt_of_pos a hp
    have b3 := Int.emod_lt_of_pos b hp
    have a4 : 0 ≤ a / p256 k := Int.ediv_nonneg h0 (by omega)
    have b4 : 0 ≤ b / p256 k := Int.ediv_nonneg h2 (by omega)
    have a5 : a / p256 k < 256 := Int.ediv_lt_of_lt_mul hp (by rw [Int.mul_comm]; exact h1)
    have b5 : b / p256 k < 256 := Int.ediv_lt_of_lt_mul hp (by rw [Int.mul_comm]; exact h3)
    have ih := be_lt k (a % p256 k) (b % p256 k) a2 a3 b2 b3
    have ea : be (a % p256 k) k = be a k := be_eq_of_emod (Int.emod_emod_of_dvd a (Int.dvd_refl _))
    have eb : be (b % p256 k) k = be b k := be_eq_of_emod (Int.emod_emod_of_dvd b (Int.dvd_refl _))
    rw [ea, eb] at ih
    simp only [be, lessL]
    rw [ih, Int.emod_eq_of_lt a4 a5, Int.emod_eq_of_lt b4 b5, Bool.eq_iff_iff]
    simp only [Bool.or_eq_true, Bool.and_eq_true, decide_eq_true_eq, beq_iff_eq]
    generalize a / p256 k = u at *
    generalize b / p256 k = v at *
    generalize a % p256 k = r at *
    generalize b % p256 k = s at *
    generalize p256 k = p at *
    constructor
    · rintro (h | ⟨rfl, h⟩)
      · have : p * (u + 1) ≤ p * v := Int.mul_le_mul_of_nonneg_left (by omega) (by omega)
        rw [Int.mul_add, Int.mul_one] at this
        omega
      · omega
    · intro h
      by_cases c : u < v
      · exact Or.inl c
      · by_cases c2 : u = v
        · subst c2; exact Or.inr ⟨rfl, by omega⟩
        · have : p * (v + 1) ≤ p * u := Int.mul_le_mul_of_nonneg_left (by omega) (by omega)
          rw [Int.mul_add, Int.mul_one] at this
          omega
theorem be_inj {k : Nat} {a b : Int} (h0 : 0 ≤ a) (h1 : a < p256 k) (h2 : 0 ≤ b) (h3 : b < p256 k) (h : be a k = be b k) : a = b := by
  have ha := num256_be a k
  have hb := num256_be b k
  rw [h, hb, Int.emod_eq_of_lt h0 h1, Int.emod_eq_of_lt h2 h3] at ha
  exact ha.symm
end Go.Proofs.Ytjacflmgbmfhcaa.K
namespace Go.Proofs.Ytjacflmgbmfhcaa.K
open Go.RowKit Go.Proofs.YtjacflmgbmfhcaaW.PrintWords Go.Proofs.YtjacflmgbmfhcaaW.PrintLast Go.Proofs.YtjacflmgbmfhcaaW.PrintMore
attribute [local go_sem] max2_int min2_int max_two min_two max_three min_three max_four min_four
attribute [local go_sem high] own_gtr own_leq own_geq own_cell_set Option.map_some fld24_3
set_option linter.unusedVariables false
set_option linter.unusedSimpArgs false
def cmpI (a b : Int) : Int := if a < b then -1 else if b < a then 1 else 0
def cmpT (a b : ByteArray) : Int := if Op.bytesLess a.toList b.toList = true then -1 else if Op.bytesLess b.toList a.toList = true then 1 else 0
theorem bytesLess_irrefl : ∀ a : List UInt8, Op.bytesLess a a = false
  | [] => rfl
  | x :: a => by simp [Op.bytesLess, bytesLess_irrefl a]
theorem bytesLess_total (a b : List UInt8) : Op.bytesLess a b = true ∨ a = b ∨ Op.bytesLess b a = true := by
  have := bytesLess_swap a b
  cases h : Op.bytesLess a b with
  | true => exact Or.inl rfl
  | false =>
    rw [h, Bool.false_or] at this
    by_cases e : a = b
    · exact Or.inr (Or.inl e)
    · right; right; rw [this]; simpa using e
theorem bytesLess_asymm (a b : List UInt8) (h : Op.bytesLess a b = true) : Op.bytesLess b a = false := by
  have := bytesLess_swap a b
  rw [h] at this
  simpa using this
def mic (n sc : Int) : Int := n * p10 (6 - sc.toNat)
def ordB (k1 n1 s1 : Int) (t1 : ByteArray) (k2 n2 s2 : Int) (t2 : ByteArray) : Int :=
  if k1 = k2 then (if k1 = 1 ∨ k1 = 2 then cmpI n1 n2 else if k1 = 3 then cmpI (mic n1 s1) (mic n2 s2) else cmpT t1 t2) else cmpI k1 k2
theorem cmpI_congr {a b c d : Int} (h : c < d ↔ a < b) (k : d < c ↔ b < a) : cmpI c d = cmpI a b := by
  unfold cmpI; simp only [h, k]
theorem parts_order' {a b : Int} (q : Int) (hq : 0 < q) : (if cmpI (a / q) (b / q) = 0 then cmpI (a % q) (b % q) else cmpI (a / q) (b / q)) = cmpI a b := by
  have ha := Int.mul_ediv_add_emod a q
  have hb := Int.mul_ediv_add_emod b q
  have a1 := Int.emod_lt_of_pos a hq
  have b1 := Int.emod_lt_of_pos b hq
  have a4 := Int.emod_nonneg a (show q ≠ 0 by omega)
  have b4 := Int.emod_nonneg b (show q ≠ 0 by omega)
  generalize a / q = u at *
  generalize b / q = v at *
  generalize a % q = c at *
  generalize b % q = d at *
  rcases Int.lt_trichotomy u v with h | h | h
  · have h1 : q * u + q ≤ q * v := by
      have := Int.mul_le_mul_of_nonneg_left (show u + 1 ≤ v by omega) (show 0 ≤ q by omega)
      rw [Int.mul_add, Int.mul_one] at this; exact this
    have : cmpI u v = -1 := by unfold cmpI; rw [if_pos h]
    rw [if_neg (by rw [this]; decide), this]
    unfold cmpI
    rw [if_pos (by omega)]
  · subst h
    have : cmpI u u = 0 := by unfold cmpI; rw [if_neg (Int.lt_irrefl _), if_neg (Int.lt_irrefl _)]
    rw [if_pos this]
    clear this
    obtain ⟨m, hm⟩ : ∃ m, m = q * u := ⟨_, rfl⟩
    rw [← hm] at ha hb
    exact cmpI_congr (by omega) (by omega)
  · have h1 : q * v + q ≤ q * u := by
      have := Int.mul_le_mul_of_nonneg_left (show v + 1 ≤ u by omega) (show 0 ≤ q by omega)
      rw [Int.mul_add, Int.mul_one] at this; exact this
    have : cmpI u v = 1 := by unfold cmpI; rw [if_neg (by omega), if_pos h]
    rw [if_neg (by rw [this]; decide), this]
    unfold cmpI
    rw [if_neg (by omega), if_pos (by omega)]
theorem p10_six_sub (s : Nat) (h : s ≤ 6) : p10 s * p10 (6 - s) = 1000000 := by
  rw [← p10_add, show s + (6 - s) = 6 by omega, p10_six]
theorem tdiv_pows (s : Nat) (hs : s ≤ 6) : Int.tdiv (p10 6) (p10 s) = p10 (6 - s) := by
  have h := p10_six_sub s hs
  rw [p10_six, ← h, Int.mul_comm, Int.mul_tdiv_cancel _ (by have := p10_pos s; omega)]
theorem mic_ediv (n : Int) (s : Nat) (hs : s ≤ 6) : (n * p10 (6 - s)) / 1000000 = n / p10 s := by
  rw [← p10_six_sub s hs]; exact Int.mul_ediv_mul_of_pos_left _ _ (p10_pos _)
theorem mic_emod (n : Int) (s : Nat) (hs : s ≤ 6) : (n * p10 (6 - s)) % 1000000 = n % p10 s * p10 (6 - s) := by
  have h1 := Int.mul_ediv_add_emod (n * p10 (6 - s)) 1000000
  have h2 := Int.mul_ediv_add_emod n (p10 s)
  rw [mic_ediv n s hs] at h1
  have h3 : (p10 s * (n / p10 s) + n % p10 s) * p10 (6 - s) = n * p10 (6 - s) := by rw [h2]
  rw [Int.add_mul, Int.mul_assoc, Int.mul_comm (n / p10 s), ← Int.mul_assoc, p10_six_sub s hs] at h3
  omega
end Go.Proofs.Ytjacflmgbmfhcaa.K
namespace Go.Proofs.Ytjacflmgbmfhcaa.K
open Go.RowKit Go.Proofs.YtjacflmgbmfhcaaW.PrintWords Go.Proofs.YtjacflmgbmfhcaaW.PrintLast Go.Proofs.YtjacflmgbmfhcaaW.PrintMore
attribute [local go_sem] max2_int min2_int max_two min_two max_three min_three max_four min_four
attribute [local go_sem high] own_gtr own_leq own_geq own_cell_set Option.map_some fld24_3
set_option linter.unusedVariables false
set_option linter.unusedSimpArgs false
def I64 (x : Int) : Prop := -9223372036854775808 ≤ x ∧ x ≤ 9223372036854775807
end Go.Proofs.Ytjacflmgbmfhcaa.K
namespace Go.Proofs.Ytjacflmgbmfhcaa.K
open Go.RowKit Go.Proofs.YtjacflmgbmfhcaaW.PrintWords Go.Proofs.YtjacflmgbmfhcaaW.PrintLast Go.Proofs.YtjacflmgbmfhcaaW.PrintMore
attribute [local go_sem] max2_int min2_int max_two min_two max_three min_three max_four min_four
attribute [local go_sem high] own_gtr own_leq own_geq own_cell_set Option.map_some fld24_3
set_option linter.unusedVariables false
set_option linter.unusedSimpArgs false
structure RD (n : Int) (s : Nat) : Prop where
  lo : -1000000000000000 < n
  hi : n < 1000000000000000
  sc : s ≤ 6
  nm : s = 0 ∨ n % 10 ≠ 0
theorem ediv_small {n p : Int} (hp : 0 < p) (h0 : -1000000000000000 < n) (h1 : n < 1000000000000000) : -1000000000000000 ≤ n / p ∧ n / p ≤ 1000000000000000 := by
  have e := Int.mul_ediv_add_emod n p
  have e1 := Int.emod_lt_of_pos n hp
  have e2 := Int.emod_nonneg n (show p ≠ 0 by omega)
  have e3 := Int.natAbs_ediv_le_natAbs n p
  omega
structure RV (kd n : Int) (s : Nat) : Prop where
  i : I64 n
  d : kd = 3 → RD n s
end Go.Proofs.Ytjacflmgbmfhcaa.K
namespace Go.Proofs.Ytjacflmgbmfhcaa.K
open Go.RowKit Go.Proofs.YtjacflmgbmfhcaaW.PrintWords Go.Proofs.YtjacflmgbmfhcaaW.PrintLast Go.Proofs.YtjacflmgbmfhcaaW.PrintMore
attribute [local go_sem] max2_int min2_int max_two min_two max_three min_three max_four min_four
attribute [local go_sem high] own_gtr own_leq own_geq own_cell_set Option.map_some fld24_3
set_option linter.unusedVariables false
set_option linter.unusedSimpArgs false
def BufAt (w : World) (G : Nat) (l : List Int) : Prop := ∃ cur : Array Value, ∃ m : Nat, w.heap[G]? = some (.cells cur 5 (m, m + 1)) ∧ l.length ≤ m ∧ m = cur.size ∧ ∀ j, j < l.length → cur[j]? = some (.int .u8 (l.getD j 0))
theorem BufAt.cell {w : World} {G : Nat} {l : List Int} (h : BufAt w G l) (j : Nat) (hj : j < l.length) : w.cell? ⟨G, j, none⟩ = some (.int .u8 (l.getD j 0)) := by
  obtain ⟨cur, m, h1, h2, h3, h4⟩ := h
  simp [World.cell?, h1, h4 j hj]
theorem BufAt.frozen {w : World} {G : Nat} {l : List Int} (h : BufAt w G l) (j : Nat) (hj : j < l.length) : w.frozen? ⟨G, j, none⟩ = false := by
  obtain ⟨cur, m, h1, h2, h3, h4⟩ := h
  simp [World.frozen?, h1]; omega
theorem BufAt.set {w : World} {G : Nat} {l : List Int} (h : BufAt w G l) (j : Nat) (x : Int) : BufAt (w.setCell ⟨G, j, none⟩ (.int .u8 x)) G (l.set j x) := by
  obtain ⟨cur, m, h1, h2, h3, h4⟩ := h
  refine ⟨cur.setIfInBounds j (.int .u8 x), m, ?_, by simpa using h2, by simpa using h3, ?_⟩
  · simp [World.setCell, Array.getElem?_modify, h1]
  · intro i hi
    rw [List.length_set] at hi
    rw [Array.getElem?_setIfInBounds]
    by_cases e : j = i
    · subst e
      rw [if_pos rfl, if_pos (by omega)]
      simp [List.getD, hi]
    · rw [if_neg e, h4 i hi]
      simp [List.getD, List.getElem?_set_ne e]
theorem BufAt.drewN {w : World} {G : Nat} {l : List Int} (h : BufAt w G l) (n : Nat) : BufAt (w.drewN n) G l := by
  obtain ⟨cur, m, h1, h⟩ := h
  exact ⟨cur, m, by simpa using h1, h⟩
theorem BufAt.lt {w : World} {G : Nat} {l : List Int} (h : BufAt w G l) : G < w.heap.size := by
  obtain ⟨cur, m, h1, h⟩ := h
  exact (Array.getElem?_eq_some_iff.1 h1).1
end Go.Proofs.Ytjacflmgbmfhcaa.K
namespace Go.Proofs.Ytjacflmgbmfhcaa.K
open Go.RowKit Go.Proofs.YtjacflmgbmfhcaaW.PrintWords Go.Proofs.YtjacflmgbmfhcaaW.PrintLast Go.Proofs.YtjacflmgbmfhcaaW.PrintMore
attribute [local go_sem] max2_int min2_int max_two min_two max_three min_three max_four min_four
attribute [local go_sem high] own_gtr own_leq own_geq own_cell_set Option.map_some fld24_3
set_option linter.unusedVariables false
set_option linter.unusedSimpArgs false
theorem emod_bd (a n : Int) (h0 : 0 < n) : 0 ≤ a % n ∧ a % n < n := ⟨Int.emod_nonneg a (by omega), Int.emod_lt_of_pos a h0⟩
theorem extract_size (st : ByteArray) (j : Nat) : (st.extract 0 j).data.size = min j st.data.size := by
  rw [← Array.length_toList, Lib.extract_data]
  simp
structure Made (kd n : Int) (s : Nat) (st : ByteArray) : Prop where
  r : rightB kd n (s : Int) st = true
  v : RV kd n s
  sz : st.data.size ≤ 40
  k0 : 0 ≤ kd
  k5 : kd ≤ 5
  z : kd ≠ 3 → s = 0
end Go.Proofs.Ytjacflmgbmfhcaa.K
namespace Go.Proofs.Ytjacflmgbmfhcaa.K
open Go.RowKit Go.Proofs.YtjacflmgbmfhcaaW.PrintWords Go.Proofs.YtjacflmgbmfhcaaW.PrintLast Go.Proofs.YtjacflmgbmfhcaaW.PrintMore
attribute [local go_sem] max2_int min2_int max_two min_two max_three min_three max_four min_four
attribute [local go_sem high] own_gtr own_leq own_geq own_cell_set Option.map_some fld24_3
set_option linter.unusedVariables false
set_option linter.unusedSimpArgs false
def escL (xs : List Int) : List Int := xs.flatMap escOne ++ [0, 1]
theorem escAll_eq (s : ByteArray) : escAll s = escL (byteL s) := rfl
theorem escL_nil : escL [] = [0, 1] := rfl
theorem escL_cons (x : Int) (xs : List Int) : escL (x :: xs) = escOne x ++ escL xs := by simp [escL]
theorem escOne_isB {x : Int} (h : 0 ≤ x ∧ x < 256) : isB (escOne x) := by
  unfold escOne
  split
  · exact isB_cons (by omega) (isB_cons (by omega) isB_nil)
  · exact isB_cons h isB_nil
theorem escL_isB : ∀ {xs : List Int}, isB xs → isB (escL xs)
  | [], _ => isB_cons (by omega) (isB_cons (by omega) isB_nil)
  | x :: xs, h => by rw [escL_cons]; exact isB_append (escOne_isB (isB_head h)) (escL_isB (isB_tail h))
theorem escL_len : ∀ xs : List Int, 2 ≤ (escL xs).length ∧ (escL xs).length ≤ 2 * xs.length + 2
  | [] => by simp [escL_nil]
  | x :: xs => by
    have := escL_len xs
    have h := escOne_len x
    rw [escL_cons, List.length_append, List.length_cons]
    omega
theorem esc_less (u v : List Int) : ∀ xs ys : List Int, isB xs → isB ys → xs ≠ ys → lessL (escL xs ++ u) (escL ys ++ v) = lessL xs ys
  | [], [], _, _, h => absurd rfl h
  | [], y :: ys, _, hy, _ => by
    have := isB_head hy
    rw [escL_nil, escL_cons]
    unfold escOne
    split
    · simp [lessL]
    · have : 0 < y := by omega
      simp [lessL, this]
  | x :: xs, [], hx, _, _ => by
    have := isB_head hx
    rw [escL_nil, escL_cons]
    unfold escOne
    split
    · simp [lessL]
    · rename_i h
      have h2 : ¬ x < 0 := by omega
      simp [lessL, h, h2]
  | x :: xs, y :: ys, hx, hy, h => by
    have h1 := isB_head hx
    have h2 := isB_head hy
    rw [escL_cons, escL_cons, List.append_assoc, List.append_assoc]
    by_cases e : x = y
    · subst e
      rw [lessL_same, esc_less u v xs ys (isB_tail hx) (isB_tail hy) (fun h' => h (by rw [h']))]
      simp [lessL]
    · have e2 : (x == y) = false := by simpa using e
      unfold escOne
      by_cases a : x = 0
      · subst a
        rw [if_pos rfl, if_neg (fun h' => e h'.symm)]
        have : 0 < y := by omega
        simp [lessL, this]
      · rw [if_neg a]
        by_cases b : y = 0
        · subst b
          rw [if_pos rfl]
          simp [lessL, e2]
        · rw [if_neg b]
          simp [lessL, e2]
theorem tdm (n p : Int) (hp : 0 < p) : (n.tmod p < 0 ∧ n / p = n.tdiv p - 1 ∧ n % p = n.tmod p + p) ∨ (¬ n.tmod p < 0 ∧ n / p = n.tdiv p ∧ n % p = n.tmod p) := by
  have e1 := Int.mul_tdiv_add_tmod n p
  have e5 := Int.tmod_lt_of_pos n hp
  have e6 := Int.tmod_lt_of_pos (-n) hp
  rw [Int.neg_tmod] at e6
  by_cases c : n.tmod p < 0
  · have := (Int.ediv_emod_unique (a := n) (r := n.tmod p + p) (q := n.tdiv p - 1) hp).2 ⟨by rw [Int.mul_sub, Int.mul_one]; omega, by omega, by omega⟩
    exact Or.inl ⟨c, this.1, this.2⟩
  · have := (Int.ediv_emod_unique (a := n) (r := n.tmod p) (q := n.tdiv p) hp).2 ⟨by omega, by omega, by omega⟩
    exact Or.inr ⟨c, this.1, this.2⟩
theorem key_scaled_l0 (kd n : Int) (s : Nat) (st : ByteArray) (hs : s ≤ 6) (h0 : -1000000000000000 < n) (h1 : n < 1000000000000000) : ∀ (d k i : Nat), d < k → i + d = s → key_scaled.l0 k (p10 i) (s : Int) (i : Int) kd n (s : Int) st = some (n / p10 s, n % p10 s * p10 (6 - s))
  | 0, k, i, hk, hd => by
    obtain ⟨k, rfl⟩ : ∃ m, k = m + 1 := ⟨k - 1, by omega⟩
    obtain rfl : i = s := by omega
    have hp := p10_pos i
    have hp6 := p10_mono (m := i) (n := 6) hs
    have e6 := p10_six
    have hq := p10_six_sub i hs
    have hq0 := p10_pos (6 - i)
    have ht := tdiv_pows i hs
    rw [e6] at ht
    have hq1 := p10_mono (m := 6 - i) (n := 6) (by omega)
    have hd := ediv_small hp h0 h1
    have hm0 := Int.emod_nonneg n (show p10 i ≠ 0 by omega)
    have hm1 := Int.emod_lt_of_pos n hp
    have hmul : n % p10 i * p10 (6 - i) ≤ p10 i * p10 (6 - i) := Int.mul_le_mul_of_nonneg_right (by omega) (by omega)
    have hmul0 : 0 ≤ n % p10 i * p10 (6 - i) := Int.mul_nonneg hm0 (by omega)
    simp only [key_scaled.l0]
    rw [if_neg (by omega), if_neg (by omega), ht, wrap64_of (x := p10 (6 - i)) (by omega) (by omega)]
    rcases tdm n (p10 i) hp with ⟨c, e1, e2⟩ | ⟨c, e1, e2⟩
    · rw [if_pos c, wrap64_of (x := n.tdiv (p10 i)) (by omega) (by omega), wrap64_of (x := n.tdiv (p10 i) - 1) (by omega) (by omega), wrap64_of (x := n.tmod (p10 i) + p10 i) (by omega) (by omega), ← e1, ← e2, wrap64_of (by omega) (by omega)]
    · rw [if_neg c, wrap64_of (x := n.tdiv (p10 i)) (by omega) (by omega), ← e1, ← e2, wrap64_of (by omega) (by omega)]
  | d + 1, k, i, hk, hd => by
    obtain ⟨k, rfl⟩ : ∃ m, k = m + 1 := ⟨k - 1, by omega⟩
    have hp := p10_le (i + 1) (by omega)
    have hp0 := p10_pos (i + 1)
    simp only [key_scaled.l0]
    rw [if_pos (by omega), ← p10_succ, wrap64_of (by omega) (by omega), wrap64_of (by omega) (by omega), show (i : Int) + 1 = ((i + 1 : Nat) : Int) by omega]
    exact key_scaled_l0 kd n s st hs h0 h1 d k (i + 1) (by omega) (by omega)
theorem key_scaled_eq (k : Nat) (kd n : Int) (s : Nat) (st : ByteArray) (hk : 6 < k) (h : RD n s) : key_scaled.f k kd n (s : Int) st = some (n / p10 s, n % p10 s * p10 (6 - s)) := by
  have hs := h.sc
  exact key_scaled_l0 kd n s st hs h.lo h.hi s k 0 (by omega) (by omega)
def keyB (kd n : Int) (s : Nat) (st : ByteArray) : List Int :=
  if kd = 1 then [n] else if kd = 2 then be (n + 9223372036854775808) 8
  else if kd = 3 then be (n / p10 s + 9223372036854775808) 8 ++ be (n % p10 s * p10 (6 - s)) 4
  else if kd = 4 ∨ kd = 5 then escL (byteL st) else []
def keyL (kd n : Int) (s : Nat) (st : ByteArray) : List Int := kd :: keyB kd n s st
theorem right_bool {n sc : Int} {st : ByteArray} (h : rightB 1 n sc st = true) : 0 ≤ n ∧ n ≤ 1 := by
  unfold rightB at h
  rw [if_neg (by decide), if_pos rfl] at h
  simp only [Bool.and_eq_true, decide_eq_true_eq] at h
  exact h.1
theorem keyB_isB {kd n : Int} {s : Nat} {st : ByteArray} (m : Made kd n s st) : isB (keyB kd n s st) := by
  unfold keyB
  by_cases h1 : kd = 1
  · subst h1
    have := right_bool m.r
    rw [if_pos rfl]
    exact isB_cons (by omega) isB_nil
  rw [if_neg h1]
  by_cases h2 : kd = 2
  · rw [if_pos h2]; exact be_isB _ _
  rw [if_neg h2]
  by_cases h3 : kd = 3
  · rw [if_pos h3]; exact isB_append (be_isB _ _) (be_isB _ _)
  rw [if_neg h3]
  split
  · exact escL_isB (byteL_isB st)
  · exact isB_nil
theorem keyL_isB {kd n : Int} {s : Nat} {st : ByteArray} (m : Made kd n s st) : isB (keyL kd n s st) :=
  isB_cons (by have := m.k0; have := m.k5; omega) (keyB_isB m)
theorem key_Key_eq {kd n : Int} {s : Nat} {st : ByteArray} (m : Made kd n s st) (k : Nat) (hk : 20 < k) : key_Key.f k kd n (s : Int) st = some (strOfNums (keyL kd n s st)) := by
  have hz : st.size = st.data.size := rfl
  have hsz := m.sz
  have he := escL_len (byteL st)
  rw [byteL_len] at he
  have k0 := m.k0
  have k5 := m.k5
  have hm : kd % 256 = kd := by omega
  unfold key_Key.f keyL keyB
  by_cases h4 : kd = 4
  · subst h4
    rw [if_pos rfl, if_pos (by omega), escAll_eq, if_pos (by omega), if_neg (by decide), if_neg (by decide), if_neg (by decide), if_pos (Or.inl rfl)]
  rw [if_neg h4]
  by_cases h5 : kd = 5
  · subst h5
    rw [if_pos rfl, if_pos (by omega), escAll_eq, if_pos (by omega), if_neg (by decide), if_neg (by decide), if_neg (by decide), if_pos (Or.inr rfl)]
  rw [if_neg h5]
  unfold key_Key_p.f
  rw [Option.bind_some, hm]
  by_cases h1 : kd = 1
  · subst h1
    have := right_bool m.r
    rw [if_pos rfl, if_pos rfl, if_pos (by simp), show n % 256 = n by omega]; rfl
  rw [if_neg h1, if_neg h1]
  by_cases h2 : kd = 2
  · rw [if_pos h2, if_pos h2, key_signed_eq k n (by omega), Option.bind_some, if_pos (by rw [be_len]; simp)]; rfl
  rw [if_neg h2, if_neg h2]
  by_cases h3 : kd = 3
  · have hd := m.v.d h3
    have hs := hd.sc
    obtain ⟨k, rfl⟩ : ∃ j, k = j + 1 := ⟨k - 1, by omega⟩
    rw [if_pos h3, if_pos h3, if_neg (by omega), decide_eq_false (by omega)]
    simp only [key_Key_p.j0]
    have e4 := key_number_eq (n % p10 s * p10 (6 - s)) 4 k (by omega) (by decide) (by decide)
    rw [if_neg (by decide), key_scaled_eq k kd n s st (by omega) hd, Option.bind_some]
    dsimp only
    rw [key_signed_eq k _ (by omega), Option.bind_some, if_pos (by rw [be_len]; simp), Option.bind_some, show (4 : Int) = ((4 : Nat) : Int) from rfl, e4, Option.bind_some, if_pos (by simp [be_len]), List.append_assoc]
    rfl
  · rw [if_neg h3, if_neg h3, if_neg h4, if_neg h5, if_neg (by omega)]
end Go.Proofs.Ytjacflmgbmfhcaa.K
namespace Go.Proofs.Ytjacflmgbmfhcaa.K
open Go.RowKit Go.Proofs.YtjacflmgbmfhcaaW.PrintWords Go.Proofs.YtjacflmgbmfhcaaW.PrintLast Go.Proofs.YtjacflmgbmfhcaaW.PrintMore
attribute [local go_sem] max2_int min2_int max_two min_two max_three min_three max_four min_four
attribute [local go_sem high] own_gtr own_leq own_geq own_cell_set Option.map_some fld24_3
set_option linter.unusedVariables false
set_option linter.unusedSimpArgs false
theorem cmpT_lt (a b : ByteArray) : decide (cmpT a b < 0) = Op.bytesLess a.toList b.toList := by
  unfold cmpT
  cases h : Op.bytesLess a.toList b.toList with
  | true => simp
  | false => cases Op.bytesLess b.toList a.toList <;> simp
theorem cmpT_zero (a b : ByteArray) : (cmpT a b == 0) = (a.toList == b.toList) := by
  unfold cmpT
  rcases bytesLess_total a.toList b.toList with h | h | h
  · have : a.toList ≠ b.toList := by intro e; rw [e, bytesLess_irrefl] at h; cases h
    rw [if_pos h]; simp [this]
  · rw [h, bytesLess_irrefl]; simp
  · have h2 := bytesLess_asymm _ _ h
    have : a.toList ≠ b.toList := by intro e; rw [e, bytesLess_irrefl] at h; cases h
    rw [h2, h]; simp [this]
theorem right_empty {kd n sc : Int} {st : ByteArray} (h : rightB kd n sc st = true) (h0 : 0 ≤ kd) (h3 : kd ≤ 3) : st.toList = [] := by
  have e : noS st = true := by
    unfold rightB at h
    have c : kd = 0 ∨ kd = 1 ∨ kd = 2 ∨ kd = 3 := by omega
    rcases c with rfl | rfl | rfl | rfl
    · simp only [if_true, Bool.and_eq_true] at h; exact h.2.2
    · rw [if_neg (by decide), if_pos rfl] at h; simp only [Bool.and_eq_true] at h; exact h.2.2
    · rw [if_neg (by decide), if_neg (by decide), if_pos rfl] at h; simp only [Bool.and_eq_true] at h; exact h.2
    · rw [if_neg (by decide), if_neg (by decide), if_neg (by decide), if_pos rfl] at h; simp only [Bool.and_eq_true] at h; exact h.2
  simpa [noS] using e
end Go.Proofs.Ytjacflmgbmfhcaa.K
namespace Go.Proofs.Ytjacflmgbmfhcaa.K
open Go.RowKit Go.Proofs.YtjacflmgbmfhcaaW.PrintWords Go.Proofs.YtjacflmgbmfhcaaW.PrintLast Go.Proofs.YtjacflmgbmfhcaaW.PrintMore
attribute [local go_sem] max2_int min2_int max_two min_two max_three min_three max_four min_four
attribute [local go_sem high] own_gtr own_leq own_geq own_cell_set Option.map_some fld24_3
set_option linter.unusedVariables false
set_option linter.unusedSimpArgs false
theorem I64_ediv {n : Int} {s : Nat} (h : RD n s) : I64 (n / p10 s) := by
  have := ediv_small (p10_pos s) h.lo h.hi
  unfold I64; omega
theorem st_empty {st : ByteArray} (h : st.toList = []) : st = ⟨#[]⟩ := toList_inj.1 (h.trans (show [] = (⟨#[]⟩ : ByteArray).toList by decide +kernel))
end Go.Proofs.Ytjacflmgbmfhcaa.K
namespace Go.Proofs.Ytjacflmgbmfhcaa.K
open Go.RowKit Go.Proofs.YtjacflmgbmfhcaaW.PrintWords Go.Proofs.YtjacflmgbmfhcaaW.PrintLast Go.Proofs.YtjacflmgbmfhcaaW.PrintMore
attribute [local go_sem] max2_int min2_int max_two min_two max_three min_three max_four min_four
attribute [local go_sem high] own_gtr own_leq own_geq own_cell_set Option.map_some fld24_3
set_option linter.unusedVariables false
set_option linter.unusedSimpArgs false
theorem cmpI_eq_zero {a b : Int} : cmpI a b = 0 ↔ a = b := by
  unfold cmpI; split <;> (try split) <;> omega
theorem cmpI_lt' {a b : Int} : cmpI a b < 0 ↔ a < b := by
  unfold cmpI; split <;> (try split) <;> omega
theorem cmpT_eq_zero {a b : ByteArray} : cmpT a b = 0 ↔ a = b := by
  have h := cmpT_zero a b
  rw [Bool.eq_iff_iff, beq_iff_eq, beq_iff_eq, toList_inj] at h
  exact h
theorem keyL_less {k1 n1 k2 n2 : Int} {s1 s2 : Nat} {t1 t2 : ByteArray} (m1 : Made k1 n1 s1 t1) (m2 : Made k2 n2 s2 t2) :
    lessL (keyL k1 n1 s1 t1) (keyL k2 n2 s2 t2) = decide (ordB k1 n1 (s1 : Int) t1 k2 n2 (s2 : Int) t2 < 0) := by
  unfold keyL ordB
  rw [lessL]
  by_cases e : k1 = k2
  · subst e
    have k0 := m1.k0
    have k5 := m1.k5
    rw [decide_eq_false (Int.lt_irrefl k1), beq_self_eq_true, Bool.false_or, Bool.true_and, if_pos rfl]
    by_cases c1 : k1 = 1
    · subst c1
      rw [if_pos (Or.inl rfl)]
      have : lessL (keyB 1 n1 s1 t1) (keyB 1 n2 s2 t2) = decide (n1 < n2) := by
        show lessL [n1] [n2] = _
        simp [lessL]
      rw [this, decide_eq_decide, cmpI_lt']
    by_cases c2 : k1 = 2
    · subst c2
      rw [if_pos (Or.inr rfl)]
      have h1 := m1.v.i
      have h2 := m2.v.i
      unfold I64 at h1 h2
      have : lessL (keyB 2 n1 s1 t1) (keyB 2 n2 s2 t2) = decide (n1 < n2) := by
        show lessL (be _ 8) (be _ 8) = _
        rw [be_lt 8 _ _ (by omega) (by rw [p256_8]; omega) (by omega) (by rw [p256_8]; omega), decide_eq_decide]
        omega
      rw [this, decide_eq_decide, cmpI_lt']
    rw [if_neg (by omega)]
    by_cases c3 : k1 = 3
    · subst c3
      rw [if_pos rfl]
      have d1 := m1.v.d rfl
      have d2 := m2.v.d rfl
      have i1 := I64_ediv d1
      have i2 := I64_ediv d2
      unfold I64 at i1 i2
      have part : ∀ (n : Int) (s : Nat), RD n s → 0 ≤ n % p10 s * p10 (6 - s) ∧ n % p10 s * p10 (6 - s) < 1000000 := fun n s d => by
        have hs := d.sc
        have hp := p10_pos s
        have hq := p10_six_sub s hs
        have hq0 := p10_pos (6 - s)
        have hm0 := Int.emod_nonneg n (show p10 s ≠ 0 by omega)
        have hm1 := Int.emod_lt_of_pos n hp
        have hmul : n % p10 s * p10 (6 - s) ≤ (p10 s - 1) * p10 (6 - s) := Int.mul_le_mul_of_nonneg_right (by omega) (by omega)
        rw [Int.sub_mul, Int.one_mul] at hmul
        exact ⟨Int.mul_nonneg hm0 (by omega), by omega⟩
      have q1 := part n1 s1 d1
      have q2 := part n2 s2 d2
      have : lessL (keyB 3 n1 s1 t1) (keyB 3 n2 s2 t2) = decide (cmpI (mic n1 (s1 : Int)) (mic n2 (s2 : Int)) < 0) := by
        show lessL (be _ 8 ++ be _ 4) (be _ 8 ++ be _ 4) = _
        rw [lessL_len _ _ _ _ (by rw [be_len, be_len]), be_lt 4 _ _ q1.1 (by rw [p256_4]; omega) q2.1 (by rw [p256_4]; omega), be_lt 8 _ _ (by omega) (by rw [p256_8]; omega) (by omega) (by rw [p256_8]; omega)]
        have hP := parts_order' (a := n1 * p10 (6 - s1)) (b := n2 * p10 (6 - s2)) 1000000 (by decide)
        rw [mic_ediv n1 s1 d1.sc, mic_ediv n2 s2 d2.sc, mic_emod n1 s1 d1.sc, mic_emod n2 s2 d2.sc] at hP
        unfold mic
        rw [Int.toNat_natCast, Int.toNat_natCast, ← hP]
        by_cases c : n1 / p10 s1 = n2 / p10 s2
        · rw [c, if_pos rfl, if_pos (cmpI_eq_zero.2 rfl), decide_eq_decide, cmpI_lt']
        · rw [if_neg (fun h => c (by have := be_inj (k := 8) (by omega) (by rw [p256_8]; omega) (by omega) (by rw [p256_8]; omega) h; omega)), if_neg (fun h => c (cmpI_eq_zero.1 h)), decide_eq_decide, cmpI_lt']
          omega
      rw [this]
    rw [if_neg c3]
    by_cases c0 : k1 = 0
    · subst c0
      have g1 := st_empty (right_empty m1.r (by decide) (by decide))
      have g2 := st_empty (right_empty m2.r (by decide) (by decide))
      rw [g1, g2, cmpT_eq_zero.2 rfl]
      rfl
    have h45 : k1 = 4 ∨ k1 = 5 := by omega
    have eB : ∀ n s t, keyB k1 n s t = escL (byteL t) := fun n s t => by
      unfold keyB
      rw [if_neg c1, if_neg c2, if_neg c3, if_pos h45]
    rw [eB, eB, cmpT_lt, less_bytes]
    by_cases c : byteL t1 = byteL t2
    · rw [c, lessL_irrefl, lessL_irrefl]
    · have := esc_less [] [] (byteL t1) (byteL t2) (byteL_isB _) (byteL_isB _) c
      rw [List.append_nil, List.append_nil] at this
      exact this
  · have e2 : (k1 == k2) = false := by simpa using e
    rw [if_neg e, e2, Bool.false_and, Bool.or_false, decide_eq_decide, cmpI_lt']
end Go.Proofs.Ytjacflmgbmfhcaa.K
namespace Go.Proofs.Ytjacflmgbmfhcaa.K
open Go.RowKit Go.Proofs.YtjacflmgbmfhcaaW.PrintWords Go.Proofs.YtjacflmgbmfhcaaW.PrintLast Go.Proofs.YtjacflmgbmfhcaaW.PrintMore
attribute [local go_sem] max2_int min2_int max_two min_two max_three min_three max_four min_four
attribute [local go_sem high] own_gtr own_leq own_geq own_cell_set Option.map_some fld24_3
set_option linter.unusedVariables false
set_option linter.unusedSimpArgs false
theorem known2_three : federationlaw2_known.f 300 = some true := by decide +kernel
theorem known2_ge {k : Nat} (h : 300 ≤ k) : federationlaw2_known.f k = some true := at_rounds federationlaw2_known.mono h known2_three
theorem within2_eq (a n : Int) (ha : I64 a) (h0 : 0 < n) (h1 : n ≤ 4611686018427387904) : federationlaw2_within.f a n = some (a % n) := by
  unfold federationlaw2_within.f I64 at *
  rw [if_neg (by omega)]
  have e3 := Int.emod_lt_of_pos a h0
  have e4 := Int.emod_nonneg a (show n ≠ 0 by omega)
  rcases tdm a n h0 with ⟨c, e1, e2⟩ | ⟨c, e1, e2⟩
  · rw [if_pos c, wrap64_of (by omega) (by omega), e2]
  · rw [if_neg c, e2]
theorem bytes_of (s : ByteArray) : ∃ L, isB L ∧ s = strOfNums L ∧ L.length = s.size ∧ byteL s = L := ⟨byteL s, byteL_isB s, (son_byteL s).symm, byteL_len s, rfl⟩
theorem made_bytes {st : ByteArray} (h : st.size ≤ 40) : Made 5 0 0 st where
  r := by
    have hz : st.size = st.data.size := rfl
    unfold rightB
    rw [if_neg (by decide), if_neg (by decide), if_neg (by decide), if_neg (by decide), if_neg (by decide), if_pos rfl]
    exact decide_eq_true ⟨rfl, rfl, by omega⟩
  v := ⟨by unfold I64; omega, fun e => absurd e (by decide)⟩
  sz := h
  k0 := by decide
  k5 := by decide
  z := fun _ => rfl
theorem sizes_oc (c : Int) {a b : ByteArray} (f : Bool → Option Bool) (h1 : f true = some true) (h2 : (a.size : Int) ≤ c → (b.size : Int) ≤ c → f false = some true) : (if (a.size : Int) > c then f true else f (decide ((b.size : Int) > c))) = some true := by
  by_cases h : (a.size : Int) > c
  · rw [if_pos h, h1]
  · rw [if_neg h]
    by_cases h' : (b.size : Int) > c
    · rw [decide_eq_true h', h1]
    · rw [decide_eq_false h']; exact h2 (by omega) (by omega)
end Go.Proofs.Ytjacflmgbmfhcaa.K
namespace Go.Proofs.Ytjacflmgbmfhcaa.K
open Go.RowKit Go.Proofs.YtjacflmgbmfhcaaW.PrintWords Go.Proofs.YtjacflmgbmfhcaaW.PrintLast Go.Proofs.YtjacflmgbmfhcaaW.PrintMore
attribute [local go_sem] max2_int min2_int max_two min_two max_three min_three max_four min_four
attribute [local go_sem high] own_gtr own_leq own_geq own_cell_set Option.map_some fld24_3
set_option linter.unusedVariables false
set_option linter.unusedSimpArgs false
theorem I64_of {x : Int} (h : (Lit.int .i64 x).wf = true) : I64 x := by
  have h1 : IntKind.i64.min = -9223372036854775808 := by decide
  have h2 : IntKind.i64.max = 9223372036854775807 := by decide
  simp only [Lit.wf, Bool.and_eq_true, decide_eq_true_eq, h1, h2] at h
  exact h
end Go.Proofs.Ytjacflmgbmfhcaa.K
namespace Go.Proofs.Ytjacflmgbmfhcaa.Pure
open Go.RowKit Go.Proofs.Ytjacflmgbmfhcaa.K Go.Proofs.YtjacflmgbmfhcaaW.PrintWords Go.Proofs.YtjacflmgbmfhcaaW.PrintLast Go.Proofs.YtjacflmgbmfhcaaW.PrintMore
theorem less_take (L : List Int) : ∀ c : Nat, c ≤ L.length → lessL (L.take c) L = decide (c < L.length) := by
  induction L with
  | nil => intro c hc; rw [List.take_nil, decide_eq_false (by simp)]; rfl
  | cons x l ih =>
    intro c hc
    cases c with
    | zero => rw [decide_eq_true (by simp)]; rfl
    | succ c =>
      rw [List.take_succ_cons, lessL, ih c (by simpa using hc)]
      simp
theorem KeyTexts : federationlaw2_KeyTexts.Pure := by
  intro a0 a1 a2 z0 z1 w2
  refine ⟨501, ?_⟩
  unfold federationlaw2_KeyTexts.f
  rw [known2_ge (by decide), Option.bind_some, if_pos rfl]
  refine sizes_oc 40 (fun b => federationlaw2_KeyTexts.j0 501 a0 a1 a2 b) rfl fun y0 y1 => ?_
  show federationlaw2_KeyTexts.j0 (500 + 1) a0 a1 a2 false = some true
  have i2 := I64_of w2
  have b2 := emod_bd a2 ((a0.size : Int) + 1) (by omega)
  simp only [federationlaw2_KeyTexts.j0]
  rw [if_neg (by decide), wrap64_of (by omega) (by omega), within2_eq a2 _ i2 (by omega) (by omega), Option.bind_some, if_pos b2.1, if_pos (by omega)]
  generalize hc : (a2 % ((a0.size : Int) + 1)).toNat = c
  have hx := extract_size a0 c
  have hz : (a0.extract 0 c).size = (a0.extract 0 c).data.size := rfl
  have hz0 : a0.size = a0.data.size := rfl
  have m0 := made_bytes (st := a0) (by omega)
  have m1 := made_bytes (st := a1) (by omega)
  have m2 := made_bytes (st := a0.extract 0 c) (by omega)
  have e0 := key_Key_eq m0 500 (by decide)
  have e1 := key_Key_eq m1 500 (by decide)
  have e2 := key_Key_eq m2 500 (by decide)
  have l1 := keyL_less m0 m1
  have l2 := keyL_less m2 m0
  have ho : ∀ s t : ByteArray, ordB 5 0 ((0 : Nat) : Int) s 5 0 ((0 : Nat) : Int) t = cmpT s t := fun s t => by
    unfold ordB; rw [if_pos rfl, if_neg (by decide), if_neg (by decide)]
  rw [ho, cmpT_lt] at l1 l2
  rw [show ((0 : Nat) : Int) = 0 from rfl] at e0 e1 e2
  rw [e0, Option.bind_some, e1, Option.bind_some, less_son (keyL_isB m0) (keyL_isB m1), l1, if_pos (by simp), e2, Option.bind_some, Option.bind_some, less_son (keyL_isB m2) (keyL_isB m0), l2, less_bytes]
  obtain ⟨L, hL, rfl, hl, hby⟩ := bytes_of a0
  rw [son_take, byteL_son hL, byteL_son (isB_take hL c), less_take L c (by omega), son_size, son_size, List.length_take]
  congr 1
  rw [beq_iff_eq, decide_eq_decide]
  omega
end Go.Proofs.Ytjacflmgbmfhcaa.Pure
