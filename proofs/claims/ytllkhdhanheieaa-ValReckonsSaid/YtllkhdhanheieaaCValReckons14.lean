-- Written by drive.py and pack.py (programs of this proof's own) through the kit's printer; not trusted: Lean checks it.
import Derived.Test.YtllkhdhanheieaaCValReckons1
import Derived.Test.YtllkhdhanheieaaCValReckons7
import Derived.Test.YtllkhdhanheieaaCValReckons2
import Derived.Test.YtllkhdhanheieaaCValReckons9
import Derived.Test.YtllkhdhanheieaaCValReckons6
import Derived.Test.YtllkhdhanheieaaCValReckons5
import Derived.Shelf.Small.Strs
import Derived.Ground.Names2Prog
import Derived.Shelf.Slices.SearchI
import Derived.Test.YtllkhdhanheieaaProg
import Derived.Test.YtllkhdhanheieaaCValReckons10
import Derived.Test.YtllkhdhanheieaaCValReckons12
import Derived.Test.YtllkhdhanheieaaCValReckons4
import Derived.Test.YtllkhdhanheieaaCValReckons11
import Derived.Test.YtllkhdhanheieaaCValReckons3
import Derived.Test.YtllkhdhanheieaaCValReckons8
import Derived.Lib.Strings
import Derived.Test.YtllkhdhanheieaaCValReckons13
namespace Go.Proofs.Ytllkhdhanheieaa.R
open Go.RowKit Go.Proofs.YtllkhdhanheieaaW.PrintWords Go.Proofs.YtllkhdhanheieaaW.PrintLast Go.Proofs.YtllkhdhanheieaaW.PrintMore
attribute [local go_sem] max2_int min2_int max_two min_two max_three min_three max_four min_four
attribute [local go_sem high] own_gtr own_leq own_geq own_cell_set Option.map_some fld23_1
set_option linter.unusedVariables false
set_option linter.unusedSimpArgs false
theorem wrap64_of {x : Int} (h0 : -9223372036854775808 ≤ x) (h1 : x ≤ 9223372036854775807) : wrap64 x = x := by
  unfold wrap64; omega
def p10 (n : Nat) : Int := (10 : Int) ^ n
theorem p10_pos (n : Nat) : 0 < p10 n := Int.pow_pos (by decide)
theorem p10_zero : p10 0 = 1 := rfl
theorem p10_succ (n : Nat) : p10 (n + 1) = p10 n * 10 := by unfold p10; rw [Int.pow_succ]
theorem p10_mono {m n : Nat} (h : m ≤ n) : p10 m ≤ p10 n := by
  induction h with
  | refl => exact Int.le_refl _
  | step _ ih => rw [p10_succ]; have := p10_pos m; omega
theorem p10_le (n : Nat) (h : n ≤ 18) : p10 n ≤ 1000000000000000000 := by
  have := p10_mono h
  have e : p10 18 = 1000000000000000000 := by decide
  omega
theorem p10_six : p10 6 = 1000000 := by decide
theorem p10_add (m n : Nat) : p10 (m + n) = p10 m * p10 n := by unfold p10; rw [Int.pow_add]
theorem val_ten_l0 : ∀ (d : Nat) (k i : Nat), d < k → i + d ≤ 18 → val_ten.l0 k (p10 i) ((i + d : Nat) : Int) (i : Int) = some (p10 (i + d))
  | 0, k, i, hk, h => by
    obtain ⟨k, rfl⟩ : ∃ m, k = m + 1 := ⟨k - 1, by omega⟩
    simp only [val_ten.l0]; rw [if_neg (by omega)]; rfl
  | d + 1, k, i, hk, h => by
    obtain ⟨k, rfl⟩ : ∃ m, k = m + 1 := ⟨k - 1, by omega⟩
    simp only [val_ten.l0]; rw [if_pos (by omega)]
    have h1 := p10_le (i + 1) (by omega)
    have h2 := p10_pos (i + 1)
    rw [← p10_succ, wrap64_of (by omega) (by omega), wrap64_of (by omega) (by omega)]
    have := val_ten_l0 d k (i + 1) (by omega) (by omega)
    rw [show i + 1 + d = i + (d + 1) by omega] at this
    exact this
theorem val_ten_eq (k n : Nat) (hk : 18 < k) (h : n ≤ 18) : val_ten.f k (n : Int) = some (p10 n) := by
  have := val_ten_l0 n k 0 (by omega) (by omega)
  rw [Nat.zero_add] at this
  exact this
theorem ref_Ten_l0 : ∀ (d : Nat) (k i : Nat), d < k → i + d ≤ 18 → federationref1_Ten.l0 k ((i + d : Nat) : Int) (p10 i) (i : Int) = some (p10 (i + d))
  | 0, k, i, hk, h => by
    obtain ⟨k, rfl⟩ : ∃ m, k = m + 1 := ⟨k - 1, by omega⟩
    simp only [federationref1_Ten.l0]; rw [if_neg (by omega)]; rfl
  | d + 1, k, i, hk, h => by
    obtain ⟨k, rfl⟩ : ∃ m, k = m + 1 := ⟨k - 1, by omega⟩
    simp only [federationref1_Ten.l0]; rw [if_pos (by omega)]
    have h1 := p10_le (i + 1) (by omega)
    have h2 := p10_pos (i + 1)
    rw [Int.mul_comm, ← p10_succ, wrap64_of (by omega) (by omega), wrap64_of (by omega) (by omega)]
    have := ref_Ten_l0 d k (i + 1) (by omega) (by omega)
    rw [show i + 1 + d = i + (d + 1) by omega] at this
    exact this
theorem ref_Ten_eq (k n : Nat) (hk : 18 < k) (h : n ≤ 18) : federationref1_Ten.f k (n : Int) = some (p10 n) := by
  have := ref_Ten_l0 n k 0 (by omega) (by omega)
  rw [Nat.zero_add] at this
  exact this
def red : Int → Nat → Int × Nat
  | n, 0 => (n, 0)
  | n, s + 1 => if n % 10 = 0 then red (n / 10) s else (n, s + 1)
theorem red_zero : ∀ s, red 0 s = (0, 0)
  | 0 => rfl
  | s + 1 => by simp only [red]; rw [if_pos (by decide)]; exact red_zero s
theorem red_ten (n : Int) (s : Nat) : red (n * 10) (s + 1) = red n s := by
  simp only [red]; rw [if_pos (by omega), show n * 10 / 10 = n by omega]
theorem red_tens (n : Int) : ∀ (j s : Nat), red (n * p10 j) (s + j) = red n s
  | 0, s => by rw [p10_zero, Int.mul_one]; rfl
  | j + 1, s => by rw [p10_succ, ← Int.mul_assoc, ← Nat.add_assoc, red_ten]; exact red_tens n j s
theorem red_scale : ∀ (s : Nat) (n : Int), (red n s).2 ≤ s
  | 0, _ => Nat.le_refl _
  | s + 1, n => by
    simp only [red]
    split
    · exact Nat.le_succ_of_le (red_scale s _)
    · exact Nat.le_refl _
theorem red_value : ∀ (s : Nat) (n : Int), (red n s).1 * p10 (s - (red n s).2) = n
  | 0, n => by simp [red, p10_zero]
  | s + 1, n => by
    simp only [red]
    split
    · rename_i h
      have ih := red_value s (n / 10)
      have hs := red_scale s (n / 10)
      rw [show s + 1 - (red (n / 10) s).2 = (s - (red (n / 10) s).2) + 1 by omega, p10_succ, ← Int.mul_assoc, ih]
      omega
    · simp [p10_zero]
theorem red_done : ∀ (s : Nat) (n : Int), (red n s).2 = 0 ∨ (red n s).1 % 10 ≠ 0
  | 0, _ => Or.inl rfl
  | s + 1, n => by
    simp only [red]
    split
    · exact red_done s _
    · rename_i h; exact Or.inr h
theorem red_same (n : Int) (s : Nat) (h : s = 0 ∨ n % 10 ≠ 0) : red n s = (n, s) := by
  cases s with
  | zero => rfl
  | succ s =>
    simp only [red]
    rw [if_neg (by omega)]
theorem red_abs : ∀ (s : Nat) (n : Int), (red n s).1.natAbs ≤ n.natAbs
  | 0, _ => Nat.le_refl _
  | s + 1, n => by
    simp only [red]
    split
    · exact Nat.le_trans (red_abs s _) (by omega)
    · exact Nat.le_refl _
theorem tmod10 (n : Int) : (Int.tmod n 10 = 0) ↔ n % 10 = 0 := by
  constructor
  · intro h; have := Int.dvd_of_tmod_eq_zero h; omega
  · intro h; exact Int.tmod_eq_zero_of_dvd (by omega)
theorem tdiv10 (n : Int) (h : n % 10 = 0) : Int.tdiv n 10 = n / 10 := by
  rw [Int.tdiv_eq_ediv]; split <;> omega
theorem val_Norm_l0 (st : ByteArray) : ∀ (s k : Nat) (n : Int), s < k → s ≤ 9223372036854775807 → -9223372036854775808 ≤ n → n ≤ 9223372036854775807 → val_Norm.l0 k 3 n (s : Int) st = some (3, (red n s).1, ((red n s).2 : Int), st)
  | 0, k, n, hk, _, _, _ => by
    obtain ⟨k, rfl⟩ : ∃ m, k = m + 1 := ⟨k - 1, by omega⟩
    simp only [val_Norm.l0]; rw [if_pos trivial, if_neg (by omega)]; rfl
  | s + 1, k, n, hk, hs, h0, h1 => by
    obtain ⟨k, rfl⟩ : ∃ m, k = m + 1 := ⟨k - 1, by omega⟩
    simp only [val_Norm.l0]; rw [if_pos trivial, if_pos (by omega)]
    simp only [red]
    by_cases h : n % 10 = 0
    · rw [if_pos ((tmod10 n).2 h), if_pos h, tdiv10 n h, wrap64_of (by omega) (by omega), wrap64_of (by omega) (by omega), show ((s + 1 : Nat) : Int) - 1 = (s : Int) by omega]
      exact val_Norm_l0 st s k (n / 10) (by omega) (by omega) (by omega) (by omega)
    · rw [if_neg (fun e => h ((tmod10 n).1 e)), if_neg h]
theorem val_Norm_eq (k s : Nat) (n : Int) (st : ByteArray) (hk : s + 2 < k) (hs : s ≤ 9223372036854775807) (h0 : -9223372036854775808 ≤ n) (h1 : n ≤ 9223372036854775807) : val_Norm.f k 3 n (s : Int) st = some (3, (red n s).1, ((red n s).2 : Int), st) := by
  obtain ⟨k, rfl⟩ : ∃ m, k = m + 2 := ⟨k - 2, by omega⟩
  unfold val_Norm.f
  rw [if_pos rfl]
  simp only [val_Norm.j0, val_Norm.j1]
  by_cases h : n = 0
  · subst h
    rw [red_zero]
    simp only [beq_self_eq_true, if_true]
    rw [show mn (s : Int) 0 = ((0 : Nat) : Int) by unfold mn; split <;> omega]
    have := val_Norm_l0 st 0 k 0 (by omega) (by omega) (by omega) (by omega)
    exact this
  · rw [if_neg (by simpa using h)]
    exact val_Norm_l0 st s k n (by omega) hs h0 h1
theorem ref_Norm_l0 (st : ByteArray) : ∀ (s k : Nat) (n : Int), s < k → s ≤ 9223372036854775807 → -9223372036854775808 ≤ n → n ≤ 9223372036854775807 → federationref1_Norm.l0 k 3 n (s : Int) st = some (3, (red n s).1, ((red n s).2 : Int), st)
  | 0, k, n, hk, _, _, _ => by
    obtain ⟨k, rfl⟩ : ∃ m, k = m + 1 := ⟨k - 1, by omega⟩
    simp only [federationref1_Norm.l0]; rw [if_pos trivial, if_neg (by omega)]; rfl
  | s + 1, k, n, hk, hs, h0, h1 => by
    obtain ⟨k, rfl⟩ : ∃ m, k = m + 1 := ⟨k - 1, by omega⟩
    simp only [federationref1_Norm.l0]; rw [if_pos trivial, if_pos (by omega)]
    simp only [red]
    by_cases h : n % 10 = 0
    · rw [if_pos ((tmod10 n).2 h), if_pos h, tdiv10 n h, wrap64_of (by omega) (by omega), wrap64_of (by omega) (by omega), show ((s + 1 : Nat) : Int) - 1 = (s : Int) by omega]
      exact ref_Norm_l0 st s k (n / 10) (by omega) (by omega) (by omega) (by omega)
    · rw [if_neg (fun e => h ((tmod10 n).1 e)), if_neg h]
theorem ref_Norm_eq (k s : Nat) (n : Int) (st : ByteArray) (hk : s + 2 < k) (hs : s ≤ 9223372036854775807) (h0 : -9223372036854775808 ≤ n) (h1 : n ≤ 9223372036854775807) : federationref1_Norm.f k 3 n (s : Int) st = some (3, (red n s).1, ((red n s).2 : Int), st) := by
  obtain ⟨k, rfl⟩ : ∃ m, k = m + 2 := ⟨k - 2, by omega⟩
  unfold federationref1_Norm.f
  rw [if_pos rfl]
  simp only [federationref1_Norm.j0, federationref1_Norm.j1]
  by_cases h : n = 0
  · subst h
    rw [red_zero]
    by_cases hs0 : (s : Int) > 0
    · rw [if_pos hs0]
      simp only [beq_self_eq_true, if_true]
      exact ref_Norm_l0 st 0 k 0 (by omega) (by omega) (by omega) (by omega)
    · rw [if_neg hs0, show (s : Int) = ((0 : Nat) : Int) by omega]
      simp only [Bool.false_eq_true, if_false]
      exact ref_Norm_l0 st 0 k 0 (by omega) (by omega) (by omega) (by omega)
  · have hl := ref_Norm_l0 st s k n (by omega) hs h0 h1
    by_cases hs0 : (s : Int) > 0
    · rw [if_pos hs0, if_neg (by simpa using h)]; exact hl
    · rw [if_neg hs0]; simp only [Bool.false_eq_true, if_false]; exact hl
end Go.Proofs.Ytllkhdhanheieaa.R
namespace Go.Proofs.Ytllkhdhanheieaa.R
open Go.RowKit Go.Proofs.YtllkhdhanheieaaW.PrintWords Go.Proofs.YtllkhdhanheieaaW.PrintLast Go.Proofs.YtllkhdhanheieaaW.PrintMore
attribute [local go_sem] max2_int min2_int max_two min_two max_three min_three max_four min_four
attribute [local go_sem high] own_gtr own_leq own_geq own_cell_set Option.map_some fld23_1
set_option linter.unusedVariables false
set_option linter.unusedSimpArgs false
def okB (st : ByteArray) : Bool := st.data.toList.all fun b => decide (32 ≤ b.toNat ∧ b.toNat ≤ 126)
theorem bt_data (st : ByteArray) (i : Nat) (h : i < st.data.size) : bt st (i : Int) = ((st.data[i]).toNat : Int) := by
  rw [← bt_at st (i : Int) (by simpa using h)]
  rfl
theorem all_drop (st : ByteArray) (i : Nat) (h : i < st.data.size) : (st.data.toList.drop i).all (fun b => decide (32 ≤ b.toNat ∧ b.toNat ≤ 126)) = (decide (32 ≤ (st.data[i]).toNat ∧ (st.data[i]).toNat ≤ 126) && (st.data.toList.drop (i + 1)).all fun b => decide (32 ≤ b.toNat ∧ b.toNat ≤ 126)) := by
  rw [List.drop_eq_getElem_cons (by simpa using h), List.all_cons]
  simp
theorem val_printable_l0 (st : ByteArray) (hs : st.data.size ≤ 140737488351232) : ∀ (d k i : Nat), d < k → i + d = st.data.size → val_printable.l0 k st (i : Int) = some ((st.data.toList.drop i).all fun b => decide (32 ≤ b.toNat ∧ b.toNat ≤ 126))
  | 0, k, i, hk, h => by
    obtain ⟨k, rfl⟩ : ∃ m, k = m + 1 := ⟨k - 1, by omega⟩
    simp only [val_printable.l0]; rw [if_neg (by have hz : st.size = st.data.size := rfl; omega), List.drop_of_length_le (by have hz : st.data.toList.length = st.data.size := rfl; omega)]; rfl
  | d + 1, k, i, hk, h => by
    obtain ⟨k, rfl⟩ : ∃ m, k = m + 1 := ⟨k - 1, by omega⟩
    simp only [val_printable.l0]
    rw [if_pos (by have hz : st.size = st.data.size := rfl; omega), if_pos (by omega), bt_data st i (by omega), all_drop st i (by omega)]
    by_cases h1 : ((st.data[i]'(by omega)).toNat : Int) < 32
    · rw [if_pos h1, decide_eq_false (by omega)]; rfl
    · rw [if_neg h1]
      by_cases h2 : ((st.data[i]'(by omega)).toNat : Int) > 126
      · rw [if_pos h2, decide_eq_false (by omega)]; rfl
      · rw [if_neg h2, decide_eq_true (by omega), wrap64_of (by omega) (by omega), Bool.true_and]
        exact val_printable_l0 st hs d k (i + 1) (by omega) (by omega)
theorem val_printable_eq (st : ByteArray) (k : Nat) (hs : st.data.size ≤ 140737488351232) (hk : st.data.size < k) : val_printable.f k st = some (okB st) := val_printable_l0 st hs st.data.size k 0 hk (by omega)
theorem ref_clean_l0 (st : ByteArray) (hs : st.data.size ≤ 140737488351232) : ∀ (d k i : Nat), d < k → i + d = st.data.size → federationref1_clean.l0 k st (i : Int) = some ((st.data.toList.drop i).all fun b => decide (32 ≤ b.toNat ∧ b.toNat ≤ 126))
  | 0, k, i, hk, h => by
    obtain ⟨k, rfl⟩ : ∃ m, k = m + 1 := ⟨k - 1, by omega⟩
    simp only [federationref1_clean.l0]; rw [if_neg (by have hz : st.size = st.data.size := rfl; omega), List.drop_of_length_le (by have hz : st.data.toList.length = st.data.size := rfl; omega)]; rfl
  | d + 1, k, i, hk, h => by
    obtain ⟨k, rfl⟩ : ∃ m, k = m + 1 := ⟨k - 1, by omega⟩
    simp only [federationref1_clean.l0]
    rw [if_pos (by have hz : st.size = st.data.size := rfl; omega), if_pos (by omega), bt_data st i (by omega), all_drop st i (by omega)]
    by_cases h1 : ((st.data[i]'(by omega)).toNat : Int) < 32
    · rw [if_pos h1, decide_eq_false (by omega)]; rfl
    · rw [if_neg h1]
      by_cases h2 : ((st.data[i]'(by omega)).toNat : Int) > 126
      · rw [if_pos h2, decide_eq_false (by omega)]; rfl
      · rw [if_neg h2, decide_eq_true (by omega), wrap64_of (by omega) (by omega), Bool.true_and]
        exact ref_clean_l0 st hs d k (i + 1) (by omega) (by omega)
theorem ref_clean_eq (st : ByteArray) (k : Nat) (hs : st.data.size ≤ 140737488351232) (hk : st.data.size < k) : federationref1_clean.f k st = some (okB st) := ref_clean_l0 st hs st.data.size k 0 hk (by omega)
def noS (st : ByteArray) : Bool := st.toList == ([] : List UInt8)
def rightB (kd n sc : Int) (st : ByteArray) : Bool :=
  if kd = 0 then n == 0 && (sc == 0 && noS st)
  else if kd = 1 then decide (0 ≤ n ∧ n ≤ 1) && (sc == 0 && noS st)
  else if kd = 2 then sc == 0 && noS st
  else if kd = 3 then decide (-1000000000000000 < n ∧ n < 1000000000000000 ∧ 0 ≤ sc ∧ sc ≤ 6 ∧ (sc = 0 ∨ n % 10 ≠ 0)) && noS st
  else if kd = 4 then decide (n = 0 ∧ sc = 0 ∧ st.data.size ≤ 40) && okB st
  else if kd = 5 then decide (n = 0 ∧ sc = 0 ∧ st.data.size ≤ 40)
  else false
theorem val_Right_eq (k : Nat) (kd n sc : Int) (st : ByteArray) (hk : 42 < k) : val_Right.f k kd n sc st = some (rightB kd n sc st) := by
  obtain ⟨k, rfl⟩ : ∃ m, k = m + 1 := ⟨k - 1, by omega⟩
  have hz : (st.size : Int) = (st.data.size : Int) := rfl
  unfold val_Right.f rightB
  by_cases h0 : kd = 0
  · rw [if_pos h0, if_pos h0]; rfl
  rw [if_neg h0, if_neg h0]
  by_cases h1 : kd = 1
  · rw [if_pos h1, if_pos h1]
    congr 2
    rw [Bool.eq_iff_iff]; simp only [beq_iff_eq, decide_eq_true_eq]; unfold mn mx
    constructor
    · intro h; split at h <;> (try split at h) <;> omega
    · intro h; split <;> (try split) <;> omega
  rw [if_neg h1, if_neg h1]
  by_cases h2 : kd = 2
  · rw [if_pos h2, if_pos h2]; rfl
  rw [if_neg h2, if_neg h2]
  by_cases h3 : kd = 3
  · rw [if_pos h3, if_pos h3]
    have ht := tmod10 n
    by_cases a1 : n ≤ -1000000000000000
    · rw [if_pos a1, decide_eq_false (by omega)]; rfl
    rw [if_neg a1]
    by_cases a2 : n ≥ 1000000000000000
    · rw [if_pos a2, decide_eq_false (by omega)]; rfl
    rw [if_neg a2]
    have hm : (sc == mn (mx sc 0) 6) = decide (0 ≤ sc ∧ sc ≤ 6) := by
      rw [Bool.eq_iff_iff]; simp only [beq_iff_eq, decide_eq_true_eq]; unfold mn mx
      constructor
      · intro h; split at h <;> (try split at h) <;> omega
      · intro h; split <;> (try split) <;> omega
    by_cases a3 : sc > 0
    · rw [if_pos a3]
      by_cases a4 : Int.tmod n 10 = 0
      · rw [if_pos a4, decide_eq_false (by have := ht.1 a4; omega)]; rfl
      · rw [if_neg a4, hm]
        have : n % 10 ≠ 0 := fun e => a4 (ht.2 e)
        by_cases a5 : sc ≤ 6
        · rw [decide_eq_true (by omega), decide_eq_true (by omega)]; rfl
        · rw [decide_eq_false (by omega), decide_eq_false (by omega)]; rfl
    · rw [if_neg a3, hm]
      by_cases a5 : 0 ≤ sc
      · rw [decide_eq_true (by omega), decide_eq_true (by omega)]; rfl
      · rw [decide_eq_false (by omega), decide_eq_false (by omega)]; rfl
  rw [if_neg h3, if_neg h3]
  by_cases h4 : kd = 4
  · rw [if_pos h4, if_pos h4]
    subst h4
    simp only [val_Right.j0, beq_self_eq_true, if_true, Bool.true_and]
    by_cases a1 : (st.size : Int) > 40
    · rw [if_pos a1, decide_eq_false (by omega)]; rfl
    · rw [if_neg a1, val_printable_eq st k (by omega) (by omega)]
      simp only [Option.bind_some]
      cases hb : okB st with
      | false => simp
      | true =>
        simp only [if_true, Bool.and_true]
        congr 1
        rw [Bool.eq_iff_iff]; simp only [Bool.and_eq_true, beq_iff_eq, decide_eq_true_eq]; omega
  rw [if_neg h4, if_neg h4]
  by_cases h5 : kd = 5
  · rw [if_pos h5]
    subst h5
    simp only [val_Right.j0, beq_self_eq_true, if_true, Bool.true_and]
    by_cases a1 : (st.size : Int) > 40
    · rw [if_pos a1, decide_eq_false (by omega)]
    · rw [if_neg a1, if_neg (by decide)]
      congr 1
      rw [Bool.eq_iff_iff]; simp only [Bool.and_eq_true, beq_iff_eq, decide_eq_true_eq]; omega
  · rw [if_neg h5]
    simp only [val_Right.j0, show (kd == 5) = false from by simpa using h5]
    simp
theorem ref_Right_eq (k : Nat) (kd n sc : Int) (st : ByteArray) (hk : 42 < k) : federationref1_Right.f k kd n sc st = some (rightB kd n sc st) := by
  have hz : (st.size : Int) = (st.data.size : Int) := rfl
  unfold federationref1_Right.f rightB
  by_cases h0 : kd = 0
  · rw [if_pos h0, if_pos h0]; subst h0; simp [noS]
  rw [if_neg h0, if_neg h0]
  by_cases h1 : kd = 1
  · rw [if_pos h1, if_pos h1]
    by_cases a1 : n ≥ 0
    · rw [if_pos a1]
      by_cases a2 : n ≤ 1
      · rw [if_pos a2, decide_eq_true (by omega)]
        by_cases a3 : sc = 0
        · rw [if_pos a3]; subst a3; simp [noS]
        · rw [if_neg a3]; simp [a3]
      · rw [if_neg a2, decide_eq_false (by omega)]; rfl
    · rw [if_neg a1, decide_eq_false (by omega)]; rfl
  rw [if_neg h1, if_neg h1]
  by_cases h2 : kd = 2
  · rw [if_pos h2, if_pos h2]
    by_cases a3 : sc = 0
    · rw [if_pos a3]; subst a3; simp [noS]
    · rw [if_neg a3]; simp [a3]
  rw [if_neg h2, if_neg h2]
  by_cases h3 : kd = 3
  · rw [if_pos h3, if_pos h3]
    have ht := tmod10 n
    by_cases a1 : n > -1000000000000000
    · rw [if_pos a1]
      by_cases a2 : n < 1000000000000000
      · rw [if_pos a2]
        by_cases a3 : sc ≥ 0
        · rw [if_pos a3]
          by_cases a4 : sc ≤ 6
          · rw [if_pos a4]
            by_cases a5 : sc = 0
            · rw [if_pos a5, decide_eq_true (by omega)]; rfl
            · rw [if_neg a5]
              by_cases a6 : Int.tmod n 10 = 0
              · rw [if_pos a6, decide_eq_false (by have := ht.1 a6; omega)]; rfl
              · have : n % 10 ≠ 0 := fun e => a6 (ht.2 e)
                rw [if_neg a6, decide_eq_true (by omega)]; rfl
          · rw [if_neg a4, decide_eq_false (by omega)]; rfl
        · rw [if_neg a3, decide_eq_false (by omega)]; rfl
      · rw [if_neg a2, decide_eq_false (by omega)]; rfl
    · rw [if_neg a1, decide_eq_false (by omega)]; rfl
  rw [if_neg h3, if_neg h3]
  by_cases h4 : kd = 4
  · rw [if_pos h4, if_pos h4]
    by_cases a1 : n = 0
    · rw [if_pos a1]
      by_cases a2 : sc = 0
      · rw [if_pos a2]
        by_cases a3 : (st.size : Int) ≤ 40
        · rw [if_pos a3, ref_clean_eq st k (by omega) (by omega), decide_eq_true (by omega)]; rfl
        · rw [if_neg a3, decide_eq_false (by omega)]; rfl
      · rw [if_neg a2, decide_eq_false (by omega)]; rfl
    · rw [if_neg a1, decide_eq_false (by omega)]; rfl
  rw [if_neg h4, if_neg h4]
  by_cases h5 : kd = 5
  · rw [if_pos h5, if_pos h5]
    by_cases a1 : n = 0
    · rw [if_pos a1]
      by_cases a2 : sc = 0
      · rw [if_pos a2]
        congr 1
        rw [Bool.eq_iff_iff]; simp only [decide_eq_true_eq]; omega
      · rw [if_neg a2, decide_eq_false (by omega)]
    · rw [if_neg a1, decide_eq_false (by omega)]
  · rw [if_neg h5, if_neg h5]
end Go.Proofs.Ytllkhdhanheieaa.R
namespace Go.Proofs.Ytllkhdhanheieaa.R
open Go.RowKit Go.Proofs.YtllkhdhanheieaaW.PrintWords Go.Proofs.YtllkhdhanheieaaW.PrintLast Go.Proofs.YtllkhdhanheieaaW.PrintMore
attribute [local go_sem] max2_int min2_int max_two min_two max_three min_three max_four min_four
attribute [local go_sem high] own_gtr own_leq own_geq own_cell_set Option.map_some fld23_1
set_option linter.unusedVariables false
set_option linter.unusedSimpArgs false
theorem p10_six_sub (s : Nat) (h : s ≤ 6) : p10 s * p10 (6 - s) = 1000000 := by
  rw [← p10_add, show s + (6 - s) = 6 by omega, p10_six]
theorem ref_Parts_eq (k : Nat) (kd n : Int) (s : Nat) (st : ByteArray) (hk : 18 < k) (hs : s ≤ 6) (h0 : -1000000000000000 < n) (h1 : n < 1000000000000000) : federationref1_Parts.f k kd n (s : Int) st = some (n / p10 s, n % p10 s * p10 (6 - s)) := by
  unfold federationref1_Parts.f
  have hp := p10_pos s
  have hp2 := p10_le s (by omega)
  have hq := p10_pos (6 - s)
  have hq2 := p10_le (6 - s) (by omega)
  have h6 := p10_six_sub s hs
  have b1 := Int.emod_lt_of_pos n hp
  have b2 := Int.emod_nonneg n (show p10 s ≠ 0 by omega)
  have b4 : n % p10 s * p10 (6 - s) ≤ p10 s * p10 (6 - s) := Int.mul_le_mul_of_nonneg_right (by omega) (by omega)
  have b5 : 0 ≤ n % p10 s * p10 (6 - s) := Int.mul_nonneg b2 (by omega)
  have h2 := Int.mul_ediv_add_emod n (p10 s)
  have h3 := Int.mul_tdiv_add_tmod n (p10 s)
  have h4 := Int.natAbs_tdiv_le_natAbs n (p10 s)
  have b6 := Int.tmod_lt_of_pos n hp
  have b7 := Int.tmod_lt_of_pos (-n) hp
  rw [Int.neg_tmod] at b7
  rw [ref_Ten_eq k s hk (by omega)]
  simp only [Option.bind_some]
  rw [if_neg (by omega), show (6 : Int) - (s : Int) = ((6 - s : Nat) : Int) by omega]
  rw [wrap64_of (x := ((6 - s : Nat) : Int)) (by omega) (by omega), ref_Ten_eq k (6 - s) hk (by omega)]
  simp only [Option.bind_some]
  have hfl : n / p10 s = if n.tmod (p10 s) < 0 then n.tdiv (p10 s) - 1 else n.tdiv (p10 s) := by
    split
    · exact ((Int.ediv_emod_unique (r := n.tmod (p10 s) + p10 s) (q := n.tdiv (p10 s) - 1) hp).2 ⟨by rw [Int.mul_sub, Int.mul_one]; omega, by omega, by omega⟩).1
    · exact ((Int.ediv_emod_unique (r := n.tmod (p10 s)) (q := n.tdiv (p10 s)) hp).2 ⟨by omega, by omega, by omega⟩).1
  by_cases hn : n.tmod (p10 s) < 0
  · rw [if_pos hn]
    rw [if_pos hn] at hfl
    have e1 : wrap64 (n.tdiv (p10 s)) = n.tdiv (p10 s) := wrap64_of (by omega) (by omega)
    rw [e1, wrap64_of (x := n.tdiv (p10 s) - 1) (by omega) (by omega), ← hfl]
    have e2 : n / p10 s * p10 s = n - n % p10 s := by rw [Int.mul_comm]; omega
    rw [e2, wrap64_of (x := n - n % p10 s) (by omega) (by omega), show n - (n - n % p10 s) = n % p10 s by omega, wrap64_of (x := n % p10 s) (by omega) (by omega), wrap64_of (by omega) (by omega)]
  · rw [if_neg hn]
    rw [if_neg hn] at hfl
    have e1 : wrap64 (n.tdiv (p10 s)) = n.tdiv (p10 s) := wrap64_of (by omega) (by omega)
    rw [e1, ← hfl]
    have e2 : n / p10 s * p10 s = n - n % p10 s := by rw [Int.mul_comm]; omega
    rw [e2, wrap64_of (x := n - n % p10 s) (by omega) (by omega), show n - (n - n % p10 s) = n % p10 s by omega, wrap64_of (x := n % p10 s) (by omega) (by omega), wrap64_of (by omega) (by omega)]
theorem mic_ediv (n : Int) (s : Nat) (hs : s ≤ 6) : (n * p10 (6 - s)) / 1000000 = n / p10 s := by
  rw [← p10_six_sub s hs]; exact Int.mul_ediv_mul_of_pos_left _ _ (p10_pos _)
theorem mic_emod (n : Int) (s : Nat) (hs : s ≤ 6) : (n * p10 (6 - s)) % 1000000 = n % p10 s * p10 (6 - s) := by
  have h1 := Int.mul_ediv_add_emod (n * p10 (6 - s)) 1000000
  have h2 := Int.mul_ediv_add_emod n (p10 s)
  rw [mic_ediv n s hs] at h1
  have h3 : (p10 s * (n / p10 s) + n % p10 s) * p10 (6 - s) = n * p10 (6 - s) := by rw [h2]
  rw [Int.add_mul, Int.mul_assoc, Int.mul_comm (n / p10 s), ← Int.mul_assoc, p10_six_sub s hs] at h3
  omega
end Go.Proofs.Ytllkhdhanheieaa.R
namespace Go.Proofs.Ytllkhdhanheieaa.R
open Go.RowKit Go.Proofs.YtllkhdhanheieaaW.PrintWords Go.Proofs.YtllkhdhanheieaaW.PrintLast Go.Proofs.YtllkhdhanheieaaW.PrintMore
attribute [local go_sem] max2_int min2_int max_two min_two max_three min_three max_four min_four
attribute [local go_sem high] own_gtr own_leq own_geq own_cell_set Option.map_some fld23_1
set_option linter.unusedVariables false
set_option linter.unusedSimpArgs false
def inI (x : Int) : Bool := decide (-9223372036854775808 ≤ x ∧ x ≤ 9223372036854775807)
def I64 (x : Int) : Prop := -9223372036854775808 ≤ x ∧ x ≤ 9223372036854775807
def exactly (op a b : Int) : Int := if op = 6 then a * b else if op = 7 then a + b else a - b
theorem val_plus_eq (a b : Int) (ha : I64 a) (hb : I64 b) : val_plus.f a b = some (wrap64 (a + b), inI (a + b)) := by
  unfold val_plus.f inI I64 at *
  by_cases h : ((decide (a < 0)) != (decide (b < 0))) = true
  · rw [if_pos h]
    simp only [bne_iff_ne, ne_eq, decide_eq_decide] at h
    rw [decide_eq_true (by omega)]
  · rw [if_neg h]
    simp only [bne_iff_ne, ne_eq, decide_eq_decide] at h
    congr 2
    rw [Bool.eq_iff_iff]; simp only [beq_iff_eq, decide_eq_true_eq, decide_eq_decide]
    unfold wrap64; omega
theorem val_minus_eq (a b : Int) (ha : I64 a) (hb : I64 b) : val_minus.f a b = some (wrap64 (a - b), inI (a - b)) := by
  unfold val_minus.f inI I64 at *
  by_cases h : ((decide (a < 0)) == (decide (b < 0))) = true
  · rw [if_pos h]
    simp only [beq_iff_eq, decide_eq_decide] at h
    rw [decide_eq_true (by omega)]
  · rw [if_neg h]
    simp only [beq_iff_eq, decide_eq_decide] at h
    congr 2
    rw [Bool.eq_iff_iff]; simp only [beq_iff_eq, decide_eq_true_eq, decide_eq_decide]
    unfold wrap64; omega
theorem ref_plus_eq (a b : Int) (ha : I64 a) (hb : I64 b) : federationref1_plus.f a b = some (wrap64 (a + b), inI (a + b)) := by
  unfold federationref1_plus.f inI I64 at *
  by_cases h : ((decide (a ≥ 0)) != (decide (b ≥ 0))) = true
  · rw [if_pos h]
    simp only [bne_iff_ne, ne_eq, decide_eq_decide] at h
    rw [decide_eq_true (by omega)]
  · rw [if_neg h]
    simp only [bne_iff_ne, ne_eq, decide_eq_decide] at h
    congr 2
    rw [Bool.eq_iff_iff]; simp only [beq_iff_eq, decide_eq_true_eq, decide_eq_decide]
    unfold wrap64; omega
theorem wrap64_inI (x : Int) (h : inI x = true) : wrap64 x = x := by
  unfold inI at h; simp only [decide_eq_true_eq] at h; exact wrap64_of h.1 h.2
theorem mul_back (a b : Int) (ha : I64 a) (hb : I64 b) (h0 : b ≠ 0) (hm : b ≠ -1) : (wrap64 (Int.tdiv (wrap64 (a * b)) b) = a) ↔ inI (a * b) = true := by
  unfold I64 at ha hb
  by_cases h1 : b = 1
  · subst h1
    rw [Int.mul_one, wrap64_of ha.1 ha.2, Int.tdiv_one, wrap64_of ha.1 ha.2]
    unfold inI
    simp only [decide_eq_true_eq]
    exact ⟨fun _ => ha, fun _ => trivial⟩
  have hcr : -9223372036854775808 ≤ wrap64 (a * b) ∧ wrap64 (a * b) ≤ 9223372036854775807 := by unfold wrap64; omega
  have hq : ∃ q : Int, wrap64 (a * b) = a * b - 18446744073709551616 * q := ⟨(a * b + 9223372036854775808) / 18446744073709551616, by unfold wrap64; omega⟩
  have hw : inI (a * b) = true → wrap64 (a * b) = a * b := wrap64_inI _
  have hd := Int.mul_tdiv_add_tmod (wrap64 (a * b)) b
  have hr1 : ((wrap64 (a * b)).tmod b).natAbs < b.natAbs := by rw [Int.natAbs_tmod]; exact Nat.mod_lt _ (by omega)
  have hn : ((wrap64 (a * b)).tdiv b).natAbs ≤ 4611686018427387904 := by
    rw [Int.natAbs_tdiv]
    have h1 : (wrap64 (a * b)).natAbs ≤ 9223372036854775808 := by omega
    exact Nat.le_trans (Nat.div_le_div_left (show 2 ≤ b.natAbs by omega) (by decide)) (by have := Nat.div_le_div_right (c := 2) h1; simpa using this)
  rw [wrap64_of (x := (wrap64 (a * b)).tdiv b) (by omega) (by omega)]
  constructor
  · intro h
    rw [h, Int.mul_comm b a] at hd
    obtain ⟨q, hq⟩ := hq
    unfold inI
    simp only [decide_eq_true_eq]
    generalize a * b = p at *
    generalize wrap64 p = c at *
    generalize c.tmod b = r at *
    omega
  · intro h
    rw [hw h]
    exact Int.mul_tdiv_cancel _ h0
theorem val_times_eq (a b : Int) (ha : I64 a) (hb : I64 b) (hm : b ≠ -1) : val_times.f a b = some (wrap64 (a * b), inI (a * b)) := by
  unfold val_times.f
  by_cases a0 : a = 0
  · rw [if_pos a0]; subst a0; rw [Int.zero_mul]; decide +kernel
  rw [if_neg a0]
  by_cases b0 : b = 0
  · rw [if_pos b0]; subst b0; rw [Int.mul_zero]; decide +kernel
  rw [if_neg b0]
  congr 2
  rw [Bool.eq_iff_iff, ← mul_back a b ha hb b0 hm, beq_iff_eq]
theorem val_two_eq (op a b : Int) (ha : I64 a) (hb : I64 b) : val_two.f op a b = some (wrap64 (exactly op a b), inI (exactly op a b)) := by
  unfold val_two.f exactly
  have h0 : I64 0 := by unfold I64; omega
  by_cases h6 : op = 6
  · rw [if_pos h6, if_pos h6]
    by_cases a1 : a = -1
    · rw [if_pos a1, val_minus_eq 0 b h0 hb]; subst a1
      rw [show (-1 : Int) * b = 0 - b by omega]; rfl
    · rw [if_neg a1]
      by_cases b1 : b = -1
      · rw [if_pos b1, val_minus_eq 0 a h0 ha]; subst b1
        rw [show a * (-1 : Int) = 0 - a by omega]; rfl
      · rw [if_neg b1, val_times_eq a b ha hb b1]; rfl
  · rw [if_neg h6, if_neg h6]
    by_cases h7 : op = 7
    · rw [if_pos h7, if_pos h7, val_plus_eq a b ha hb]; rfl
    · rw [if_neg h7, if_neg h7, val_minus_eq a b ha hb]; rfl
theorem ref_times_eq (a b : Int) (ha : I64 a) (hb : I64 b) : federationref1_times.f a b = some (wrap64 (a * b), inI (a * b)) := by
  unfold federationref1_times.f
  by_cases a0 : a = 0
  · rw [if_pos a0]; subst a0; rw [Int.zero_mul]; decide +kernel
  rw [if_neg a0]
  by_cases b0 : b = 0
  · rw [if_pos b0]; subst b0; rw [Int.mul_zero]; decide +kernel
  rw [if_neg b0]
  unfold I64 at ha hb
  by_cases b1 : b = -1
  · subst b1
    have e : a * (-1 : Int) = -a := by omega
    rw [e]
    by_cases hl : a = -9223372036854775808
    · subst hl; decide +kernel
    · have h1 : wrap64 (-a) = -a := wrap64_of (by omega) (by omega)
      have h2 : (-a).tdiv (-1) = a := by rw [← e]; exact Int.mul_tdiv_cancel _ (by decide)
      have h3 : inI (-a) = true := by unfold inI; rw [decide_eq_true_eq]; omega
      rw [h1, h2, wrap64_of ha.1 ha.2, if_pos rfl, h3]
      by_cases a1 : a = -1
      · rw [if_pos a1, if_neg (by decide), if_pos rfl]; subst a1; rfl
      · rw [if_neg a1, if_pos rfl]
        have : (a == -9223372036854775808) = false := by simpa using hl
        rw [this]; rfl
  · have hb' := mul_back a b ha hb b0 b1
    by_cases h : wrap64 (Int.tdiv (wrap64 (a * b)) b) = a
    · rw [if_pos h, hb'.1 h]
      by_cases a1 : a = -1
      · rw [if_pos a1]
        have hl : b ≠ -9223372036854775808 := by
          intro e; subst e; subst a1; exact absurd (hb'.1 h) (by decide)
        rw [if_neg hl, if_neg b1]; rfl
      · rw [if_neg a1, if_neg b1]; rfl
    · rw [if_neg h]
      have : inI (a * b) = false := by
        cases hi : inI (a * b) with
        | false => rfl
        | true => exact absurd (hb'.2 hi) h
      rw [this]
def intRes (op a b : Int) : Int × Int × Int × ByteArray × Int := if inI (exactly op a b) = true then (2, exactly op a b, 0, (⟨#[]⟩ : ByteArray), 0) else (0, 0, 0, (⟨#[]⟩ : ByteArray), 10)
theorem ref_ints_eq (op a b : Int) (ha : I64 a) (hb : I64 b) : federationref1_ints.f op a b = some (intRes op a b) := by
  unfold federationref1_ints.f intRes exactly
  by_cases h7 : op = 7
  · rw [if_pos h7, if_neg (show ¬ op = 6 by omega), if_pos h7, ref_plus_eq a b ha hb]
    simp only [Option.bind_some]
    by_cases hi : inI (a + b) = true
    · rw [if_pos hi, if_pos hi, wrap64_inI _ hi]
    · rw [if_neg hi, if_neg hi]
  · rw [if_neg h7]
    by_cases h6 : op = 6
    · rw [if_pos h6, if_pos h6, ref_times_eq a b ha hb]
      simp only [Option.bind_some]
      by_cases hi : inI (a * b) = true
      · rw [if_pos hi, if_pos hi, wrap64_inI _ hi]
      · rw [if_neg hi, if_neg hi]
    · rw [if_neg h6, if_neg h6, if_neg h7]
      unfold I64 at ha hb
      by_cases c1 : ((decide (a ≥ 0)) == (decide (b ≥ 0))) = true
      · rw [if_pos c1]
        simp only [beq_iff_eq, decide_eq_decide] at c1
        have hi : inI (a - b) = true := by unfold inI; rw [decide_eq_true_eq]; omega
        rw [if_pos hi, wrap64_inI _ hi]
      · rw [if_neg c1]
        simp only [beq_iff_eq, decide_eq_decide] at c1
        by_cases c2 : ((decide ((wrap64 (a - b)) ≥ 0)) == (decide (a ≥ 0))) = true
        · rw [if_pos c2]
          simp only [beq_iff_eq, decide_eq_decide] at c2
          have hi : inI (a - b) = true := by unfold inI; rw [decide_eq_true_eq]; unfold wrap64 at c2; omega
          rw [if_pos hi, wrap64_inI _ hi]
        · rw [if_neg c2]
          simp only [beq_iff_eq, decide_eq_decide] at c2
          have hi : ¬ inI (a - b) = true := by unfold inI; rw [decide_eq_true_eq]; unfold wrap64 at c2; omega
          rw [if_neg hi]
def decRes (n : Int) (s : Nat) : Int × Int × Int × ByteArray × Int :=
  if -1000000000000000 < (red n s).1 ∧ (red n s).1 < 1000000000000000 ∧ (red n s).2 ≤ 6 then (3, (red n s).1, ((red n s).2 : Int), (⟨#[]⟩ : ByteArray), 0) else (0, 0, 0, (⟨#[]⟩ : ByteArray), 10)
theorem right_red (n : Int) (s : Nat) : rightB 3 (red n s).1 ((red n s).2 : Int) (⟨#[]⟩ : ByteArray) = decide (-1000000000000000 < (red n s).1 ∧ (red n s).1 < 1000000000000000 ∧ (red n s).2 ≤ 6) := by
  unfold rightB
  rw [if_neg (by decide), if_neg (by decide), if_neg (by decide), if_pos rfl]
  have hn : noS (⟨#[]⟩ : ByteArray) = true := by decide +kernel
  rw [hn, Bool.and_true, decide_eq_decide]
  have h := red_done s n
  generalize (red n s).1 = a at *
  generalize (red n s).2 = b at *
  omega
theorem decRes_tens (n : Int) (j s : Nat) : decRes (n * p10 j) (s + j) = decRes n s := by unfold decRes; rw [red_tens]
theorem val_end (k : Nat) (n : Int) (s : Nat) (b : Bool) (hk : s + 45 < k) (hs : s ≤ 1000) (h0 : I64 n) :
    ((val_Norm.f k 3 n (s : Int) (⟨#[]⟩ : ByteArray)).bind fun bt106 => (if b = true then ((val_Right.f k bt106.1 bt106.2.1 bt106.2.2.1 bt106.2.2.2).bind fun t111 => (some (bt106.1, bt106.2.1, bt106.2.2.1, bt106.2.2.2, t111))) else (some (bt106.1, bt106.2.1, bt106.2.2.1, bt106.2.2.2, false)))) = some (3, (red n s).1, ((red n s).2 : Int), (⟨#[]⟩ : ByteArray), b && decide (-1000000000000000 < (red n s).1 ∧ (red n s).1 < 1000000000000000 ∧ (red n s).2 ≤ 6)) := by
  rw [val_Norm_eq k s n _ (by omega) (by omega) h0.1 h0.2]
  simp only [Option.bind_some]
  cases b with
  | false => simp
  | true =>
    simp only [if_true]
    rw [val_Right_eq k _ _ _ _ (by omega), right_red]
    rfl
theorem ref_end (k : Nat) (n : Int) (s : Nat) (hk : s + 45 < k) (hs : s ≤ 1000) (h0 : I64 n) :
    ((federationref1_Norm.f k 3 n (s : Int) (⟨#[]⟩ : ByteArray)).bind fun bt108 => ((federationref1_Right.f k bt108.1 bt108.2.1 bt108.2.2.1 bt108.2.2.2).bind fun t113 => (if t113 = true then (some (bt108.1, bt108.2.1, bt108.2.2.1, bt108.2.2.2, (0 : Int))) else (some (0, 0, 0, (⟨#[]⟩ : ByteArray), 10))))) = some (decRes n s) := by
  rw [ref_Norm_eq k s n _ (by omega) (by omega) h0.1 h0.2]
  simp only [Option.bind_some]
  rw [ref_Right_eq k _ _ _ _ (by omega), right_red]
  simp only [Option.bind_some, decide_eq_true_eq]
  unfold decRes
  split <;> rfl
theorem fine_j3 (k : Nat) (w f : Int) (s : Nat) (hk : 60 < k) (hs : s ≤ 6) (hf0 : 0 ≤ f) (hf1 : f < p10 s) (hz : s = 0 ∨ f % 10 ≠ 0) (hw0 : -4000000000000000 ≤ w) (hw1 : w ≤ 4000000000000000) : federationref1_fine.j3 k w f (s : Int) = some (decRes (w * p10 s + f) s) := by
  obtain ⟨k, rfl⟩ : ∃ m, k = m + 2 := ⟨k - 2, by omega⟩
  have hp := p10_pos s
  have hp2 : p10 s ≤ 1000000 := by have := p10_mono hs; rw [p10_six] at this; exact this
  have hs1 : s = 0 ∨ p10 s % 10 = 0 := by
    cases s with
    | zero => exact Or.inl rfl
    | succ t => right; rw [p10_succ]; omega
  have hwm : w * p10 s % 10 = 0 ∨ s = 0 := by
    rcases hs1 with h | h
    · exact Or.inr h
    · left; rw [Int.mul_emod, h]; simp
  have hr : red (w * p10 s + f) s = (w * p10 s + f, s) := by
    apply red_same
    rcases hz with h | h
    · exact Or.inl h
    · rcases hwm with h2 | h2
      · right; omega
      · exact Or.inl h2
  have hover : (1000000000000000 ≤ w * p10 s + f ∨ w * p10 s + f ≤ -1000000000000000) → decRes (w * p10 s + f) s = (0, 0, 0, (⟨#[]⟩ : ByteArray), 10) := by
    intro h; unfold decRes; rw [hr, if_neg (by omega)]
  have hstop : ∀ k', 0 < k' → federationref1_fine.j4 k' w f (s : Int) true = some (0, 0, 0, (⟨#[]⟩ : ByteArray), 10) := by
    intro k' hk'
    obtain ⟨k', rfl⟩ : ∃ m, k' = m + 1 := ⟨k' - 1, by omega⟩
    simp only [federationref1_fine.j4, if_true]
  have ha1 : 1000000000000000 ≤ w → 1000000000000000 ≤ w * p10 s := fun h => by
    have := Int.mul_le_mul_of_nonneg_left (show 1 ≤ p10 s by omega) (show 0 ≤ w by omega); omega
  have ha2 : w ≤ -1000000000000000 → w * p10 s + f ≤ -1000000000000000 := fun h => by
    have h3 := Int.mul_le_mul_of_nonneg_right (show w + 1 ≤ -999999999999999 by omega) (show 0 ≤ p10 s by omega)
    rw [Int.add_mul, Int.one_mul] at h3
    have h5 : p10 s = 1 → w * p10 s = w := fun e => by rw [e, Int.mul_one]
    by_cases h4 : p10 s = 1
    · have := h5 h4; omega
    · have : 2 ≤ p10 s := by omega
      omega
  simp only [federationref1_fine.j3]
  by_cases c1 : w ≤ -1000000000000000
  · rw [if_pos c1, hstop _ (by omega), hover (Or.inr (ha2 c1))]
  rw [if_neg c1]
  by_cases c2 : w ≥ 1000000000000000
  · rw [if_pos c2, hstop _ (by omega), hover (Or.inl (by have := ha1 c2; omega))]
  rw [if_neg c2, ref_Ten_eq _ s (by omega) (by omega)]
  simp only [Option.bind_some]
  rw [if_neg (by omega)]
  have hd : Int.tdiv 1000000000000000 (p10 s) = 1000000000000000 / p10 s := Int.tdiv_eq_ediv_of_nonneg (by decide)
  have hd1 := Int.mul_ediv_add_emod 1000000000000000 (p10 s)
  have hd2 := Int.emod_lt_of_pos 1000000000000000 hp
  have hd3 := Int.emod_nonneg 1000000000000000 (show p10 s ≠ 0 by omega)
  have hd4 : 0 ≤ 1000000000000000 / p10 s := Int.ediv_nonneg (by decide) (by omega)
  have hd5 : 1000000000000000 / p10 s ≤ 1000000000000000 := Int.ediv_le_self _ (by decide)
  rw [hd]
  generalize 1000000000000000 / p10 s = q at *
  rw [wrap64_of (x := q) (by omega) (by omega), wrap64_of (x := -q) (by omega) (by omega), wrap64_of (x := -q - 1) (by omega) (by omega)]
  by_cases c3 : w > q
  · rw [if_pos c3, hstop _ (by omega)]
    have h3 := Int.mul_le_mul_of_nonneg_right (show q + 1 ≤ w by omega) (show 0 ≤ p10 s by omega)
    rw [Int.add_mul, Int.one_mul, Int.mul_comm q] at h3
    rw [hover (Or.inl (by omega))]
  rw [if_neg c3, if_neg (show ¬ p10 s = 0 by omega)]
  by_cases c4 : w < -q - 1
  · rw [decide_eq_true c4, hstop _ (by omega)]
    have h3 := Int.mul_le_mul_of_nonneg_right (show w ≤ -q - 2 by omega) (show 0 ≤ p10 s by omega)
    rw [Int.sub_mul, Int.neg_mul, Int.mul_comm q] at h3
    rw [hover (Or.inr (by omega))]
  rw [decide_eq_false c4]
  simp only [federationref1_fine.j4, Bool.false_eq_true, if_false]
  rw [ref_Ten_eq _ s (by omega) (by omega)]
  simp only [Option.bind_some]
  have h5 : w * p10 s ≤ q * p10 s := Int.mul_le_mul_of_nonneg_right (by omega) (by omega)
  have h6 : (-q - 1) * p10 s ≤ w * p10 s := Int.mul_le_mul_of_nonneg_right (by omega) (by omega)
  rw [Int.sub_mul, Int.neg_mul, Int.one_mul, Int.mul_comm q] at h6
  rw [Int.mul_comm q] at h5
  rw [wrap64_of (x := w * p10 s) (by omega) (by omega), wrap64_of (x := w * p10 s + f) (by omega) (by omega)]
  exact ref_end k (w * p10 s + f) s (by omega) (by omega) ⟨by omega, by omega⟩
theorem fine_l2 : ∀ (s k : Nat) (w f : Int), 70 + s < k → s ≤ 6 → 0 ≤ f → f < p10 s → -4000000000000000 ≤ w → w ≤ 4000000000000000 → federationref1_fine.l2 k w f (s : Int) = some (decRes (w * p10 (red f s).2 + (red f s).1) (red f s).2)
  | 0, k, w, f, hk, hs, h0, h1, hw0, hw1 => by
    obtain ⟨k, rfl⟩ : ∃ m, k = m + 1 := ⟨k - 1, by omega⟩
    simp only [federationref1_fine.l2]; rw [if_neg (by omega)]
    exact fine_j3 k w f 0 (by omega) hs h0 h1 (Or.inl rfl) hw0 hw1
  | s + 1, k, w, f, hk, hs, h0, h1, hw0, hw1 => by
    obtain ⟨k, rfl⟩ : ∃ m, k = m + 1 := ⟨k - 1, by omega⟩
    have hp := p10_le s (by omega)
    have h1' := h1
    rw [p10_succ] at h1'
    simp only [federationref1_fine.l2]; rw [if_pos (by omega)]
    simp only [red]
    by_cases h : f % 10 = 0
    · rw [if_pos ((tmod10 f).2 h), if_pos h, tdiv10 f h, wrap64_of (by omega) (by omega), wrap64_of (by omega) (by omega), show ((s + 1 : Nat) : Int) - 1 = (s : Int) by omega]
      exact fine_l2 s k w (f / 10) (by omega) (by omega) (by omega) (by omega) hw0 hw1
    · rw [if_neg (fun e => h ((tmod10 f).1 e)), if_neg h]
      exact fine_j3 k w f (s + 1) (by omega) hs h0 h1 (Or.inr h) hw0 hw1
theorem decRes_parts (w f : Int) : decRes (w * p10 (red f 6).2 + (red f 6).1) (red f 6).2 = decRes (w * 1000000 + f) 6 := by
  have hv := red_value 6 f
  have hs := red_scale 6 f
  have e : w * 1000000 + f = (w * p10 (red f 6).2 + (red f 6).1) * p10 (6 - (red f 6).2) := by
    rw [Int.add_mul, hv, Int.mul_assoc, p10_six_sub _ hs]
  rw [e]
  have h6 : (6 : Nat) = (red f 6).2 + (6 - (red f 6).2) := by omega
  have := decRes_tens (w * p10 (red f 6).2 + (red f 6).1) (6 - (red f 6).2) (red f 6).2
  rw [← h6] at this
  exact this.symm
theorem fine_l1 (k : Nat) (w f : Int) (hk : 90 < k) (h0 : 0 ≤ f) (h1 : f < 2000000) (hw0 : -3000000000000000 ≤ w) (hw1 : w ≤ 3000000000000000) : federationref1_fine.l1 k w f = some (decRes (w * 1000000 + f) 6) := by
  obtain ⟨k, rfl⟩ : ∃ m, k = m + 2 := ⟨k - 2, by omega⟩
  have e6 : ∀ k', 18 < k' → federationref1_Ten.f k' 6 = some 1000000 := fun k' h => by
    have := ref_Ten_eq k' 6 h (by omega); rw [p10_six] at this; exact this
  simp only [federationref1_fine.l1]
  rw [e6 _ (by omega)]
  simp only [Option.bind_some]
  by_cases c : f ≥ 1000000
  · rw [if_pos c, e6 _ (by omega)]
    simp only [Option.bind_some]
    rw [wrap64_of (x := w + 1) (by omega) (by omega), wrap64_of (x := f - 1000000) (by omega) (by omega), if_neg (by omega)]
    have := fine_l2 6 k (w + 1) (f - 1000000) (by omega) (by omega) (by omega) (by rw [p10_six]; omega) (by omega) (by omega)
    rw [show ((6 : Nat) : Int) = 6 from rfl] at this
    rw [this, decRes_parts, show (w + 1) * 1000000 + (f - 1000000) = w * 1000000 + f by omega]
  · rw [if_neg c]
    have := fine_l2 6 (k + 1) w f (by omega) (by omega) (by omega) (by rw [p10_six]; omega) (by omega) (by omega)
    rw [show ((6 : Nat) : Int) = 6 from rfl] at this
    rw [this, decRes_parts]
theorem ref_fine_eq (k : Nat) (w f : Int) (hk : 95 < k) (h0 : -1000000 < f) (h1 : f < 2000000) (hw0 : -2500000000000000 ≤ w) (hw1 : w ≤ 2500000000000000) : federationref1_fine.f k w f = some (decRes (w * 1000000 + f) 6) := by
  obtain ⟨k, rfl⟩ : ∃ m, k = m + 2 := ⟨k - 2, by omega⟩
  have e6 : ∀ k', 18 < k' → federationref1_Ten.f k' 6 = some 1000000 := fun k' h => by
    have := ref_Ten_eq k' 6 h (by omega); rw [p10_six] at this; exact this
  unfold federationref1_fine.f
  simp only [federationref1_fine.l0]
  by_cases c : f < 0
  · rw [if_pos c, e6 _ (by omega)]
    simp only [Option.bind_some]
    rw [wrap64_of (x := w - 1) (by omega) (by omega), wrap64_of (x := f + 1000000) (by omega) (by omega), if_neg (by omega), fine_l1 _ _ _ (by omega) (by omega) (by omega) (by omega) (by omega), show (w - 1) * 1000000 + (f + 1000000) = w * 1000000 + f by omega]
  · rw [if_neg c, fine_l1 _ _ _ (by omega) (by omega) (by omega) (by omega) (by omega)]
end Go.Proofs.Ytllkhdhanheieaa.R
namespace Go.Proofs.Ytllkhdhanheieaa.R
open Go.RowKit Go.Proofs.YtllkhdhanheieaaW.PrintWords Go.Proofs.YtllkhdhanheieaaW.PrintLast Go.Proofs.YtllkhdhanheieaaW.PrintMore
attribute [local go_sem] max2_int min2_int max_two min_two max_three min_three max_four min_four
attribute [local go_sem high] own_gtr own_leq own_geq own_cell_set Option.map_some fld23_1
set_option linter.unusedVariables false
set_option linter.unusedSimpArgs false
def overR : Int × Int × Int × ByteArray × Int := (0, 0, 0, (⟨#[]⟩ : ByteArray), 10)
def typeR : Int × Int × Int × ByteArray × Int := (0, 0, 0, (⟨#[]⟩ : ByteArray), 5)
def nullR : Int × Int × Int × ByteArray × Int := (0, 0, 0, (⟨#[]⟩ : ByteArray), 0)
def sgn (op : Int) : Int := if op = 7 then 1 else -1
def decsRes (op n1 : Int) (s1 : Nat) (n2 : Int) (s2 : Nat) : Int × Int × Int × ByteArray × Int :=
  if op = 6 then (if inI (n1 * n2) = true then decRes (n1 * n2) (s1 + s2) else overR) else decRes (n1 * p10 (6 - s1) + sgn op * (n2 * p10 (6 - s2))) 6
structure RD (n : Int) (s : Nat) : Prop where
  lo : -1000000000000000 < n
  hi : n < 1000000000000000
  sc : s ≤ 6
  nm : s = 0 ∨ n % 10 ≠ 0
theorem decRes_big (n : Int) (s : Nat) (h : s = 0 ∨ n % 10 ≠ 0) (hb : 1000000000000000 ≤ n ∨ n ≤ -1000000000000000) : decRes n s = overR := by
  unfold decRes; rw [red_same n s h, if_neg (by omega)]; rfl
theorem mul_p10_mod (n : Int) (j : Nat) (h : 0 < j) : n * p10 j % 10 = 0 := by
  obtain ⟨i, rfl⟩ : ∃ i, j = i + 1 := ⟨j - 1, by omega⟩
  rw [p10_succ, ← Int.mul_assoc]; omega
theorem exactly_sgn (op a b : Int) (h : op ≠ 6) : exactly op a b = a + sgn op * b := by
  unfold exactly sgn
  rw [if_neg h]
  by_cases h7 : op = 7
  · rw [if_pos h7, if_pos h7, Int.one_mul]
  · rw [if_neg h7, if_neg h7]; omega
theorem mxabs (n : Int) (h0 : -9223372036854775808 < n) (h1 : n ≤ 9223372036854775807) : mx n (wrap64 (-n)) = (n.natAbs : Int) := by
  rw [wrap64_of (by omega) (by omega)]; unfold mx; split <;> omega
theorem far_div (p : Int) (hp : 0 < p) (hp2 : p ≤ 1000000) : wrap64 (Int.tdiv 4611686018427387904 p) = 4611686018427387904 / p := by
  have h1 : 0 ≤ (4611686018427387904 : Int) / p := Int.ediv_nonneg (by decide) (by omega)
  have h2 : (4611686018427387904 : Int) / p ≤ 4611686018427387904 := Int.ediv_le_self _ (by decide)
  rw [Int.tdiv_eq_ediv_of_nonneg (by decide), wrap64_of (by omega) (by omega)]
theorem far_le (p x : Int) (hp : 0 < p) (hx : 0 ≤ x) : x > 4611686018427387904 / p ↔ x * p > 4611686018427387904 - (4611686018427387904 % p) := by
  have h1 := Int.mul_ediv_add_emod 4611686018427387904 p
  generalize 4611686018427387904 / p = q at *
  generalize 4611686018427387904 % p = r at *
  constructor
  · intro h
    have := Int.mul_lt_mul_of_pos_right h hp
    rw [Int.mul_comm q p] at this
    omega
  · intro h
    have h2 : q * p < x * p := by rw [Int.mul_comm q p]; omega
    exact Int.lt_of_mul_lt_mul_right h2 (by omega)
theorem val_decs_eq (k : Nat) (op n1 : Int) (s1 : Nat) (t1 : ByteArray) (n2 : Int) (s2 : Nat) (t2 : ByteArray) (k1 k2 : Int) (hk : 70 < k) (h1 : RD n1 s1) (h2 : RD n2 s2) :
    ∃ v1 v2 v3 v4, ∃ b : Bool, val_decs.f k op k1 n1 (s1 : Int) t1 k2 n2 (s2 : Int) t2 = some (v1, v2, v3, v4, b) ∧ (if b = true then (v1, v2, v3, v4, (0 : Int)) else overR) = decsRes op n1 s1 n2 s2 := by
  have b1 := h1.lo; have b2 := h1.hi; have b3 := h1.sc
  have c1 := h2.lo; have c2 := h2.hi; have c3 := h2.sc
  have fin : ∀ (n : Int) (s : Nat), (if (decide (-1000000000000000 < (red n s).1 ∧ (red n s).1 < 1000000000000000 ∧ (red n s).2 ≤ 6)) = true then ((3 : Int), (red n s).1, ((red n s).2 : Int), (⟨#[]⟩ : ByteArray), (0 : Int)) else overR) = decRes n s := by
    intro n s; unfold decRes overR; simp only [decide_eq_true_eq]
  unfold val_decs.f decsRes
  by_cases h6 : op = 6
  · rw [if_pos h6, if_pos h6, val_two_eq op n1 n2 ⟨by omega, by omega⟩ ⟨by omega, by omega⟩]
    have he : exactly op n1 n2 = n1 * n2 := by unfold exactly; rw [if_pos h6]
    simp only [Option.bind_some, he]
    rw [wrap64_of (x := (s1 : Int) + (s2 : Int)) (by omega) (by omega), show (s1 : Int) + (s2 : Int) = ((s1 + s2 : Nat) : Int) by omega]
    have hw : I64 (wrap64 (n1 * n2)) := by unfold I64 wrap64; omega
    refine ⟨_, _, _, _, _, val_end k (wrap64 (n1 * n2)) (s1 + s2) (inI (n1 * n2)) (by omega) (by omega) hw, ?_⟩
    cases hi : inI (n1 * n2) with
    | false => simp
    | true =>
      rw [wrap64_inI _ hi, Bool.true_and, if_pos rfl]
      exact fin _ _
  · rw [if_neg h6, if_neg h6]
    unfold val_same.f
    obtain ⟨m, hm, hm1, hm2⟩ : ∃ m : Nat, m ≤ 6 ∧ s1 ≤ m ∧ s2 ≤ m ∧ mx (s1 : Int) (s2 : Int) = (m : Int) ∧ (m = s1 ∨ m = s2) := by
      refine ⟨max s1 s2, by omega, by omega, by omega, ?_, by omega⟩
      unfold mx; split <;> omega
    obtain ⟨hm2, hmx, hmo⟩ := hm2
    rw [hmx, show (m : Int) - (s1 : Int) = ((m - s1 : Nat) : Int) by omega, show (m : Int) - (s2 : Int) = ((m - s2 : Nat) : Int) by omega]
    rw [wrap64_of (x := ((m - s1 : Nat) : Int)) (by omega) (by omega), wrap64_of (x := ((m - s2 : Nat) : Int)) (by omega) (by omega)]
    rw [val_ten_eq k _ (by omega) (by omega), val_ten_eq k _ (by omega) (by omega)]
    simp only [Option.bind_some]
    have hp := p10_pos (m - s1)
    have hq := p10_pos (m - s2)
    have hp2 : p10 (m - s1) ≤ 1000000 := by have := p10_mono (show m - s1 ≤ 6 by omega); rw [p10_six] at this; exact this
    have hq2 : p10 (m - s2) ≤ 1000000 := by have := p10_mono (show m - s2 ≤ 6 by omega); rw [p10_six] at this; exact this
    rw [mxabs n1 (by omega) (by omega), mxabs n2 (by omega) (by omega), far_div _ hp hp2, far_div _ hq hq2]
    rw [if_neg (show ¬ p10 (m - s1) = 0 by omega)]
    have hspec : decRes (n1 * p10 (6 - s1) + sgn op * (n2 * p10 (6 - s2))) 6 = decRes (n1 * p10 (m - s1) + sgn op * (n2 * p10 (m - s2))) m := by
      have e1 : p10 (6 - s1) = p10 (m - s1) * p10 (6 - m) := by rw [← p10_add]; congr 1; omega
      have e2 : p10 (6 - s2) = p10 (m - s2) * p10 (6 - m) := by rw [← p10_add]; congr 1; omega
      have e3 : n1 * p10 (6 - s1) + sgn op * (n2 * p10 (6 - s2)) = (n1 * p10 (m - s1) + sgn op * (n2 * p10 (m - s2))) * p10 (6 - m) := by
        rw [e1, e2, Int.add_mul, Int.mul_assoc, Int.mul_assoc, Int.mul_assoc]
      have e4 := decRes_tens (n1 * p10 (m - s1) + sgn op * (n2 * p10 (m - s2))) (6 - m) m
      rw [show m + (6 - m) = 6 by omega] at e4
      rw [e3, e4]
    rw [hspec]
    have hs : sgn op = 1 ∨ sgn op = -1 := by unfold sgn; split <;> omega
    have a1 : m = s1 → n1 * p10 (m - s1) = n1 := fun e => by rw [e, Nat.sub_self, p10_zero, Int.mul_one]
    have a2 : m = s2 → n2 * p10 (m - s2) = n2 := fun e => by rw [e, Nat.sub_self, p10_zero, Int.mul_one]
    have z1 : m ≠ s1 → n1 * p10 (m - s1) % 10 = 0 := fun e => mul_p10_mod n1 _ (by omega)
    have z2 : m ≠ s2 → n2 * p10 (m - s2) % 10 = 0 := fun e => mul_p10_mod n2 _ (by omega)
    have nm1 := h1.nm
    have nm2 := h2.nm
    have hab1 : (n1.natAbs : Int) * p10 (m - s1) = ((n1 * p10 (m - s1)).natAbs : Int) := by rw [Int.natAbs_mul, Int.natCast_mul, Int.natAbs_of_nonneg (Int.le_of_lt hp)]
    have hab2 : (n2.natAbs : Int) * p10 (m - s2) = ((n2 * p10 (m - s2)).natAbs : Int) := by rw [Int.natAbs_mul, Int.natCast_mul, Int.natAbs_of_nonneg (Int.le_of_lt hq)]
    have f1 := far_le (p10 (m - s1)) n1.natAbs hp (by omega)
    have f2 := far_le (p10 (m - s2)) n2.natAbs hq (by omega)
    rw [hab1] at f1
    rw [hab2] at f2
    have r1 := Int.emod_lt_of_pos 4611686018427387904 hp
    have r2 := Int.emod_lt_of_pos 4611686018427387904 hq
    have r3 := Int.emod_nonneg 4611686018427387904 (show p10 (m - s1) ≠ 0 by omega)
    have r4 := Int.emod_nonneg 4611686018427387904 (show p10 (m - s2) ≠ 0 by omega)
    generalize n1 * p10 (m - s1) = x at *
    generalize n2 * p10 (m - s2) = y at *
    by_cases g1 : (n1.natAbs : Int) > 4611686018427387904 / p10 (m - s1)
    · rw [if_pos g1]
      refine ⟨0, 0, 0, _, false, by simp only [Option.bind_some]; rfl, ?_⟩
      have g2 := f1.1 g1
      rw [if_neg (by decide)]
      symm
      by_cases e1 : m = s1
      · have := a1 e1; omega
      · have e2 : m = s2 := by omega
        have := a2 e2
        have := z1 e1
        rcases hs with hs | hs <;> rw [hs] <;> (apply decRes_big <;> omega)
    rw [if_neg g1, if_neg (show ¬ p10 (m - s2) = 0 by omega)]
    have g2 : ¬ _ := fun h => g1 (f1.2 h)
    by_cases g3 : (n2.natAbs : Int) > 4611686018427387904 / p10 (m - s2)
    · rw [if_pos g3]
      refine ⟨0, 0, 0, _, false, by simp only [Option.bind_some]; rfl, ?_⟩
      have g4 := f2.1 g3
      rw [if_neg (by decide)]
      symm
      by_cases e1 : m = s2
      · have := a2 e1; omega
      · have e2 : m = s1 := by omega
        have := a1 e2
        have := z2 e1
        rcases hs with hs | hs <;> rw [hs] <;> (apply decRes_big <;> omega)
    rw [if_neg g3]
    have g4 : ¬ _ := fun h => g3 (f2.2 h)
    simp only [Option.bind_some, if_true]
    rw [wrap64_of (x := x) (by omega) (by omega), wrap64_of (x := y) (by omega) (by omega)]
    rw [val_two_eq op x y ⟨by omega, by omega⟩ ⟨by omega, by omega⟩, exactly_sgn op x y h6]
    simp only [Option.bind_some]
    have hin : I64 (x + sgn op * y) := by
      unfold I64
      rcases hmo with e | e
      · have := a1 e
        rcases hs with hs | hs <;> rw [hs] <;> omega
      · have := a2 e
        rcases hs with hs | hs <;> rw [hs] <;> omega
    have hi : inI (x + sgn op * y) = true := by unfold inI; rw [decide_eq_true_eq]; exact hin
    rw [hi, wrap64_inI _ hi]
    refine ⟨_, _, _, _, _, val_end k (x + sgn op * y) m true (by omega) (by omega) hin, ?_⟩
    rw [Bool.true_and]
    exact fin _ _
theorem ediv_small {n p : Int} (hp : 0 < p) (h0 : -1000000000000000 < n) (h1 : n < 1000000000000000) : -1000000000000000 ≤ n / p ∧ n / p ≤ 1000000000000000 := by
  have e := Int.mul_ediv_add_emod n p
  have e1 := Int.emod_lt_of_pos n hp
  have e2 := Int.emod_nonneg n (show p ≠ 0 by omega)
  have e3 := Int.natAbs_ediv_le_natAbs n p
  omega
theorem ref_decs_mul (k : Nat) (n1 : Int) (s1 : Nat) (t1 : ByteArray) (n2 : Int) (s2 : Nat) (t2 : ByteArray) (k1 k2 : Int) (hk : 95 < k) (h1 : RD n1 s1) (h2 : RD n2 s2) :
    federationref1_decs.f k 6 k1 n1 (s1 : Int) t1 k2 n2 (s2 : Int) t2 = some (decsRes 6 n1 s1 n2 s2) := by
  have b1 := h1.lo; have b2 := h1.hi; have b3 := h1.sc
  have c1 := h2.lo; have c2 := h2.hi; have c3 := h2.sc
  unfold federationref1_decs.f decsRes
  rw [if_pos rfl, if_pos rfl, ref_times_eq n1 n2 ⟨by omega, by omega⟩ ⟨by omega, by omega⟩, Option.bind_some]
  dsimp only
  rw [wrap64_of (x := (s1 : Int) + (s2 : Int)) (by omega) (by omega), show (s1 : Int) + (s2 : Int) = ((s1 + s2 : Nat) : Int) by omega]
  have hw : I64 (wrap64 (n1 * n2)) := by unfold I64 wrap64; omega
  cases hi : inI (n1 * n2) with
  | false =>
    rw [ref_Norm_eq k (s1 + s2) _ _ (by omega) (by omega) hw.1 hw.2, Option.bind_some, if_neg (by decide), if_neg (by decide)]
    rfl
  | true =>
    have := ref_end k (wrap64 (n1 * n2)) (s1 + s2) (by omega) (by omega) hw
    simp only [if_true]
    rw [this, wrap64_inI _ hi]
theorem eta5 (p : Int × Int × Int × ByteArray × Int) : some (p.1, p.2.1, p.2.2.1, p.2.2.2.1, p.2.2.2.2) = some p := rfl
theorem ref_decs_add (k : Nat) (op n1 : Int) (s1 : Nat) (t1 : ByteArray) (n2 : Int) (s2 : Nat) (t2 : ByteArray) (k1 k2 : Int) (hk : 95 < k) (h1 : RD n1 s1) (h2 : RD n2 s2) (h6 : ¬ op = 6) :
    federationref1_decs.f k op k1 n1 (s1 : Int) t1 k2 n2 (s2 : Int) t2 = some (decsRes op n1 s1 n2 s2) := by
  have b1 := h1.lo; have b2 := h1.hi; have b3 := h1.sc
  have c1 := h2.lo; have c2 := h2.hi; have c3 := h2.sc
  have g1 := ediv_small (p10_pos s1) b1 b2
  have g2 := ediv_small (p10_pos s2) c1 c2
  have f1 := mic_ediv n1 s1 b3
  have f2 := mic_ediv n2 s2 c3
  have f3 := mic_emod n1 s1 b3
  have f4 := mic_emod n2 s2 c3
  have hP1 := ref_Parts_eq k k1 n1 s1 t1 (by omega) b3 b1 b2
  have hP2 := ref_Parts_eq k k2 n2 s2 t2 (by omega) c3 c1 c2
  rw [← f1, ← f3] at hP1
  rw [← f2, ← f4] at hP2
  rw [← f1] at g1
  rw [← f2] at g2
  clear f1 f2 f3 f4
  unfold federationref1_decs.f decsRes sgn
  rw [if_neg h6, if_neg h6, hP1, hP2, Option.bind_some, Option.bind_some]
  dsimp only
  clear hP1 hP2
  generalize n1 * p10 (6 - s1) = x at *
  generalize n2 * p10 (6 - s2) = y at *
  have q1 := Int.emod_lt_of_pos x (show (0 : Int) < 1000000 by decide)
  have q2 := Int.emod_lt_of_pos y (show (0 : Int) < 1000000 by decide)
  have q3 := Int.emod_nonneg x (show (1000000 : Int) ≠ 0 by decide)
  have q4 := Int.emod_nonneg y (show (1000000 : Int) ≠ 0 by decide)
  have e1 := Int.mul_ediv_add_emod x 1000000
  have e2 := Int.mul_ediv_add_emod y 1000000
  generalize x / 1000000 = u at *
  generalize y / 1000000 = v at *
  generalize x % 1000000 = c at *
  generalize y % 1000000 = d at *
  by_cases h7 : op = 7
  · rw [if_pos h7, if_pos h7, wrap64_of (x := u + v) (by omega) (by omega), wrap64_of (x := c + d) (by omega) (by omega)]
    have e : (u + v) * 1000000 + (c + d) = x + 1 * y := by omega
    rw [ref_fine_eq k _ _ (by omega) (by omega) (by omega) (by omega) (by omega), e, Option.bind_some, eta5]
  · rw [if_neg h7, if_neg h7, wrap64_of (x := u - v) (by omega) (by omega), wrap64_of (x := c - d) (by omega) (by omega)]
    have e : (u - v) * 1000000 + (c - d) = x + -1 * y := by omega
    rw [ref_fine_eq k _ _ (by omega) (by omega) (by omega) (by omega) (by omega), e, Option.bind_some, eta5]
theorem ref_decs_eq (k : Nat) (op n1 : Int) (s1 : Nat) (t1 : ByteArray) (n2 : Int) (s2 : Nat) (t2 : ByteArray) (k1 k2 : Int) (hk : 95 < k) (h1 : RD n1 s1) (h2 : RD n2 s2) :
    federationref1_decs.f k op k1 n1 (s1 : Int) t1 k2 n2 (s2 : Int) t2 = some (decsRes op n1 s1 n2 s2) := by
  by_cases h6 : op = 6
  · subst h6; exact ref_decs_mul k n1 s1 t1 n2 s2 t2 k1 k2 hk h1 h2
  · exact ref_decs_add k op n1 s1 t1 n2 s2 t2 k1 k2 hk h1 h2 h6
def num (kd : Int) : Bool := kd == 0 || kd == 2 || kd == 3
def reckRes (op k1 n1 : Int) (s1 : Nat) (k2 n2 : Int) (s2 : Nat) : Int × Int × Int × ByteArray × Int :=
  if (op = 6 ∨ op = 7 ∨ op = 8) ∧ num k1 = true ∧ num k2 = true then
    (if k1 = 0 ∨ k2 = 0 then nullR else if k1 = k2 then (if k1 = 2 then intRes op n1 n2 else decsRes op n1 s1 n2 s2) else typeR)
  else typeR
structure RV (kd n : Int) (s : Nat) : Prop where
  i : I64 n
  d : kd = 3 → RD n s
theorem val_Reckon_j0 (k : Nat) (op k1 n1 : Int) (s1 : Nat) (t1 : ByteArray) (k2 n2 : Int) (s2 : Nat) (t2 : ByteArray) (hk : 100 < k) (h1 : RV k1 n1 s1) (h2 : RV k2 n2 s2) :
    val_Reckon.j0 k op k1 n1 (s1 : Int) t1 k2 n2 (s2 : Int) t2 = some (reckRes op k1 n1 s1 k2 n2 s2) := by
  obtain ⟨k, rfl⟩ : ∃ m, k = m + 3 := ⟨k - 3, by omega⟩
  have hn : ∀ kd n s t, val_reckons.f kd n s t = some (num kd) := fun kd n s t => by
    unfold val_reckons.f num
    by_cases a : kd = 0
    · rw [if_pos a]; simp [a]
    · rw [if_neg a]
      by_cases b : kd = 2
      · rw [if_pos b]; simp [b]
      · rw [if_neg b]; simp [a, b]
  have tail : ∀ b : Bool, val_Reckon.j1 (k + 2) op b k1 n1 (s1 : Int) t1 k2 n2 (s2 : Int) t2 = some (if b = true then typeR else if k1 = 0 ∨ k2 = 0 then nullR else if k1 = k2 then (if k1 = 2 then intRes op n1 n2 else decsRes op n1 s1 n2 s2) else typeR) ∨ num k1 = false ∨ num k2 = false := by
    intro b
    cases hn1 : num k1 with
    | false => exact Or.inr (Or.inl rfl)
    | true =>
    cases hn2 : num k2 with
    | false => exact Or.inr (Or.inr rfl)
    | true =>
    left
    simp only [val_Reckon.j1]
    cases b with
    | true => rfl
    | false =>
    simp only [Bool.false_eq_true, if_false]
    by_cases z1 : k1 = 0
    · rw [if_pos z1, if_pos (Or.inl z1)]; simp only [val_Reckon.j2, if_true]; rfl
    · rw [if_neg z1]
      simp only [val_Reckon.j2]
      by_cases z2 : k2 = 0
      · rw [if_pos (by simpa using z2), if_pos (Or.inr z2)]; rfl
      · rw [if_neg (by simpa using z2), if_neg (show ¬(k1 = 0 ∨ k2 = 0) by omega)]
        by_cases e : k1 = k2
        · rw [if_pos e, if_pos e]
          unfold val_reckoner_of.f
          by_cases e2 : k1 = 2
          · rw [if_pos e2, if_pos e2]
            unfold val_ints.f intRes
            rw [val_two_eq op n1 n2 h1.i h2.i]
            simp only [Option.bind_some]
            by_cases hi : inI (exactly op n1 n2) = true
            · rw [if_pos hi, if_pos hi, wrap64_inI _ hi]
            · rw [if_neg hi, if_neg hi]
          · rw [if_neg e2, if_neg e2]
            have e3 : k1 = 3 := by unfold num at hn1; simp at hn1; omega
            obtain ⟨v1, v2, v3, v4, b, hd, hr⟩ := val_decs_eq k op n1 s1 t1 n2 s2 t2 k1 k2 (by omega) (h1.d e3) (h2.d (by omega))
            rw [hd]
            simp only [Option.bind_some]
            rw [← hr]
            cases b <;> rfl
        · rw [if_neg e, if_neg e]; rfl
  have t0 := tail false
  have t1_ := tail true
  have stop : val_Reckon.j1 (k + 2) op true k1 n1 (s1 : Int) t1 k2 n2 (s2 : Int) t2 = some typeR := by simp only [val_Reckon.j1, if_true]; rfl
  simp only [val_Reckon.j0, hn, Option.bind_some]
  unfold reckRes
  have both : (if num k1 = true then val_Reckon.j1 (k + 2) op (!num k2) k1 n1 (s1 : Int) t1 k2 n2 (s2 : Int) t2 else val_Reckon.j1 (k + 2) op true k1 n1 (s1 : Int) t1 k2 n2 (s2 : Int) t2) = some (if num k1 = true ∧ num k2 = true then (if k1 = 0 ∨ k2 = 0 then nullR else if k1 = k2 then (if k1 = 2 then intRes op n1 n2 else decsRes op n1 s1 n2 s2) else typeR) else typeR) := by
    cases a1 : num k1 with
    | false => simp [stop]
    | true =>
      cases a2 : num k2 with
      | false => simp [stop]
      | true =>
        simp only [if_true, Bool.not_true, and_self]
        rcases t0 with h | h | h
        · exact h
        · rw [a1] at h; cases h
        · rw [a2] at h; cases h
  by_cases c6 : op = 6
  · rw [if_pos c6, both]; simp [c6]
  · rw [if_neg c6]
    by_cases c7 : op = 7
    · rw [if_pos c7, both]; simp [c7]
    · rw [if_neg c7]
      by_cases c8 : op = 8
      · rw [if_pos c8, both]; simp [c8]
      · rw [if_neg c8, stop]; simp [c6, c7, c8]
theorem ref_Reckon_j0 (k : Nat) (op k1 n1 : Int) (s1 : Nat) (t1 : ByteArray) (k2 n2 : Int) (s2 : Nat) (t2 : ByteArray) (hk : 100 < k) (h1 : RV k1 n1 s1) (h2 : RV k2 n2 s2) :
    federationref1_Reckon.j0 k op k1 n1 (s1 : Int) t1 k2 n2 (s2 : Int) t2 = some (reckRes op k1 n1 s1 k2 n2 s2) := by
  obtain ⟨k, rfl⟩ : ∃ m, k = m + 3 := ⟨k - 3, by omega⟩
  have hn : ∀ kd n s t, federationref1_number.f kd n s t = some (num kd) := fun kd n s t => by
    unfold federationref1_number.f num
    by_cases a : kd = 0
    · rw [if_pos a]; simp [a]
    · rw [if_neg a]
      by_cases b : kd = 2
      · rw [if_pos b]; simp [b]
      · rw [if_neg b]; simp [a, b]
  have tail : num k1 = true → num k2 = true → federationref1_Reckon.j1 (k + 2) op false k1 n1 (s1 : Int) t1 k2 n2 (s2 : Int) t2 = some (if k1 = 0 ∨ k2 = 0 then nullR else if k1 = k2 then (if k1 = 2 then intRes op n1 n2 else decsRes op n1 s1 n2 s2) else typeR) := by
    intro hn1 hn2
    simp only [federationref1_Reckon.j1, Bool.false_eq_true, if_false]
    by_cases z1 : k1 = 0
    · rw [if_pos z1, if_pos (Or.inl z1)]; simp only [federationref1_Reckon.j2, if_true]; rfl
    · rw [if_neg z1]
      simp only [federationref1_Reckon.j2]
      by_cases z2 : k2 = 0
      · rw [if_pos (by simpa using z2), if_pos (Or.inr z2)]; rfl
      · rw [if_neg (by simpa using z2), if_neg (show ¬(k1 = 0 ∨ k2 = 0) by omega)]
        by_cases e : k1 = k2
        · rw [if_pos e, if_pos e]
          by_cases e2 : k1 = 2
          · rw [if_pos e2, if_pos e2, ref_ints_eq op n1 n2 h1.i h2.i]; rfl
          · rw [if_neg e2, if_neg e2]
            have e3 : k1 = 3 := by unfold num at hn1; simp at hn1; omega
            rw [ref_decs_eq k op n1 s1 t1 n2 s2 t2 k1 k2 (by omega) (h1.d e3) (h2.d (by omega))]
            rfl
        · rw [if_neg e, if_neg e]; rfl
  have stop : federationref1_Reckon.j1 (k + 2) op true k1 n1 (s1 : Int) t1 k2 n2 (s2 : Int) t2 = some typeR := by simp only [federationref1_Reckon.j1, if_true]; rfl
  simp only [federationref1_Reckon.j0, hn, Option.bind_some]
  unfold reckRes
  have both : (if num k1 = true then federationref1_Reckon.j1 (k + 2) op (!num k2) k1 n1 (s1 : Int) t1 k2 n2 (s2 : Int) t2 else federationref1_Reckon.j1 (k + 2) op true k1 n1 (s1 : Int) t1 k2 n2 (s2 : Int) t2) = some (if num k1 = true ∧ num k2 = true then (if k1 = 0 ∨ k2 = 0 then nullR else if k1 = k2 then (if k1 = 2 then intRes op n1 n2 else decsRes op n1 s1 n2 s2) else typeR) else typeR) := by
    cases a1 : num k1 with
    | false => simp [stop]
    | true =>
      cases a2 : num k2 with
      | false => simp [stop]
      | true =>
        simp only [if_true, Bool.not_true, and_self]
        exact tail a1 a2
  by_cases c6 : op = 6
  · rw [if_pos c6, both]; simp [c6]
  · rw [if_neg c6]
    by_cases c7 : op = 7
    · rw [if_pos c7, both]; simp [c7]
    · rw [if_neg c7]
      by_cases c8 : op = 8
      · rw [if_pos c8, both]; simp [c8]
      · rw [if_neg c8, stop]; simp [c6, c7, c8]
def reckB (op k1 n1 : Int) (s1 : Nat) (k2 n2 : Int) (s2 : Nat) : Int × Int × Int × ByteArray × Int :=
  if op = 4 then reckRes 8 k1 0 0 k1 n1 s1 else reckRes op k1 n1 s1 k2 n2 s2
theorem RV_zero (kd : Int) : RV kd 0 0 := ⟨⟨by decide, by decide⟩, fun _ => ⟨by decide, by decide, by decide, Or.inl rfl⟩⟩
theorem val_Reckon_eq (k : Nat) (op k1 n1 : Int) (s1 : Nat) (t1 : ByteArray) (k2 n2 : Int) (s2 : Nat) (t2 : ByteArray) (hk : 100 < k) (h1 : RV k1 n1 s1) (h2 : RV k2 n2 s2) :
    val_Reckon.f k op k1 n1 (s1 : Int) t1 k2 n2 (s2 : Int) t2 = some (reckB op k1 n1 s1 k2 n2 s2) := by
  unfold val_Reckon.f reckB
  by_cases c : op = 4
  · rw [if_pos c, if_pos c]
    exact val_Reckon_j0 k 8 k1 0 0 _ k1 n1 s1 t1 hk (RV_zero k1) h1
  · rw [if_neg c, if_neg c]
    exact val_Reckon_j0 k op k1 n1 s1 t1 k2 n2 s2 t2 hk h1 h2
theorem ref_Reckon_eq (k : Nat) (op k1 n1 : Int) (s1 : Nat) (t1 : ByteArray) (k2 n2 : Int) (s2 : Nat) (t2 : ByteArray) (hk : 100 < k) (h1 : RV k1 n1 s1) (h2 : RV k2 n2 s2) :
    federationref1_Reckon.f k op k1 n1 (s1 : Int) t1 k2 n2 (s2 : Int) t2 = some (reckB op k1 n1 s1 k2 n2 s2) := by
  unfold federationref1_Reckon.f reckB
  by_cases c : op = 4
  · rw [if_pos c, if_pos c]
    by_cases a : k1 = 2
    · rw [if_pos a]; exact ref_Reckon_j0 k 8 k1 0 0 _ k1 n1 s1 t1 hk (RV_zero k1) h1
    rw [if_neg a]
    by_cases b : k1 = 3
    · rw [if_pos b]; exact ref_Reckon_j0 k 8 k1 0 0 _ k1 n1 s1 t1 hk (RV_zero k1) h1
    rw [if_neg b]
    rw [ref_Reckon_j0 k 8 k1 n1 s1 t1 k1 n1 s1 t1 hk h1 h1]
    unfold reckRes
    by_cases z : k1 = 0
    · subst z; simp [num]
    · have : num k1 = false := by unfold num; simp [a, b, z]
      simp [this]
  · rw [if_neg c, if_neg c]
    exact ref_Reckon_j0 k op k1 n1 s1 t1 k2 n2 s2 t2 hk h1 h2
end Go.Proofs.Ytllkhdhanheieaa.R
namespace Go.Proofs.Ytllkhdhanheieaa.R
open Go.RowKit Go.Proofs.YtllkhdhanheieaaW.PrintWords Go.Proofs.YtllkhdhanheieaaW.PrintLast Go.Proofs.YtllkhdhanheieaaW.PrintMore
attribute [local go_sem] max2_int min2_int max_two min_two max_three min_three max_four min_four
attribute [local go_sem high] own_gtr own_leq own_geq own_cell_set Option.map_some fld23_1
set_option linter.unusedVariables false
set_option linter.unusedSimpArgs false
theorem within_eq (a n : Int) (ha : I64 a) (h0 : 0 < n) (h1 : n ≤ 4611686018427387904) : federationlaw1_within.f a n = some (a % n) := by
  unfold federationlaw1_within.f I64 at *
  rw [if_neg (by omega)]
  have e1 := Int.mul_tdiv_add_tmod a n
  have e2 := Int.mul_ediv_add_emod a n
  have e3 := Int.emod_lt_of_pos a h0
  have e4 := Int.emod_nonneg a (show n ≠ 0 by omega)
  have e5 := Int.tmod_lt_of_pos a h0
  have e6 := Int.tmod_lt_of_pos (-a) h0
  rw [Int.neg_tmod] at e6
  by_cases c : a.tmod n < 0
  · rw [if_pos c, wrap64_of (by omega) (by omega)]
    have := ((Int.ediv_emod_unique (a := a) (r := a.tmod n + n) (q := a.tdiv n - 1) h0).2 ⟨by rw [Int.mul_sub, Int.mul_one]; omega, by omega, by omega⟩).2
    rw [this]
  · rw [if_neg c]
    have := ((Int.ediv_emod_unique (a := a) (r := a.tmod n) (q := a.tdiv n) h0).2 ⟨by omega, by omega, by omega⟩).2
    rw [this]
theorem emod_bd (a n : Int) (h0 : 0 < n) : 0 ≤ a % n ∧ a % n < n := ⟨Int.emod_nonneg a (by omega), Int.emod_lt_of_pos a h0⟩
theorem RV_right {kd n : Int} {s : Nat} {st : ByteArray} (hn : I64 n) (h : rightB kd n (s : Int) st = true) : RV kd n s := by
  refine ⟨hn, fun e => ?_⟩
  subst e
  unfold rightB at h
  rw [if_neg (by decide), if_neg (by decide), if_neg (by decide), if_pos rfl, Bool.and_eq_true, decide_eq_true_eq] at h
  obtain ⟨⟨a, b, c, d, e⟩, _⟩ := h
  exact ⟨a, b, by omega, by omega⟩
theorem noS_empty : noS (⟨#[]⟩ : ByteArray) = true := by decide +kernel
theorem right_RD {n : Int} {s : Nat} (h : RD n s) : rightB 3 n (s : Int) (⟨#[]⟩ : ByteArray) = true := by
  unfold rightB
  rw [if_neg (by decide), if_neg (by decide), if_neg (by decide), if_pos rfl, noS_empty, Bool.and_true, decide_eq_true_eq]
  exact ⟨h.lo, h.hi, by omega, by have := h.sc; omega, by have := h.nm; omega⟩
theorem RD_red (n : Int) (s : Nat) (h0 : -1000000000000000 < n) (h1 : n < 1000000000000000) (hs : s ≤ 6) : RD (red n s).1 (red n s).2 := by
  have a := red_abs s n
  have b := red_scale s n
  have c := red_done s n
  exact ⟨by omega, by omega, by omega, c⟩
theorem mkText_size (st : ByteArray) : (mkText st).data.size ≤ 40 := by
  unfold mkText strOfNums
  simp [conv8L_length]
  omega
theorem mkText_ok (st : ByteArray) : okB (mkText st) = true := by
  unfold okB mkText strOfNums
  simp only [List.all_eq_true, decide_eq_true_eq, List.map_toArray, List.mem_map, conv8L]
  rintro b ⟨x, hx, rfl⟩
  obtain ⟨c, _, rfl⟩ := List.mem_map.1 (List.mem_of_mem_take hx)
  unfold conv8
  have h1 := emod_bd (c.toNat : Int) 95 (by decide)
  generalize (c.toNat : Int) % 95 = z at *
  have : ((32 + z).toNat % 256) = (32 + z).toNat := Nat.mod_eq_of_lt (by omega)
  simp only [UInt8.toNat_ofNat']
  omega
theorem extract_size (st : ByteArray) (j : Nat) : (st.extract 0 j).data.size = min j st.data.size := by
  rw [← Array.length_toList, Lib.extract_data]
  simp
structure Made (kd n : Int) (s : Nat) (st : ByteArray) : Prop where
  r : rightB kd n (s : Int) st = true
  v : RV kd n s
  sz : st.data.size ≤ 40
  k0 : 0 ≤ kd
  k5 : kd ≤ 5
  z : kd ≠ 3 → s = 0
theorem rd6 (a b c d e f : Int) (i : Int) (h0 : 0 ≤ i) (h1 : i < 6) : rd [a, b, c, d, e, f] i = a ∨ rd [a, b, c, d, e, f] i = b ∨ rd [a, b, c, d, e, f] i = c ∨ rd [a, b, c, d, e, f] i = d ∨ rd [a, b, c, d, e, f] i = e ∨ rd [a, b, c, d, e, f] i = f := by
  have : i = 0 ∨ i = 1 ∨ i = 2 ∨ i = 3 ∨ i = 4 ∨ i = 5 := by omega
  rcases this with rfl | rfl | rfl | rfl | rfl | rfl
  · exact Or.inl rfl
  · exact Or.inr (Or.inl rfl)
  · exact Or.inr (Or.inr (Or.inl rfl))
  · exact Or.inr (Or.inr (Or.inr (Or.inl rfl)))
  · exact Or.inr (Or.inr (Or.inr (Or.inr (Or.inl rfl))))
  · exact Or.inr (Or.inr (Or.inr (Or.inr (Or.inr rfl))))
theorem rd8 (a b c d e f g h : Int) (P : Int → Prop) (pa : P a) (pb : P b) (pc : P c) (pd : P d) (pe : P e) (pf : P f) (pg : P g) (ph : P h) (i : Int) (h0 : 0 ≤ i) (h1 : i < 8) : P (rd [a, b, c, d, e, f, g, h] i) := by
  have : i = 0 ∨ i = 1 ∨ i = 2 ∨ i = 3 ∨ i = 4 ∨ i = 5 ∨ i = 6 ∨ i = 7 := by omega
  rcases this with rfl | rfl | rfl | rfl | rfl | rfl | rfl | rfl
  · exact pa
  · exact pb
  · exact pc
  · exact pd
  · exact pe
  · exact pf
  · exact pg
  · exact ph
theorem I64_tdiv (a b : Int) (ha : I64 a) (hb : 2 ≤ b) : I64 (wrap64 (a.tdiv b)) ∧ wrap64 (a.tdiv b) = a.tdiv b := by
  have h := Int.natAbs_tdiv_le_natAbs a b
  have h2 : (a.tdiv b).natAbs ≤ 4611686018427387904 := by
    rw [Int.natAbs_tdiv]
    have h1 : a.natAbs ≤ 9223372036854775808 := by unfold I64 at ha; omega
    exact Nat.le_trans (Nat.div_le_div_left (show 2 ≤ b.natAbs by omega) (by decide)) (by have := Nat.div_le_div_right (c := 2) h1; simpa using this)
  have e : wrap64 (a.tdiv b) = a.tdiv b := wrap64_of (by omega) (by omega)
  rw [e]
  exact ⟨⟨by omega, by omega⟩, rfl⟩
theorem Make_eq (kind n : Int) (st : ByteArray) (hk : I64 kind) (hn : I64 n) (hs : st.size ≤ 140737488351232) :
    ∃ n' s' st', (∀ k, 60 < k → federationlaw1_Make.f k kind n st = some (kind % 6, n', ((s' : Nat) : Int), st')) ∧ Made (kind % 6) n' s' st' := by
  have hk6 := within_eq kind 6 hk (by decide) (by decide)
  have hb := emod_bd kind 6 (by decide)
  have hd := I64_tdiv kind 6 hk (by decide)
  have hd2 := I64_tdiv kind 36 hk (by decide)
  have h0 : I64 0 := ⟨by decide, by decide⟩
  have em : (⟨#[]⟩ : ByteArray).data.size ≤ 40 := by decide
  have c : kind % 6 = 0 ∨ kind % 6 = 1 ∨ kind % 6 = 2 ∨ kind % 6 = 3 ∨ kind % 6 = 4 ∨ kind % 6 = 5 := by omega
  rcases c with c | c | c | c | c | c
  · have hr : rightB (kind % 6) 0 ((0 : Nat) : Int) (⟨#[]⟩ : ByteArray) = true := by rw [c]; decide +kernel
    refine ⟨0, 0, _, fun k _ => ?_, ⟨hr, RV_right h0 hr, em, hb.1, by omega, fun _ => rfl⟩⟩
    unfold federationlaw1_Make.f federationlaw1_Make_p.f
    rw [hk6, c, if_neg (by decide), Option.bind_some, if_neg (by decide), if_neg (by decide), if_neg (by decide), if_neg (by decide), if_neg (by decide)]
    rfl
  · have hw := within_eq n 2 hn (by decide) (by decide)
    have hm := emod_bd n 2 (by decide)
    have hr : rightB (kind % 6) (n % 2) ((0 : Nat) : Int) (⟨#[]⟩ : ByteArray) = true := by
      rw [c]; unfold rightB; rw [if_neg (by decide), if_pos rfl, noS_empty, decide_eq_true (by omega)]; rfl
    refine ⟨n % 2, 0, _, fun k _ => ?_, ⟨hr, RV_right ⟨by omega, by omega⟩ hr, em, hb.1, by omega, fun _ => rfl⟩⟩
    unfold federationlaw1_Make.f federationlaw1_Make_p.f
    rw [hk6, c, if_neg (by decide), Option.bind_some, if_pos rfl, hw, Option.bind_some]
    rfl
  · have hw := within_eq n 100 hn (by decide) (by decide)
    have hm := emod_bd n 100 (by decide)
    have hi := within_eq (wrap64 (Int.tdiv kind 6)) 8 hd.1 (by decide) (by decide)
    have hj := emod_bd (wrap64 (Int.tdiv kind 6)) 8 (by decide)
    generalize hz : wrap64 (Int.tdiv kind 6) % 8 = j at hi hj
    have hrd : I64 (rd [n, 0, 1, -1, 9223372036854775807, -9223372036854775808, wrap64 (n % 100 - 50), 7] j) := by
      rw [wrap64_of (by omega) (by omega)]
      exact rd8 _ _ _ _ _ _ _ _ I64 hn ⟨by decide, by decide⟩ ⟨by decide, by decide⟩ ⟨by decide, by decide⟩ ⟨by decide, by decide⟩ ⟨by decide, by decide⟩ ⟨by omega, by omega⟩ ⟨by decide, by decide⟩ j hj.1 hj.2
    have hr : rightB (kind % 6) (rd [n, 0, 1, -1, 9223372036854775807, -9223372036854775808, wrap64 (n % 100 - 50), 7] j) ((0 : Nat) : Int) (⟨#[]⟩ : ByteArray) = true := by
      rw [c]; unfold rightB; rw [if_neg (by decide), if_neg (by decide), if_pos rfl, noS_empty]; rfl
    refine ⟨_, 0, _, fun k _ => ?_, ⟨hr, RV_right hrd hr, em, hb.1, by omega, fun _ => rfl⟩⟩
    unfold federationlaw1_Make.f federationlaw1_Make_p.f
    rw [hk6, c, if_neg (by decide), Option.bind_some, if_neg (by decide), if_pos rfl, hw, Option.bind_some, Option.bind_some, hi, Option.bind_some, if_pos hj.1, if_pos (by simp; omega)]
    rfl
  · have hw := within_eq n 2000 hn (by decide) (by decide)
    have hm := emod_bd n 2000 (by decide)
    have hw2 := within_eq n 50 hn (by decide) (by decide)
    have hm2 := emod_bd n 50 (by decide)
    have hi := within_eq (wrap64 (Int.tdiv kind 6)) 6 hd.1 (by decide) (by decide)
    have hj := emod_bd (wrap64 (Int.tdiv kind 6)) 6 (by decide)
    have hi2 := within_eq (wrap64 (Int.tdiv kind 36)) 7 hd2.1 (by decide) (by decide)
    have hj2 := emod_bd (wrap64 (Int.tdiv kind 36)) 7 (by decide)
    generalize hz : wrap64 (Int.tdiv kind 6) % 6 = j at hi hj
    generalize hz2 : wrap64 (Int.tdiv kind 36) % 7 = j2 at hi2 hj2
    have ht1 := Int.tmod_lt_of_pos n (show (0 : Int) < 1000000000000000 by decide)
    have ht2 := Int.tmod_lt_of_pos (-n) (show (0 : Int) < 1000000000000000 by decide)
    rw [Int.neg_tmod] at ht2
    have hx : -1000000000000000 < rd [Int.tmod n 1000000000000000, wrap64 (n % 2000 - 1000), 999999999999999, -999999999999999, 1, wrap64 (wrap64 (n % 50 * 1000) - 20000)] j ∧ rd [Int.tmod n 1000000000000000, wrap64 (n % 2000 - 1000), 999999999999999, -999999999999999, 1, wrap64 (wrap64 (n % 50 * 1000) - 20000)] j < 1000000000000000 := by
      have e1 : wrap64 (n % 2000 - 1000) = n % 2000 - 1000 := wrap64_of (by omega) (by omega)
      have e2 : wrap64 (n % 50 * 1000) = n % 50 * 1000 := wrap64_of (by omega) (by omega)
      have e3 : wrap64 (n % 50 * 1000 - 20000) = n % 50 * 1000 - 20000 := wrap64_of (by omega) (by omega)
      rw [e1, e2, e3]
      rcases rd6 (Int.tmod n 1000000000000000) (n % 2000 - 1000) 999999999999999 (-999999999999999) 1 (n % 50 * 1000 - 20000) j hj.1 hj.2 with h | h | h | h | h | h <;> rw [h] <;> omega
    obtain ⟨t, rfl⟩ : ∃ t : Nat, j2 = (t : Int) := ⟨j2.toNat, by omega⟩
    generalize hy : rd [Int.tmod n 1000000000000000, wrap64 (n % 2000 - 1000), 999999999999999, -999999999999999, 1, wrap64 (wrap64 (n % 50 * 1000) - 20000)] j = y at hx
    have hrd := RD_red y t hx.1 hx.2 (by omega)
    have hr := right_RD hrd
    rw [← c] at hr
    refine ⟨(red y t).1, (red y t).2, _, fun k hk => ?_, ⟨hr, RV_right ⟨by have := hrd.lo; omega, by have := hrd.hi; omega⟩ hr, em, hb.1, by omega, fun e => absurd c e⟩⟩
    unfold federationlaw1_Make.f federationlaw1_Make_p.f
    rw [hk6, c, if_neg (by decide), Option.bind_some, if_neg (by decide), if_neg (by decide), if_pos rfl, hw, Option.bind_some, hw2, Option.bind_some, Option.bind_some, hi, Option.bind_some, if_pos hj.1, if_pos (by simp; omega), hi2, Option.bind_some, hy, ref_Norm_eq k t y _ (by omega) (by omega) (by omega) (by omega), Option.bind_some]
  · have hr : rightB (kind % 6) 0 ((0 : Nat) : Int) (mkText st) = true := by
      have h1 := mkText_size st
      have h2 := mkText_ok st
      rw [c]; unfold rightB; rw [if_neg (by decide), if_neg (by decide), if_neg (by decide), if_neg (by decide), if_pos rfl, h2, decide_eq_true (by omega)]; rfl
    refine ⟨0, 0, _, fun k _ => ?_, ⟨hr, RV_right h0 hr, mkText_size st, hb.1, by omega, fun _ => rfl⟩⟩
    unfold federationlaw1_Make.f
    rw [hk6, c, if_pos rfl, if_pos hs]
    rfl
  · have hz : (st.size : Int) = (st.data.size : Int) := rfl
    have hm : mn (st.size : Int) 40 = ((min 40 st.data.size : Nat) : Int) := by unfold mn; split <;> omega
    have hr : rightB (kind % 6) 0 ((0 : Nat) : Int) (st.extract 0 (min 40 st.data.size)) = true := by
      have h1 := extract_size st (min 40 st.data.size)
      rw [c]; unfold rightB; rw [if_neg (by decide), if_neg (by decide), if_neg (by decide), if_neg (by decide), if_neg (by decide), if_pos rfl, decide_eq_true (by omega)]
    refine ⟨0, 0, _, fun k _ => ?_, ⟨hr, RV_right h0 hr, by rw [extract_size]; omega, hb.1, by omega, fun _ => rfl⟩⟩
    unfold federationlaw1_Make.f federationlaw1_Make_p.f
    rw [hk6, c, if_neg (by decide), Option.bind_some, if_neg (by decide), if_neg (by decide), if_neg (by decide), if_neg (by decide), if_pos rfl, hm, if_pos (by omega), if_pos (by omega)]
    rfl
end Go.Proofs.Ytllkhdhanheieaa.R
namespace Go.Proofs.Ytllkhdhanheieaa.R
open Go.RowKit Go.Proofs.YtllkhdhanheieaaW.PrintWords Go.Proofs.YtllkhdhanheieaaW.PrintLast Go.Proofs.YtllkhdhanheieaaW.PrintMore
attribute [local go_sem] max2_int min2_int max_two min_two max_three min_three max_four min_four
attribute [local go_sem high] own_gtr own_leq own_geq own_cell_set Option.map_some fld23_1
set_option linter.unusedVariables false
set_option linter.unusedSimpArgs false
theorem I64_of {x : Int} (h : (Lit.int .i64 x).wf = true) : I64 x := by
  have h1 : IntKind.i64.min = -9223372036854775808 := by decide
  have h2 : IntKind.i64.max = 9223372036854775807 := by decide
  simp only [Lit.wf, Bool.and_eq_true, decide_eq_true_eq, h1, h2] at h
  exact h
theorem known_two : federationlaw1_known.f 200 = some true := by decide +kernel
theorem known_ge {k : Nat} (h : 200 ≤ k) : federationlaw1_known.f k = some true := at_rounds federationlaw1_known.mono h known_two
end Go.Proofs.Ytllkhdhanheieaa.R
namespace Go.Proofs.Ytllkhdhanheieaa.Pure
open Go.RowKit Go.Proofs.Ytllkhdhanheieaa.R Go.Proofs.YtllkhdhanheieaaW.PrintWords Go.Proofs.YtllkhdhanheieaaW.PrintLast Go.Proofs.YtllkhdhanheieaaW.PrintMore
structure MadeV (v : S23) : Prop where
  s : v.f2 = ((v.f2.toNat : Nat) : Int)
  m : Made v.f0 v.f1 v.f2.toNat v.f3
theorem rd23 (l : List S23) (i : Nat) (h : i < l.length) : rd_T23 l (i : Int) = l[i] := by
  unfold rd_T23
  rw [Int.toNat_natCast, List.getD_eq_getElem?_getD, List.getElem?_eq_getElem h]; rfl
theorem decRes_right (n : Int) (s : Nat) : (decRes n s).2.2.2.2 = 0 → rightB (decRes n s).1 (decRes n s).2.1 (decRes n s).2.2.1 (decRes n s).2.2.2.1 = true := by
  intro h
  unfold decRes at h ⊢
  split at h
  · rename_i c
    rw [if_pos c]
    dsimp only
    rw [right_red, decide_eq_true c]
  · exact absurd h (by decide)
theorem reck_right (op k1 n1 : Int) (s1 : Nat) (k2 n2 : Int) (s2 : Nat) : (reckB op k1 n1 s1 k2 n2 s2).2.2.2.2 = 0 → rightB (reckB op k1 n1 s1 k2 n2 s2).1 (reckB op k1 n1 s1 k2 n2 s2).2.1 (reckB op k1 n1 s1 k2 n2 s2).2.2.1 (reckB op k1 n1 s1 k2 n2 s2).2.2.2.1 = true := by
  have hn : rightB nullR.1 nullR.2.1 nullR.2.2.1 nullR.2.2.2.1 = true := by
    show rightB 0 0 0 (⟨#[]⟩ : ByteArray) = true
    unfold rightB; rw [if_pos rfl, noS_empty]; rfl
  have key : ∀ op k1 n1 s1 k2 n2 s2, (reckRes op k1 n1 s1 k2 n2 s2).2.2.2.2 = 0 → rightB (reckRes op k1 n1 s1 k2 n2 s2).1 (reckRes op k1 n1 s1 k2 n2 s2).2.1 (reckRes op k1 n1 s1 k2 n2 s2).2.2.1 (reckRes op k1 n1 s1 k2 n2 s2).2.2.2.1 = true := by
    intro op k1 n1 s1 k2 n2 s2
    unfold reckRes
    split
    · split
      · intro _; exact hn
      split
      · split
        · intro h
          unfold intRes at h ⊢
          split at h
          · rename_i c
            rw [if_pos c]
            show rightB 2 (exactly op n1 n2) 0 (⟨#[]⟩ : ByteArray) = true
            unfold rightB; rw [if_neg (by decide), if_neg (by decide), if_pos rfl, noS_empty]; rfl
          · exact absurd h (by decide)
        · unfold decsRes
          split
          · split
            · exact decRes_right _ _
            · intro h; exact absurd h (by decide)
          · exact decRes_right _ _
      · intro h; exact absurd h (by decide)
    · intro h; exact absurd h (by decide)
  unfold reckB
  split
  · exact key _ _ _ _ _ _ _
  · exact key _ _ _ _ _ _ _
theorem reck_l (ks : List Int) (l : List S23) (hl : ∀ v ∈ l, MadeV v) (h3 : l.length = 3) (h5 : ks.length = 5) {k1 n1 : Int} {s1 : Nat} {t1 : ByteArray} (m1 : Made k1 n1 s1 t1) :
    ∀ (d k i : Nat), 10 * d + 120 < k → i + d = 5 → federationlaw1_ValReckons.l0 k l ks (i : Int) k1 n1 (s1 : Int) t1 = some true ∧ ∀ (e j : Nat), j + e = 3 → i < 5 → 10 * d + 112 + e < k → federationlaw1_ValReckons.l1 k l ks (i : Int) (j : Int) k1 n1 (s1 : Int) t1 = some true := by
  intro d
  induction d with
  | zero =>
    intro k i hk hi
    obtain ⟨k, rfl⟩ : ∃ m, k = m + 1 := ⟨k - 1, by omega⟩
    refine ⟨?_, fun e j _ h _ => by omega⟩
    simp only [federationlaw1_ValReckons.l0]
    rw [if_neg (by omega)]
  | succ d ih =>
    intro k i hk hi
    have key : ∀ (e j k : Nat), j + e = 3 → i < 5 → 10 * (d + 1) + 112 + e < k → federationlaw1_ValReckons.l1 k l ks (i : Int) (j : Int) k1 n1 (s1 : Int) t1 = some true := by
      intro e
      induction e with
      | zero =>
        intro j k hj hi5 hk
        obtain ⟨k, rfl⟩ : ∃ m, k = m + 1 := ⟨k - 1, by omega⟩
        simp only [federationlaw1_ValReckons.l1]
        rw [if_neg (by omega), wrap64_of (by omega) (by omega), show (i : Int) + 1 = ((i + 1 : Nat) : Int) by omega]
        exact (ih k (i + 1) (by omega) (by omega)).1
      | succ e ihe =>
        intro j k hj hi5 hk
        obtain ⟨k, rfl⟩ : ∃ m, k = m + 1 := ⟨k - 1, by omega⟩
        have hjl : j < l.length := by omega
        have a1 : (j : Int) < (l.length : Int) := by omega
        have a2 : (i : Int) < (ks.length : Int) := by omega
        have a3 : 0 ≤ (i : Int) := Int.natCast_nonneg _
        have a4 : 0 ≤ (j : Int) := Int.natCast_nonneg _
        have a5 : 100 < k := by omega
        have a6 : 42 < k := by omega
        have w1 : wrap64 ((j : Int) + 1) = ((j + 1 : Nat) : Int) := by rw [wrap64_of (by omega) (by omega)]; omega
        have nx := ihe (j + 1) k (by omega) hi5 (by omega)
        have hv := hl _ (List.getElem_mem hjl)
        have r1 := val_Reckon_eq k (rd ks (i : Int)) k1 n1 s1 t1 l[j].f0 l[j].f1 l[j].f2.toNat l[j].f3 a5 m1.v hv.m.v
        have r2 := ref_Reckon_eq k (rd ks (i : Int)) k1 n1 s1 t1 l[j].f0 l[j].f1 l[j].f2.toNat l[j].f3 a5 m1.v hv.m.v
        have rr := reck_right (rd ks (i : Int)) k1 n1 s1 l[j].f0 l[j].f1 l[j].f2.toNat
        rw [← hv.s] at r1 r2
        simp only [federationlaw1_ValReckons.l1]
        rw [if_pos a1, if_pos a3, if_pos a2, if_pos a4, rd23 l j hjl, r1, Option.bind_some, r2, Option.bind_some]
        generalize reckB (rd ks (i : Int)) k1 n1 s1 l[j].f0 l[j].f1 l[j].f2.toNat = R at rr ⊢
        rw [if_neg (by simp), if_pos rfl, w1]
        by_cases c : R.2.2.2.2 = 0
        · rw [if_pos c, val_Right_eq k R.1 R.2.1 R.2.2.1 R.2.2.2.1 a6, Option.bind_some, if_pos (rr c)]
          exact nx
        · rw [if_neg c]; exact nx
    refine ⟨?_, fun e j hj h5 hk => key e j k hj h5 hk⟩
    obtain ⟨k, rfl⟩ : ∃ m, k = m + 1 := ⟨k - 1, by omega⟩
    simp only [federationlaw1_ValReckons.l0]
    rw [if_pos (by omega)]
    exact key 3 0 k rfl (by omega) (by omega)
theorem ValReckons : federationlaw1_ValReckons.Pure := by
  intro a0 a1 a2 a3 a4 a5 w0 w1 w2 w3 w4 z5
  refine ⟨300, ?_⟩
  unfold federationlaw1_ValReckons.f
  rw [known_ge (by decide), Option.bind_some, if_pos rfl]
  by_cases y5 : (a5.size : Int) > 100
  · rw [if_pos y5]
  rw [if_neg y5]
  have i1 := I64_of w1; have i2 := I64_of w2; have i3 := I64_of w3; have i4 := I64_of w4
  have b3 := emod_bd a3 40 (by decide)
  have ht : -6 < a1.tmod 6 ∧ a1.tmod 6 < 6 := by
    have h1 := Int.tmod_lt_of_pos a1 (show (0 : Int) < 6 by decide)
    have h2 := Int.tmod_lt_of_pos (-a1) (show (0 : Int) < 6 by decide)
    rw [Int.neg_tmod] at h2
    omega
  obtain ⟨n1, s1, t1, hm1, m1⟩ := Make_eq a1 a2 a5 i1 i2 (by omega)
  obtain ⟨n2, s2, t2, hm2, m2⟩ := Make_eq a3 a4 a5 i3 i4 (by omega)
  obtain ⟨n3, s3, t3, hm3, m3⟩ := Make_eq (a1.tmod 6 + 6 * (a3 % 40)) a4 a5 (by unfold I64; omega) i4 (by omega)
  rw [hm1 300 (by decide), Option.bind_some, hm2 300 (by decide), Option.bind_some, within_eq a3 40 i3 (by decide) (by decide), Option.bind_some, wrap64_of (x := 6 * (a3 % 40)) (by omega) (by omega), wrap64_of (x := a1.tmod 6 + 6 * (a3 % 40)) (by omega) (by omega), hm3 300 (by decide), Option.bind_some]
  dsimp only
  refine (reck_l [a0, 4, 6, 7, 8] _ ?_ rfl rfl m1 5 300 0 (by decide) (by decide)).1
  intro v hv
  rcases List.mem_cons.1 hv with rfl | hv
  · exact ⟨by simp, by simpa using m2⟩
  rcases List.mem_cons.1 hv with rfl | hv
  · exact ⟨by simp, by simpa using m3⟩
  · rw [List.mem_singleton.1 hv]
    exact ⟨by simp, by simpa using m1⟩
end Go.Proofs.Ytllkhdhanheieaa.Pure
