-- Written by drive.py and pack.py (programs of this proof's own) through the kit's printer; not trusted: Lean checks it.
import Derived.Test.YtllkhdhanheieaaCValLaws1
import Derived.Test.YtllkhdhanheieaaCValLaws3
import Derived.Test.YtllkhdhanheieaaCValLaws10
import Derived.Test.YtllkhdhanheieaaCValLaws2
import Derived.Test.YtllkhdhanheieaaCValLaws9
import Derived.Test.YtllkhdhanheieaaCValLaws8
import Derived.Test.YtllkhdhanheieaaCValLaws7
import Derived.Test.YtllkhdhanheieaaCValLaws6
import Derived.Test.YtllkhdhanheieaaCValLaws5
import Derived.Test.YtllkhdhanheieaaCValLaws4
import Derived.Lib.Strings
import Derived.Test.YtllkhdhanheieaaCValLaws11
namespace Go.Proofs.Ytllkhdhanheieaa.V
open Go.RowKit Go.Proofs.YtllkhdhanheieaaW.PrintWords Go.Proofs.YtllkhdhanheieaaW.PrintLast Go.Proofs.YtllkhdhanheieaaW.PrintMore
attribute [local go_sem] max2_int min2_int max_two min_two max_three min_three max_four min_four
attribute [local go_sem high] own_gtr own_leq own_geq own_cell_set Option.map_some fld23_1
set_option linter.unusedVariables false
set_option linter.unusedSimpArgs false
theorem wrap64_of {x : Int} (h0 : -9223372036854775808 ≤ x) (h1 : x ≤ 9223372036854775807) : wrap64 x = x := by
  unfold wrap64; omega
def p10 (n : Nat) : Int := (10 : Int) ^ n
theorem p10_pos (n : Nat) : 0 < p10 n := Int.pow_pos (by decide)
theorem p10_zero : p10 0 = 1 := rfl
theorem p10_succ (n : Nat) : p10 (n + 1) = p10 n * 10 := by unfold p10; rw [Int.pow_succ]
theorem p10_mono {m n : Nat} (h : m ≤ n) : p10 m ≤ p10 n := by
  induction h with
  | refl => exact Int.le_refl _
  | step _ ih => rw [p10_succ]; have := p10_pos m; omega
theorem p10_le (n : Nat) (h : n ≤ 18) : p10 n ≤ 1000000000000000000 := by
  have := p10_mono h
  have e : p10 18 = 1000000000000000000 := by decide
  omega
theorem p10_six : p10 6 = 1000000 := by decide
theorem p10_add (m n : Nat) : p10 (m + n) = p10 m * p10 n := by unfold p10; rw [Int.pow_add]
theorem val_ten_l0 : ∀ (d : Nat) (k i : Nat), d < k → i + d ≤ 18 → val_ten.l0 k (p10 i) ((i + d : Nat) : Int) (i : Int) = some (p10 (i + d))
  | 0, k, i, hk, h => by
    obtain ⟨k, rfl⟩ : ∃ m, k = m + 1 := ⟨k - 1, by omega⟩
    simp only [val_ten.l0]; rw [if_neg (by omega)]; rfl
  | d + 1, k, i, hk, h => by
    obtain ⟨k, rfl⟩ : ∃ m, k = m + 1 := ⟨k - 1, by omega⟩
    simp only [val_ten.l0]; rw [if_pos (by omega)]
    have h1 := p10_le (i + 1) (by omega)
    have h2 := p10_pos (i + 1)
    rw [← p10_succ, wrap64_of (by omega) (by omega), wrap64_of (by omega) (by omega)]
    have := val_ten_l0 d k (i + 1) (by omega) (by omega)
    rw [show i + 1 + d = i + (d + 1) by omega] at this
    exact this
theorem val_ten_eq (k n : Nat) (hk : 18 < k) (h : n ≤ 18) : val_ten.f k (n : Int) = some (p10 n) := by
  have := val_ten_l0 n k 0 (by omega) (by omega)
  rw [Nat.zero_add] at this
  exact this
def red : Int → Nat → Int × Nat
  | n, 0 => (n, 0)
  | n, s + 1 => if n % 10 = 0 then red (n / 10) s else (n, s + 1)
theorem red_zero : ∀ s, red 0 s = (0, 0)
  | 0 => rfl
  | s + 1 => by simp only [red]; rw [if_pos (by decide)]; exact red_zero s
theorem red_ten (n : Int) (s : Nat) : red (n * 10) (s + 1) = red n s := by
  simp only [red]; rw [if_pos (by omega), show n * 10 / 10 = n by omega]
theorem red_tens (n : Int) : ∀ (j s : Nat), red (n * p10 j) (s + j) = red n s
  | 0, s => by rw [p10_zero, Int.mul_one]; rfl
  | j + 1, s => by rw [p10_succ, ← Int.mul_assoc, ← Nat.add_assoc, red_ten]; exact red_tens n j s
theorem red_scale : ∀ (s : Nat) (n : Int), (red n s).2 ≤ s
  | 0, _ => Nat.le_refl _
  | s + 1, n => by
    simp only [red]
    split
    · exact Nat.le_succ_of_le (red_scale s _)
    · exact Nat.le_refl _
theorem red_value : ∀ (s : Nat) (n : Int), (red n s).1 * p10 (s - (red n s).2) = n
  | 0, n => by simp [red, p10_zero]
  | s + 1, n => by
    simp only [red]
    split
    · rename_i h
      have ih := red_value s (n / 10)
      have hs := red_scale s (n / 10)
      rw [show s + 1 - (red (n / 10) s).2 = (s - (red (n / 10) s).2) + 1 by omega, p10_succ, ← Int.mul_assoc, ih]
      omega
    · simp [p10_zero]
theorem red_done : ∀ (s : Nat) (n : Int), (red n s).2 = 0 ∨ (red n s).1 % 10 ≠ 0
  | 0, _ => Or.inl rfl
  | s + 1, n => by
    simp only [red]
    split
    · exact red_done s _
    · rename_i h; exact Or.inr h
theorem red_same (n : Int) (s : Nat) (h : s = 0 ∨ n % 10 ≠ 0) : red n s = (n, s) := by
  cases s with
  | zero => rfl
  | succ s =>
    simp only [red]
    rw [if_neg (by omega)]
theorem red_abs : ∀ (s : Nat) (n : Int), (red n s).1.natAbs ≤ n.natAbs
  | 0, _ => Nat.le_refl _
  | s + 1, n => by
    simp only [red]
    split
    · exact Nat.le_trans (red_abs s _) (by omega)
    · exact Nat.le_refl _
theorem tmod10 (n : Int) : (Int.tmod n 10 = 0) ↔ n % 10 = 0 := by
  constructor
  · intro h; have := Int.dvd_of_tmod_eq_zero h; omega
  · intro h; exact Int.tmod_eq_zero_of_dvd (by omega)
theorem tdiv10 (n : Int) (h : n % 10 = 0) : Int.tdiv n 10 = n / 10 := by
  rw [Int.tdiv_eq_ediv]; split <;> omega
theorem val_Norm_l0 (st : ByteArray) : ∀ (s k : Nat) (n : Int), s < k → s ≤ 9223372036854775807 → -9223372036854775808 ≤ n → n ≤ 9223372036854775807 → val_Norm.l0 k 3 n (s : Int) st = some (3, (red n s).1, ((red n s).2 : Int), st)
  | 0, k, n, hk, _, _, _ => by
    obtain ⟨k, rfl⟩ : ∃ m, k = m + 1 := ⟨k - 1, by omega⟩
    simp only [val_Norm.l0]; rw [if_pos trivial, if_neg (by omega)]; rfl
  | s + 1, k, n, hk, hs, h0, h1 => by
    obtain ⟨k, rfl⟩ : ∃ m, k = m + 1 := ⟨k - 1, by omega⟩
    simp only [val_Norm.l0]; rw [if_pos trivial, if_pos (by omega)]
    simp only [red]
    by_cases h : n % 10 = 0
    · rw [if_pos ((tmod10 n).2 h), if_pos h, tdiv10 n h, wrap64_of (by omega) (by omega), wrap64_of (by omega) (by omega), show ((s + 1 : Nat) : Int) - 1 = (s : Int) by omega]
      exact val_Norm_l0 st s k (n / 10) (by omega) (by omega) (by omega) (by omega)
    · rw [if_neg (fun e => h ((tmod10 n).1 e)), if_neg h]
theorem val_Norm_eq (k s : Nat) (n : Int) (st : ByteArray) (hk : s + 2 < k) (hs : s ≤ 9223372036854775807) (h0 : -9223372036854775808 ≤ n) (h1 : n ≤ 9223372036854775807) : val_Norm.f k 3 n (s : Int) st = some (3, (red n s).1, ((red n s).2 : Int), st) := by
  obtain ⟨k, rfl⟩ : ∃ m, k = m + 2 := ⟨k - 2, by omega⟩
  unfold val_Norm.f
  rw [if_pos rfl]
  simp only [val_Norm.j0, val_Norm.j1]
  by_cases h : n = 0
  · subst h
    rw [red_zero]
    simp only [beq_self_eq_true, if_true]
    rw [show mn (s : Int) 0 = ((0 : Nat) : Int) by unfold mn; split <;> omega]
    have := val_Norm_l0 st 0 k 0 (by omega) (by omega) (by omega) (by omega)
    exact this
  · rw [if_neg (by simpa using h)]
    exact val_Norm_l0 st s k n (by omega) hs h0 h1
theorem ref_Norm_l0 (st : ByteArray) : ∀ (s k : Nat) (n : Int), s < k → s ≤ 9223372036854775807 → -9223372036854775808 ≤ n → n ≤ 9223372036854775807 → federationref1_Norm.l0 k 3 n (s : Int) st = some (3, (red n s).1, ((red n s).2 : Int), st)
  | 0, k, n, hk, _, _, _ => by
    obtain ⟨k, rfl⟩ : ∃ m, k = m + 1 := ⟨k - 1, by omega⟩
    simp only [federationref1_Norm.l0]; rw [if_pos trivial, if_neg (by omega)]; rfl
  | s + 1, k, n, hk, hs, h0, h1 => by
    obtain ⟨k, rfl⟩ : ∃ m, k = m + 1 := ⟨k - 1, by omega⟩
    simp only [federationref1_Norm.l0]; rw [if_pos trivial, if_pos (by omega)]
    simp only [red]
    by_cases h : n % 10 = 0
    · rw [if_pos ((tmod10 n).2 h), if_pos h, tdiv10 n h, wrap64_of (by omega) (by omega), wrap64_of (by omega) (by omega), show ((s + 1 : Nat) : Int) - 1 = (s : Int) by omega]
      exact ref_Norm_l0 st s k (n / 10) (by omega) (by omega) (by omega) (by omega)
    · rw [if_neg (fun e => h ((tmod10 n).1 e)), if_neg h]
theorem ref_Norm_eq (k s : Nat) (n : Int) (st : ByteArray) (hk : s + 2 < k) (hs : s ≤ 9223372036854775807) (h0 : -9223372036854775808 ≤ n) (h1 : n ≤ 9223372036854775807) : federationref1_Norm.f k 3 n (s : Int) st = some (3, (red n s).1, ((red n s).2 : Int), st) := by
  obtain ⟨k, rfl⟩ : ∃ m, k = m + 2 := ⟨k - 2, by omega⟩
  unfold federationref1_Norm.f
  rw [if_pos rfl]
  simp only [federationref1_Norm.j0, federationref1_Norm.j1]
  by_cases h : n = 0
  · subst h
    rw [red_zero]
    by_cases hs0 : (s : Int) > 0
    · rw [if_pos hs0]
      simp only [beq_self_eq_true, if_true]
      exact ref_Norm_l0 st 0 k 0 (by omega) (by omega) (by omega) (by omega)
    · rw [if_neg hs0, show (s : Int) = ((0 : Nat) : Int) by omega]
      simp only [Bool.false_eq_true, if_false]
      exact ref_Norm_l0 st 0 k 0 (by omega) (by omega) (by omega) (by omega)
  · have hl := ref_Norm_l0 st s k n (by omega) hs h0 h1
    by_cases hs0 : (s : Int) > 0
    · rw [if_pos hs0, if_neg (by simpa using h)]; exact hl
    · rw [if_neg hs0]; simp only [Bool.false_eq_true, if_false]; exact hl
end Go.Proofs.Ytllkhdhanheieaa.V
namespace Go.Proofs.Ytllkhdhanheieaa.V
open Go.RowKit Go.Proofs.YtllkhdhanheieaaW.PrintWords Go.Proofs.YtllkhdhanheieaaW.PrintLast Go.Proofs.YtllkhdhanheieaaW.PrintMore
attribute [local go_sem] max2_int min2_int max_two min_two max_three min_three max_four min_four
attribute [local go_sem high] own_gtr own_leq own_geq own_cell_set Option.map_some fld23_1
set_option linter.unusedVariables false
set_option linter.unusedSimpArgs false
def okB (st : ByteArray) : Bool := st.data.toList.all fun b => decide (32 ≤ b.toNat ∧ b.toNat ≤ 126)
theorem bt_data (st : ByteArray) (i : Nat) (h : i < st.data.size) : bt st (i : Int) = ((st.data[i]).toNat : Int) := by
  rw [← bt_at st (i : Int) (by simpa using h)]
  rfl
theorem all_drop (st : ByteArray) (i : Nat) (h : i < st.data.size) : (st.data.toList.drop i).all (fun b => decide (32 ≤ b.toNat ∧ b.toNat ≤ 126)) = (decide (32 ≤ (st.data[i]).toNat ∧ (st.data[i]).toNat ≤ 126) && (st.data.toList.drop (i + 1)).all fun b => decide (32 ≤ b.toNat ∧ b.toNat ≤ 126)) := by
  rw [List.drop_eq_getElem_cons (by simpa using h), List.all_cons]
  simp
theorem val_printable_l0 (st : ByteArray) (hs : st.data.size ≤ 140737488351232) : ∀ (d k i : Nat), d < k → i + d = st.data.size → val_printable.l0 k st (i : Int) = some ((st.data.toList.drop i).all fun b => decide (32 ≤ b.toNat ∧ b.toNat ≤ 126))
  | 0, k, i, hk, h => by
    obtain ⟨k, rfl⟩ : ∃ m, k = m + 1 := ⟨k - 1, by omega⟩
    simp only [val_printable.l0]; rw [if_neg (by have hz : st.size = st.data.size := rfl; omega), List.drop_of_length_le (by have hz : st.data.toList.length = st.data.size := rfl; omega)]; rfl
  | d + 1, k, i, hk, h => by
    obtain ⟨k, rfl⟩ : ∃ m, k = m + 1 := ⟨k - 1, by omega⟩
    simp only [val_printable.l0]
    rw [if_pos (by have hz : st.size = st.data.size := rfl; omega), if_pos (by omega), bt_data st i (by omega), all_drop st i (by omega)]
    by_cases h1 : ((st.data[i]'(by omega)).toNat : Int) < 32
    · rw [if_pos h1, decide_eq_false (by omega)]; rfl
    · rw [if_neg h1]
      by_cases h2 : ((st.data[i]'(by omega)).toNat : Int) > 126
      · rw [if_pos h2, decide_eq_false (by omega)]; rfl
      · rw [if_neg h2, decide_eq_true (by omega), wrap64_of (by omega) (by omega), Bool.true_and]
        exact val_printable_l0 st hs d k (i + 1) (by omega) (by omega)
theorem val_printable_eq (st : ByteArray) (k : Nat) (hs : st.data.size ≤ 140737488351232) (hk : st.data.size < k) : val_printable.f k st = some (okB st) := val_printable_l0 st hs st.data.size k 0 hk (by omega)
def noS (st : ByteArray) : Bool := st.toList == ([] : List UInt8)
def rightB (kd n sc : Int) (st : ByteArray) : Bool :=
  if kd = 0 then n == 0 && (sc == 0 && noS st)
  else if kd = 1 then decide (0 ≤ n ∧ n ≤ 1) && (sc == 0 && noS st)
  else if kd = 2 then sc == 0 && noS st
  else if kd = 3 then decide (-1000000000000000 < n ∧ n < 1000000000000000 ∧ 0 ≤ sc ∧ sc ≤ 6 ∧ (sc = 0 ∨ n % 10 ≠ 0)) && noS st
  else if kd = 4 then decide (n = 0 ∧ sc = 0 ∧ st.data.size ≤ 40) && okB st
  else if kd = 5 then decide (n = 0 ∧ sc = 0 ∧ st.data.size ≤ 40)
  else false
theorem val_Right_eq (k : Nat) (kd n sc : Int) (st : ByteArray) (hk : 42 < k) : val_Right.f k kd n sc st = some (rightB kd n sc st) := by
  obtain ⟨k, rfl⟩ : ∃ m, k = m + 1 := ⟨k - 1, by omega⟩
  have hz : (st.size : Int) = (st.data.size : Int) := rfl
  unfold val_Right.f rightB
  by_cases h0 : kd = 0
  · rw [if_pos h0, if_pos h0]; rfl
  rw [if_neg h0, if_neg h0]
  by_cases h1 : kd = 1
  · rw [if_pos h1, if_pos h1]
    congr 2
    rw [Bool.eq_iff_iff]; simp only [beq_iff_eq, decide_eq_true_eq]; unfold mn mx
    constructor
    · intro h; split at h <;> (try split at h) <;> omega
    · intro h; split <;> (try split) <;> omega
  rw [if_neg h1, if_neg h1]
  by_cases h2 : kd = 2
  · rw [if_pos h2, if_pos h2]; rfl
  rw [if_neg h2, if_neg h2]
  by_cases h3 : kd = 3
  · rw [if_pos h3, if_pos h3]
    have ht := tmod10 n
    by_cases a1 : n ≤ -1000000000000000
    · rw [if_pos a1, decide_eq_false (by omega)]; rfl
    rw [if_neg a1]
    by_cases a2 : n ≥ 1000000000000000
    · rw [if_pos a2, decide_eq_false (by omega)]; rfl
    rw [if_neg a2]
    have hm : (sc == mn (mx sc 0) 6) = decide (0 ≤ sc ∧ sc ≤ 6) := by
      rw [Bool.eq_iff_iff]; simp only [beq_iff_eq, decide_eq_true_eq]; unfold mn mx
      constructor
      · intro h; split at h <;> (try split at h) <;> omega
      · intro h; split <;> (try split) <;> omega
    by_cases a3 : sc > 0
    · rw [if_pos a3]
      by_cases a4 : Int.tmod n 10 = 0
      · rw [if_pos a4, decide_eq_false (by have := ht.1 a4; omega)]; rfl
      · rw [if_neg a4, hm]
        have : n % 10 ≠ 0 := fun e => a4 (ht.2 e)
        by_cases a5 : sc ≤ 6
        · rw [decide_eq_true (by omega), decide_eq_true (by omega)]; rfl
        · rw [decide_eq_false (by omega), decide_eq_false (by omega)]; rfl
    · rw [if_neg a3, hm]
      by_cases a5 : 0 ≤ sc
      · rw [decide_eq_true (by omega), decide_eq_true (by omega)]; rfl
      · rw [decide_eq_false (by omega), decide_eq_false (by omega)]; rfl
  rw [if_neg h3, if_neg h3]
  by_cases h4 : kd = 4
  · rw [if_pos h4, if_pos h4]
    subst h4
    simp only [val_Right.j0, beq_self_eq_true, if_true, Bool.true_and]
    by_cases a1 : (st.size : Int) > 40
    · rw [if_pos a1, decide_eq_false (by omega)]; rfl
    · rw [if_neg a1, val_printable_eq st k (by omega) (by omega)]
      simp only [Option.bind_some]
      cases hb : okB st with
      | false => simp
      | true =>
        simp only [if_true, Bool.and_true]
        congr 1
        rw [Bool.eq_iff_iff]; simp only [Bool.and_eq_true, beq_iff_eq, decide_eq_true_eq]; omega
  rw [if_neg h4, if_neg h4]
  by_cases h5 : kd = 5
  · rw [if_pos h5]
    subst h5
    simp only [val_Right.j0, beq_self_eq_true, if_true, Bool.true_and]
    by_cases a1 : (st.size : Int) > 40
    · rw [if_pos a1, decide_eq_false (by omega)]
    · rw [if_neg a1, if_neg (by decide)]
      congr 1
      rw [Bool.eq_iff_iff]; simp only [Bool.and_eq_true, beq_iff_eq, decide_eq_true_eq]; omega
  · rw [if_neg h5]
    simp only [val_Right.j0, show (kd == 5) = false from by simpa using h5]
    simp
end Go.Proofs.Ytllkhdhanheieaa.V
namespace Go.Proofs.Ytllkhdhanheieaa.V
open Go.RowKit Go.Proofs.YtllkhdhanheieaaW.PrintWords Go.Proofs.YtllkhdhanheieaaW.PrintLast Go.Proofs.YtllkhdhanheieaaW.PrintMore
attribute [local go_sem] max2_int min2_int max_two min_two max_three min_three max_four min_four
attribute [local go_sem high] own_gtr own_leq own_geq own_cell_set Option.map_some fld23_1
set_option linter.unusedVariables false
set_option linter.unusedSimpArgs false
def inI (x : Int) : Bool := decide (-9223372036854775808 ≤ x ∧ x ≤ 9223372036854775807)
def I64 (x : Int) : Prop := -9223372036854775808 ≤ x ∧ x ≤ 9223372036854775807
def exactly (op a b : Int) : Int := if op = 6 then a * b else if op = 7 then a + b else a - b
theorem val_plus_eq (a b : Int) (ha : I64 a) (hb : I64 b) : val_plus.f a b = some (wrap64 (a + b), inI (a + b)) := by
  unfold val_plus.f inI I64 at *
  by_cases h : ((decide (a < 0)) != (decide (b < 0))) = true
  · rw [if_pos h]
    simp only [bne_iff_ne, ne_eq, decide_eq_decide] at h
    rw [decide_eq_true (by omega)]
  · rw [if_neg h]
    simp only [bne_iff_ne, ne_eq, decide_eq_decide] at h
    congr 2
    rw [Bool.eq_iff_iff]; simp only [beq_iff_eq, decide_eq_true_eq, decide_eq_decide]
    unfold wrap64; omega
theorem val_minus_eq (a b : Int) (ha : I64 a) (hb : I64 b) : val_minus.f a b = some (wrap64 (a - b), inI (a - b)) := by
  unfold val_minus.f inI I64 at *
  by_cases h : ((decide (a < 0)) == (decide (b < 0))) = true
  · rw [if_pos h]
    simp only [beq_iff_eq, decide_eq_decide] at h
    rw [decide_eq_true (by omega)]
  · rw [if_neg h]
    simp only [beq_iff_eq, decide_eq_decide] at h
    congr 2
    rw [Bool.eq_iff_iff]; simp only [beq_iff_eq, decide_eq_true_eq, decide_eq_decide]
    unfold wrap64; omega
theorem wrap64_inI (x : Int) (h : inI x = true) : wrap64 x = x := by
  unfold inI at h; simp only [decide_eq_true_eq] at h; exact wrap64_of h.1 h.2
theorem mul_back (a b : Int) (ha : I64 a) (hb : I64 b) (h0 : b ≠ 0) (hm : b ≠ -1) : (wrap64 (Int.tdiv (wrap64 (a * b)) b) = a) ↔ inI (a * b) = true := by
  unfold I64 at ha hb
  by_cases h1 : b = 1
  · subst h1
    rw [Int.mul_one, wrap64_of ha.1 ha.2, Int.tdiv_one, wrap64_of ha.1 ha.2]
    unfold inI
    simp only [decide_eq_true_eq]
    exact ⟨fun _ => ha, fun _ => trivial⟩
  have hcr : -9223372036854775808 ≤ wrap64 (a * b) ∧ wrap64 (a * b) ≤ 9223372036854775807 := by unfold wrap64; omega
  have hq : ∃ q : Int, wrap64 (a * b) = a * b - 18446744073709551616 * q := ⟨(a * b + 9223372036854775808) / 18446744073709551616, by unfold wrap64; omega⟩
  have hw : inI (a * b) = true → wrap64 (a * b) = a * b := wrap64_inI _
  have hd := Int.mul_tdiv_add_tmod (wrap64 (a * b)) b
  have hr1 : ((wrap64 (a * b)).tmod b).natAbs < b.natAbs := by rw [Int.natAbs_tmod]; exact Nat.mod_lt _ (by omega)
  have hn : ((wrap64 (a * b)).tdiv b).natAbs ≤ 4611686018427387904 := by
    rw [Int.natAbs_tdiv]
    have h1 : (wrap64 (a * b)).natAbs ≤ 9223372036854775808 := by omega
    exact Nat.le_trans (Nat.div_le_div_left (show 2 ≤ b.natAbs by omega) (by decide)) (by have := Nat.div_le_div_right (c := 2) h1; simpa using this)
  rw [wrap64_of (x := (wrap64 (a * b)).tdiv b) (by omega) (by omega)]
  constructor
  · intro h
    rw [h, Int.mul_comm b a] at hd
    obtain ⟨q, hq⟩ := hq
    unfold inI
    simp only [decide_eq_true_eq]
    generalize a * b = p at *
    generalize wrap64 p = c at *
    generalize c.tmod b = r at *
    omega
  · intro h
    rw [hw h]
    exact Int.mul_tdiv_cancel _ h0
theorem val_times_eq (a b : Int) (ha : I64 a) (hb : I64 b) (hm : b ≠ -1) : val_times.f a b = some (wrap64 (a * b), inI (a * b)) := by
  unfold val_times.f
  by_cases a0 : a = 0
  · rw [if_pos a0]; subst a0; rw [Int.zero_mul]; decide +kernel
  rw [if_neg a0]
  by_cases b0 : b = 0
  · rw [if_pos b0]; subst b0; rw [Int.mul_zero]; decide +kernel
  rw [if_neg b0]
  congr 2
  rw [Bool.eq_iff_iff, ← mul_back a b ha hb b0 hm, beq_iff_eq]
theorem val_two_eq (op a b : Int) (ha : I64 a) (hb : I64 b) : val_two.f op a b = some (wrap64 (exactly op a b), inI (exactly op a b)) := by
  unfold val_two.f exactly
  have h0 : I64 0 := by unfold I64; omega
  by_cases h6 : op = 6
  · rw [if_pos h6, if_pos h6]
    by_cases a1 : a = -1
    · rw [if_pos a1, val_minus_eq 0 b h0 hb]; subst a1
      rw [show (-1 : Int) * b = 0 - b by omega]; rfl
    · rw [if_neg a1]
      by_cases b1 : b = -1
      · rw [if_pos b1, val_minus_eq 0 a h0 ha]; subst b1
        rw [show a * (-1 : Int) = 0 - a by omega]; rfl
      · rw [if_neg b1, val_times_eq a b ha hb b1]; rfl
  · rw [if_neg h6, if_neg h6]
    by_cases h7 : op = 7
    · rw [if_pos h7, if_pos h7, val_plus_eq a b ha hb]; rfl
    · rw [if_neg h7, if_neg h7, val_minus_eq a b ha hb]; rfl
def intRes (op a b : Int) : Int × Int × Int × ByteArray × Int := if inI (exactly op a b) = true then (2, exactly op a b, 0, (⟨#[]⟩ : ByteArray), 0) else (0, 0, 0, (⟨#[]⟩ : ByteArray), 10)
def decRes (n : Int) (s : Nat) : Int × Int × Int × ByteArray × Int :=
  if -1000000000000000 < (red n s).1 ∧ (red n s).1 < 1000000000000000 ∧ (red n s).2 ≤ 6 then (3, (red n s).1, ((red n s).2 : Int), (⟨#[]⟩ : ByteArray), 0) else (0, 0, 0, (⟨#[]⟩ : ByteArray), 10)
theorem right_red (n : Int) (s : Nat) : rightB 3 (red n s).1 ((red n s).2 : Int) (⟨#[]⟩ : ByteArray) = decide (-1000000000000000 < (red n s).1 ∧ (red n s).1 < 1000000000000000 ∧ (red n s).2 ≤ 6) := by
  unfold rightB
  rw [if_neg (by decide), if_neg (by decide), if_neg (by decide), if_pos rfl]
  have hn : noS (⟨#[]⟩ : ByteArray) = true := by decide +kernel
  rw [hn, Bool.and_true, decide_eq_decide]
  have h := red_done s n
  generalize (red n s).1 = a at *
  generalize (red n s).2 = b at *
  omega
theorem decRes_tens (n : Int) (j s : Nat) : decRes (n * p10 j) (s + j) = decRes n s := by unfold decRes; rw [red_tens]
theorem val_end (k : Nat) (n : Int) (s : Nat) (b : Bool) (hk : s + 45 < k) (hs : s ≤ 1000) (h0 : I64 n) :
    ((val_Norm.f k 3 n (s : Int) (⟨#[]⟩ : ByteArray)).bind fun bt106 => (if b = true then ((val_Right.f k bt106.1 bt106.2.1 bt106.2.2.1 bt106.2.2.2).bind fun t111 => (some (bt106.1, bt106.2.1, bt106.2.2.1, bt106.2.2.2, t111))) else (some (bt106.1, bt106.2.1, bt106.2.2.1, bt106.2.2.2, false)))) = some (3, (red n s).1, ((red n s).2 : Int), (⟨#[]⟩ : ByteArray), b && decide (-1000000000000000 < (red n s).1 ∧ (red n s).1 < 1000000000000000 ∧ (red n s).2 ≤ 6)) := by
  rw [val_Norm_eq k s n _ (by omega) (by omega) h0.1 h0.2]
  simp only [Option.bind_some]
  cases b with
  | false => simp
  | true =>
    simp only [if_true]
    rw [val_Right_eq k _ _ _ _ (by omega), right_red]
    rfl
end Go.Proofs.Ytllkhdhanheieaa.V
namespace Go.Proofs.Ytllkhdhanheieaa.V
open Go.RowKit Go.Proofs.YtllkhdhanheieaaW.PrintWords Go.Proofs.YtllkhdhanheieaaW.PrintLast Go.Proofs.YtllkhdhanheieaaW.PrintMore
attribute [local go_sem] max2_int min2_int max_two min_two max_three min_three max_four min_four
attribute [local go_sem high] own_gtr own_leq own_geq own_cell_set Option.map_some fld23_1
set_option linter.unusedVariables false
set_option linter.unusedSimpArgs false
def overR : Int × Int × Int × ByteArray × Int := (0, 0, 0, (⟨#[]⟩ : ByteArray), 10)
def typeR : Int × Int × Int × ByteArray × Int := (0, 0, 0, (⟨#[]⟩ : ByteArray), 5)
def nullR : Int × Int × Int × ByteArray × Int := (0, 0, 0, (⟨#[]⟩ : ByteArray), 0)
def sgn (op : Int) : Int := if op = 7 then 1 else -1
def decsRes (op n1 : Int) (s1 : Nat) (n2 : Int) (s2 : Nat) : Int × Int × Int × ByteArray × Int :=
  if op = 6 then (if inI (n1 * n2) = true then decRes (n1 * n2) (s1 + s2) else overR) else decRes (n1 * p10 (6 - s1) + sgn op * (n2 * p10 (6 - s2))) 6
structure RD (n : Int) (s : Nat) : Prop where
  lo : -1000000000000000 < n
  hi : n < 1000000000000000
  sc : s ≤ 6
  nm : s = 0 ∨ n % 10 ≠ 0
theorem decRes_big (n : Int) (s : Nat) (h : s = 0 ∨ n % 10 ≠ 0) (hb : 1000000000000000 ≤ n ∨ n ≤ -1000000000000000) : decRes n s = overR := by
  unfold decRes; rw [red_same n s h, if_neg (by omega)]; rfl
theorem mul_p10_mod (n : Int) (j : Nat) (h : 0 < j) : n * p10 j % 10 = 0 := by
  obtain ⟨i, rfl⟩ : ∃ i, j = i + 1 := ⟨j - 1, by omega⟩
  rw [p10_succ, ← Int.mul_assoc]; omega
theorem exactly_sgn (op a b : Int) (h : op ≠ 6) : exactly op a b = a + sgn op * b := by
  unfold exactly sgn
  rw [if_neg h]
  by_cases h7 : op = 7
  · rw [if_pos h7, if_pos h7, Int.one_mul]
  · rw [if_neg h7, if_neg h7]; omega
theorem mxabs (n : Int) (h0 : -9223372036854775808 < n) (h1 : n ≤ 9223372036854775807) : mx n (wrap64 (-n)) = (n.natAbs : Int) := by
  rw [wrap64_of (by omega) (by omega)]; unfold mx; split <;> omega
theorem far_div (p : Int) (hp : 0 < p) (hp2 : p ≤ 1000000) : wrap64 (Int.tdiv 4611686018427387904 p) = 4611686018427387904 / p := by
  have h1 : 0 ≤ (4611686018427387904 : Int) / p := Int.ediv_nonneg (by decide) (by omega)
  have h2 : (4611686018427387904 : Int) / p ≤ 4611686018427387904 := Int.ediv_le_self _ (by decide)
  rw [Int.tdiv_eq_ediv_of_nonneg (by decide), wrap64_of (by omega) (by omega)]
theorem far_le (p x : Int) (hp : 0 < p) (hx : 0 ≤ x) : x > 4611686018427387904 / p ↔ x * p > 4611686018427387904 - (4611686018427387904 % p) := by
  have h1 := Int.mul_ediv_add_emod 4611686018427387904 p
  generalize 4611686018427387904 / p = q at *
  generalize 4611686018427387904 % p = r at *
  constructor
  · intro h
    have := Int.mul_lt_mul_of_pos_right h hp
    rw [Int.mul_comm q p] at this
    omega
  · intro h
    have h2 : q * p < x * p := by rw [Int.mul_comm q p]; omega
    exact Int.lt_of_mul_lt_mul_right h2 (by omega)
theorem val_decs_eq (k : Nat) (op n1 : Int) (s1 : Nat) (t1 : ByteArray) (n2 : Int) (s2 : Nat) (t2 : ByteArray) (k1 k2 : Int) (hk : 70 < k) (h1 : RD n1 s1) (h2 : RD n2 s2) :
    ∃ v1 v2 v3 v4, ∃ b : Bool, val_decs.f k op k1 n1 (s1 : Int) t1 k2 n2 (s2 : Int) t2 = some (v1, v2, v3, v4, b) ∧ (if b = true then (v1, v2, v3, v4, (0 : Int)) else overR) = decsRes op n1 s1 n2 s2 := by
  have b1 := h1.lo; have b2 := h1.hi; have b3 := h1.sc
  have c1 := h2.lo; have c2 := h2.hi; have c3 := h2.sc
  have fin : ∀ (n : Int) (s : Nat), (if (decide (-1000000000000000 < (red n s).1 ∧ (red n s).1 < 1000000000000000 ∧ (red n s).2 ≤ 6)) = true then ((3 : Int), (red n s).1, ((red n s).2 : Int), (⟨#[]⟩ : ByteArray), (0 : Int)) else overR) = decRes n s := by
    intro n s; unfold decRes overR; simp only [decide_eq_true_eq]
  unfold val_decs.f decsRes
  by_cases h6 : op = 6
  · rw [if_pos h6, if_pos h6, val_two_eq op n1 n2 ⟨by omega, by omega⟩ ⟨by omega, by omega⟩]
    have he : exactly op n1 n2 = n1 * n2 := by unfold exactly; rw [if_pos h6]
    simp only [Option.bind_some, he]
    rw [wrap64_of (x := (s1 : Int) + (s2 : Int)) (by omega) (by omega), show (s1 : Int) + (s2 : Int) = ((s1 + s2 : Nat) : Int) by omega]
    have hw : I64 (wrap64 (n1 * n2)) := by unfold I64 wrap64; omega
    refine ⟨_, _, _, _, _, val_end k (wrap64 (n1 * n2)) (s1 + s2) (inI (n1 * n2)) (by omega) (by omega) hw, ?_⟩
    cases hi : inI (n1 * n2) with
    | false => simp
    | true =>
      rw [wrap64_inI _ hi, Bool.true_and, if_pos rfl]
      exact fin _ _
  · rw [if_neg h6, if_neg h6]
    unfold val_same.f
    obtain ⟨m, hm, hm1, hm2⟩ : ∃ m : Nat, m ≤ 6 ∧ s1 ≤ m ∧ s2 ≤ m ∧ mx (s1 : Int) (s2 : Int) = (m : Int) ∧ (m = s1 ∨ m = s2) := by
      refine ⟨max s1 s2, by omega, by omega, by omega, ?_, by omega⟩
      unfold mx; split <;> omega
    obtain ⟨hm2, hmx, hmo⟩ := hm2
    rw [hmx, show (m : Int) - (s1 : Int) = ((m - s1 : Nat) : Int) by omega, show (m : Int) - (s2 : Int) = ((m - s2 : Nat) : Int) by omega]
    rw [wrap64_of (x := ((m - s1 : Nat) : Int)) (by omega) (by omega), wrap64_of (x := ((m - s2 : Nat) : Int)) (by omega) (by omega)]
    rw [val_ten_eq k _ (by omega) (by omega), val_ten_eq k _ (by omega) (by omega)]
    simp only [Option.bind_some]
    have hp := p10_pos (m - s1)
    have hq := p10_pos (m - s2)
    have hp2 : p10 (m - s1) ≤ 1000000 := by have := p10_mono (show m - s1 ≤ 6 by omega); rw [p10_six] at this; exact this
    have hq2 : p10 (m - s2) ≤ 1000000 := by have := p10_mono (show m - s2 ≤ 6 by omega); rw [p10_six] at this; exact this
    rw [mxabs n1 (by omega) (by omega), mxabs n2 (by omega) (by omega), far_div _ hp hp2, far_div _ hq hq2]
    rw [if_neg (show ¬ p10 (m - s1) = 0 by omega)]
    have hspec : decRes (n1 * p10 (6 - s1) + sgn op * (n2 * p10 (6 - s2))) 6 = decRes (n1 * p10 (m - s1) + sgn op * (n2 * p10 (m - s2))) m := by
      have e1 : p10 (6 - s1) = p10 (m - s1) * p10 (6 - m) := by rw [← p10_add]; congr 1; omega
      have e2 : p10 (6 - s2) = p10 (m - s2) * p10 (6 - m) := by rw [← p10_add]; congr 1; omega
      have e3 : n1 * p10 (6 - s1) + sgn op * (n2 * p10 (6 - s2)) = (n1 * p10 (m - s1) + sgn op * (n2 * p10 (m - s2))) * p10 (6 - m) := by
        rw [e1, e2, Int.add_mul, Int.mul_assoc, Int.mul_assoc, Int.mul_assoc]
      have e4 := decRes_tens (n1 * p10 (m - s1) + sgn op * (n2 * p10 (m - s2))) (6 - m) m
      rw [show m + (6 - m) = 6 by omega] at e4
      rw [e3, e4]
    rw [hspec]
    have hs : sgn op = 1 ∨ sgn op = -1 := by unfold sgn; split <;> omega
    have a1 : m = s1 → n1 * p10 (m - s1) = n1 := fun e => by rw [e, Nat.sub_self, p10_zero, Int.mul_one]
    have a2 : m = s2 → n2 * p10 (m - s2) = n2 := fun e => by rw [e, Nat.sub_self, p10_zero, Int.mul_one]
    have z1 : m ≠ s1 → n1 * p10 (m - s1) % 10 = 0 := fun e => mul_p10_mod n1 _ (by omega)
    have z2 : m ≠ s2 → n2 * p10 (m - s2) % 10 = 0 := fun e => mul_p10_mod n2 _ (by omega)
    have nm1 := h1.nm
    have nm2 := h2.nm
    have hab1 : (n1.natAbs : Int) * p10 (m - s1) = ((n1 * p10 (m - s1)).natAbs : Int) := by rw [Int.natAbs_mul, Int.natCast_mul, Int.natAbs_of_nonneg (Int.le_of_lt hp)]
    have hab2 : (n2.natAbs : Int) * p10 (m - s2) = ((n2 * p10 (m - s2)).natAbs : Int) := by rw [Int.natAbs_mul, Int.natCast_mul, Int.natAbs_of_nonneg (Int.le_of_lt hq)]
    have f1 := far_le (p10 (m - s1)) n1.natAbs hp (by omega)
    have f2 := far_le (p10 (m - s2)) n2.natAbs hq (by omega)
    rw [hab1] at f1
    rw [hab2] at f2
    have r1 := Int.emod_lt_of_pos 4611686018427387904 hp
    have r2 := Int.emod_lt_of_pos 4611686018427387904 hq
    have r3 := Int.emod_nonneg 4611686018427387904 (show p10 (m - s1) ≠ 0 by omega)
    have r4 := Int.emod_nonneg 4611686018427387904 (show p10 (m - s2) ≠ 0 by omega)
    generalize n1 * p10 (m - s1) = x at *
    generalize n2 * p10 (m - s2) = y at *
    by_cases g1 : (n1.natAbs : Int) > 4611686018427387904 / p10 (m - s1)
    · rw [if_pos g1]
      refine ⟨0, 0, 0, _, false, by simp only [Option.bind_some]; rfl, ?_⟩
      have g2 := f1.1 g1
      rw [if_neg (by decide)]
      symm
      by_cases e1 : m = s1
      · have := a1 e1; omega
      · have e2 : m = s2 := by omega
        have := a2 e2
        have := z1 e1
        rcases hs with hs | hs <;> rw [hs] <;> (apply decRes_big <;> omega)
    rw [if_neg g1, if_neg (show ¬ p10 (m - s2) = 0 by omega)]
    have g2 : ¬ _ := fun h => g1 (f1.2 h)
    by_cases g3 : (n2.natAbs : Int) > 4611686018427387904 / p10 (m - s2)
    · rw [if_pos g3]
      refine ⟨0, 0, 0, _, false, by simp only [Option.bind_some]; rfl, ?_⟩
      have g4 := f2.1 g3
      rw [if_neg (by decide)]
      symm
      by_cases e1 : m = s2
      · have := a2 e1; omega
      · have e2 : m = s1 := by omega
        have := a1 e2
        have := z2 e1
        rcases hs with hs | hs <;> rw [hs] <;> (apply decRes_big <;> omega)
    rw [if_neg g3]
    have g4 : ¬ _ := fun h => g3 (f2.2 h)
    simp only [Option.bind_some, if_true]
    rw [wrap64_of (x := x) (by omega) (by omega), wrap64_of (x := y) (by omega) (by omega)]
    rw [val_two_eq op x y ⟨by omega, by omega⟩ ⟨by omega, by omega⟩, exactly_sgn op x y h6]
    simp only [Option.bind_some]
    have hin : I64 (x + sgn op * y) := by
      unfold I64
      rcases hmo with e | e
      · have := a1 e
        rcases hs with hs | hs <;> rw [hs] <;> omega
      · have := a2 e
        rcases hs with hs | hs <;> rw [hs] <;> omega
    have hi : inI (x + sgn op * y) = true := by unfold inI; rw [decide_eq_true_eq]; exact hin
    rw [hi, wrap64_inI _ hi]
    refine ⟨_, _, _, _, _, val_end k (x + sgn op * y) m true (by omega) (by omega) hin, ?_⟩
    rw [Bool.true_and]
    exact fin _ _
def num (kd : Int) : Bool := kd == 0 || kd == 2 || kd == 3
def reckRes (op k1 n1 : Int) (s1 : Nat) (k2 n2 : Int) (s2 : Nat) : Int × Int × Int × ByteArray × Int :=
  if (op = 6 ∨ op = 7 ∨ op = 8) ∧ num k1 = true ∧ num k2 = true then
    (if k1 = 0 ∨ k2 = 0 then nullR else if k1 = k2 then (if k1 = 2 then intRes op n1 n2 else decsRes op n1 s1 n2 s2) else typeR)
  else typeR
structure RV (kd n : Int) (s : Nat) : Prop where
  i : I64 n
  d : kd = 3 → RD n s
theorem val_Reckon_j0 (k : Nat) (op k1 n1 : Int) (s1 : Nat) (t1 : ByteArray) (k2 n2 : Int) (s2 : Nat) (t2 : ByteArray) (hk : 100 < k) (h1 : RV k1 n1 s1) (h2 : RV k2 n2 s2) :
    val_Reckon.j0 k op k1 n1 (s1 : Int) t1 k2 n2 (s2 : Int) t2 = some (reckRes op k1 n1 s1 k2 n2 s2) := by
  obtain ⟨k, rfl⟩ : ∃ m, k = m + 3 := ⟨k - 3, by omega⟩
  have hn : ∀ kd n s t, val_reckons.f kd n s t = some (num kd) := fun kd n s t => by
    unfold val_reckons.f num
    by_cases a : kd = 0
    · rw [if_pos a]; simp [a]
    · rw [if_neg a]
      by_cases b : kd = 2
      · rw [if_pos b]; simp [b]
      · rw [if_neg b]; simp [a, b]
  have tail : ∀ b : Bool, val_Reckon.j1 (k + 2) op b k1 n1 (s1 : Int) t1 k2 n2 (s2 : Int) t2 = some (if b = true then typeR else if k1 = 0 ∨ k2 = 0 then nullR else if k1 = k2 then (if k1 = 2 then intRes op n1 n2 else decsRes op n1 s1 n2 s2) else typeR) ∨ num k1 = false ∨ num k2 = false := by
    intro b
    cases hn1 : num k1 with
    | false => exact Or.inr (Or.inl rfl)
    | true =>
    cases hn2 : num k2 with
    | false => exact Or.inr (Or.inr rfl)
    | true =>
    left
    simp only [val_Reckon.j1]
    cases b with
    | true => rfl
    | false =>
    simp only [Bool.false_eq_true, if_false]
    by_cases z1 : k1 = 0
    · rw [if_pos z1, if_pos (Or.inl z1)]; simp only [val_Reckon.j2, if_true]; rfl
    · rw [if_neg z1]
      simp only [val_Reckon.j2]
      by_cases z2 : k2 = 0
      · rw [if_pos (by simpa using z2), if_pos (Or.inr z2)]; rfl
      · rw [if_neg (by simpa using z2), if_neg (show ¬(k1 = 0 ∨ k2 = 0) by omega)]
        by_cases e : k1 = k2
        · rw [if_pos e, if_pos e]
          unfold val_reckoner_of.f
          by_cases e2 : k1 = 2
          · rw [if_pos e2, if_pos e2]
            unfold val_ints.f intRes
            rw [val_two_eq op n1 n2 h1.i h2.i]
            simp only [Option.bind_some]
            by_cases hi : inI (exactly op n1 n2) = true
            · rw [if_pos hi, if_pos hi, wrap64_inI _ hi]
            · rw [if_neg hi, if_neg hi]
          · rw [if_neg e2, if_neg e2]
            have e3 : k1 = 3 := by unfold num at hn1; simp at hn1; omega
            obtain ⟨v1, v2, v3, v4, b, hd, hr⟩ := val_decs_eq k op n1 s1 t1 n2 s2 t2 k1 k2 (by omega) (h1.d e3) (h2.d (by omega))
            rw [hd]
            simp only [Option.bind_some]
            rw [← hr]
            cases b <;> rfl
        · rw [if_neg e, if_neg e]; rfl
  have t0 := tail false
  have t1_ := tail true
  have stop : val_Reckon.j1 (k + 2) op true k1 n1 (s1 : Int) t1 k2 n2 (s2 : Int) t2 = some typeR := by simp only [val_Reckon.j1, if_true]; rfl
  simp only [val_Reckon.j0, hn, Option.bind_some]
  unfold reckRes
  have both : (if num k1 = true then val_Reckon.j1 (k + 2) op (!num k2) k1 n1 (s1 : Int) t1 k2 n2 (s2 : Int) t2 else val_Reckon.j1 (k + 2) op true k1 n1 (s1 : Int) t1 k2 n2 (s2 : Int) t2) = some (if num k1 = true ∧ num k2 = true then (if k1 = 0 ∨ k2 = 0 then nullR else if k1 = k2 then (if k1 = 2 then intRes op n1 n2 else decsRes op n1 s1 n2 s2) else typeR) else typeR) := by
    cases a1 : num k1 with
    | false => simp [stop]
    | true =>
      cases a2 : num k2 with
      | false => simp [stop]
      | true =>
        simp only [if_true, Bool.not_true, and_self]
        rcases t0 with h | h | h
        · exact h
        · rw [a1] at h; cases h
        · rw [a2] at h; cases h
  by_cases c6 : op = 6
  · rw [if_pos c6, both]; simp [c6]
  · rw [if_neg c6]
    by_cases c7 : op = 7
    · rw [if_pos c7, both]; simp [c7]
    · rw [if_neg c7]
      by_cases c8 : op = 8
      · rw [if_pos c8, both]; simp [c8]
      · rw [if_neg c8, stop]; simp [c6, c7, c8]
def reckB (op k1 n1 : Int) (s1 : Nat) (k2 n2 : Int) (s2 : Nat) : Int × Int × Int × ByteArray × Int :=
  if op = 4 then reckRes 8 k1 0 0 k1 n1 s1 else reckRes op k1 n1 s1 k2 n2 s2
theorem RV_zero (kd : Int) : RV kd 0 0 := ⟨⟨by decide, by decide⟩, fun _ => ⟨by decide, by decide, by decide, Or.inl rfl⟩⟩
theorem val_Reckon_eq (k : Nat) (op k1 n1 : Int) (s1 : Nat) (t1 : ByteArray) (k2 n2 : Int) (s2 : Nat) (t2 : ByteArray) (hk : 100 < k) (h1 : RV k1 n1 s1) (h2 : RV k2 n2 s2) :
    val_Reckon.f k op k1 n1 (s1 : Int) t1 k2 n2 (s2 : Int) t2 = some (reckB op k1 n1 s1 k2 n2 s2) := by
  unfold val_Reckon.f reckB
  by_cases c : op = 4
  · rw [if_pos c, if_pos c]
    exact val_Reckon_j0 k 8 k1 0 0 _ k1 n1 s1 t1 hk (RV_zero k1) h1
  · rw [if_neg c, if_neg c]
    exact val_Reckon_j0 k op k1 n1 s1 t1 k2 n2 s2 t2 hk h1 h2
end Go.Proofs.Ytllkhdhanheieaa.V
namespace Go.Proofs.Ytllkhdhanheieaa.V
open Go.RowKit Go.Proofs.YtllkhdhanheieaaW.PrintWords Go.Proofs.YtllkhdhanheieaaW.PrintLast Go.Proofs.YtllkhdhanheieaaW.PrintMore
attribute [local go_sem] max2_int min2_int max_two min_two max_three min_three max_four min_four
attribute [local go_sem high] own_gtr own_leq own_geq own_cell_set Option.map_some fld23_1
set_option linter.unusedVariables false
set_option linter.unusedSimpArgs false
def BufAt (w : World) (G : Nat) (l : List Int) : Prop := ∃ cur : Array Value, ∃ m : Nat, w.heap[G]? = some (.cells cur 5 (m, m + 1)) ∧ l.length ≤ m ∧ m = cur.size ∧ ∀ j, j < l.length → cur[j]? = some (.int .u8 (l.getD j 0))
theorem BufAt.cell {w : World} {G : Nat} {l : List Int} (h : BufAt w G l) (j : Nat) (hj : j < l.length) : w.cell? ⟨G, j, none⟩ = some (.int .u8 (l.getD j 0)) := by
  obtain ⟨cur, m, h1, h2, h3, h4⟩ := h
  simp [World.cell?, h1, h4 j hj]
theorem BufAt.set {w : World} {G : Nat} {l : List Int} (h : BufAt w G l) (j : Nat) (x : Int) : BufAt (w.setCell ⟨G, j, none⟩ (.int .u8 x)) G (l.set j x) := by
  obtain ⟨cur, m, h1, h2, h3, h4⟩ := h
  refine ⟨cur.setIfInBounds j (.int .u8 x), m, ?_, by simpa using h2, by simpa using h3, ?_⟩
  · simp [World.setCell, Array.getElem?_modify, h1]
  · intro i hi
    rw [List.length_set] at hi
    rw [Array.getElem?_setIfInBounds]
    by_cases e : j = i
    · subst e
      rw [if_pos rfl, if_pos (by omega)]
      simp [List.getD, hi]
    · rw [if_neg e, h4 i hi]
      simp [List.getD, List.getElem?_set_ne e]
theorem BufAt.drewN {w : World} {G : Nat} {l : List Int} (h : BufAt w G l) (n : Nat) : BufAt (w.drewN n) G l := by
  obtain ⟨cur, m, h1, h⟩ := h
  exact ⟨cur, m, by simpa using h1, h⟩
end Go.Proofs.Ytllkhdhanheieaa.V
namespace Go.Proofs.Ytllkhdhanheieaa.V
open Go.RowKit Go.Proofs.YtllkhdhanheieaaW.PrintWords Go.Proofs.YtllkhdhanheieaaW.PrintLast Go.Proofs.YtllkhdhanheieaaW.PrintMore
attribute [local go_sem] max2_int min2_int max_two min_two max_three min_three max_four min_four
attribute [local go_sem high] own_gtr own_leq own_geq own_cell_set Option.map_some fld23_1
set_option linter.unusedVariables false
set_option linter.unusedSimpArgs false
theorem within_eq (a n : Int) (ha : I64 a) (h0 : 0 < n) (h1 : n ≤ 4611686018427387904) : federationlaw1_within.f a n = some (a % n) := by
  unfold federationlaw1_within.f I64 at *
  rw [if_neg (by omega)]
  have e1 := Int.mul_tdiv_add_tmod a n
  have e2 := Int.mul_ediv_add_emod a n
  have e3 := Int.emod_lt_of_pos a h0
  have e4 := Int.emod_nonneg a (show n ≠ 0 by omega)
  have e5 := Int.tmod_lt_of_pos a h0
  have e6 := Int.tmod_lt_of_pos (-a) h0
  rw [Int.neg_tmod] at e6
  by_cases c : a.tmod n < 0
  · rw [if_pos c, wrap64_of (by omega) (by omega)]
    have := ((Int.ediv_emod_unique (a := a) (r := a.tmod n + n) (q := a.tdiv n - 1) h0).2 ⟨by rw [Int.mul_sub, Int.mul_one]; omega, by omega, by omega⟩).2
    rw [this]
  · rw [if_neg c]
    have := ((Int.ediv_emod_unique (a := a) (r := a.tmod n) (q := a.tdiv n) h0).2 ⟨by omega, by omega, by omega⟩).2
    rw [this]
theorem emod_bd (a n : Int) (h0 : 0 < n) : 0 ≤ a % n ∧ a % n < n := ⟨Int.emod_nonneg a (by omega), Int.emod_lt_of_pos a h0⟩
theorem RD_red (n : Int) (s : Nat) (h0 : -1000000000000000 < n) (h1 : n < 1000000000000000) (hs : s ≤ 6) : RD (red n s).1 (red n s).2 := by
  have a := red_abs s n
  have b := red_scale s n
  have c := red_done s n
  exact ⟨by omega, by omega, by omega, c⟩
end Go.Proofs.Ytllkhdhanheieaa.V
namespace Go.Proofs.Ytllkhdhanheieaa.V
open Go.RowKit Go.Proofs.YtllkhdhanheieaaW.PrintWords Go.Proofs.YtllkhdhanheieaaW.PrintLast Go.Proofs.YtllkhdhanheieaaW.PrintMore
attribute [local go_sem] max2_int min2_int max_two min_two max_three min_three max_four min_four
attribute [local go_sem high] own_gtr own_leq own_geq own_cell_set Option.map_some fld23_1
set_option linter.unusedVariables false
set_option linter.unusedSimpArgs false
theorem I64_of {x : Int} (h : (Lit.int .i64 x).wf = true) : I64 x := by
  have h1 : IntKind.i64.min = -9223372036854775808 := by decide
  have h2 : IntKind.i64.max = 9223372036854775807 := by decide
  simp only [Lit.wf, Bool.and_eq_true, decide_eq_true_eq, h1, h2] at h
  exact h
theorem known_two : federationlaw1_known.f 200 = some true := by decide +kernel
theorem known_ge {k : Nat} (h : 200 ≤ k) : federationlaw1_known.f k = some true := at_rounds federationlaw1_known.mono h known_two
end Go.Proofs.Ytllkhdhanheieaa.V
namespace Go.Proofs.Ytllkhdhanheieaa.V
open Go.RowKit Go.Proofs.YtllkhdhanheieaaW.PrintWords Go.Proofs.YtllkhdhanheieaaW.PrintLast Go.Proofs.YtllkhdhanheieaaW.PrintMore
attribute [local go_sem] max2_int min2_int max_two min_two max_three min_three max_four min_four
attribute [local go_sem high] own_gtr own_leq own_geq own_cell_set Option.map_some fld23_1
set_option linter.unusedVariables false
set_option linter.unusedSimpArgs false
theorem decRes_RD {n : Int} {s : Nat} (h : RD n s) : decRes (n * p10 (6 - s)) 6 = (3, n, (s : Int), (⟨#[]⟩ : ByteArray), 0) := by
  have hs := h.sc
  have hp := red_tens n (6 - s) s
  rw [show s + (6 - s) = 6 by omega, red_same n s h.nm] at hp
  unfold decRes
  rw [hp, if_pos ⟨h.lo, h.hi, h.sc⟩]
end Go.Proofs.Ytllkhdhanheieaa.V
namespace Go.Proofs.Ytllkhdhanheieaa.V
open Go.RowKit Go.Proofs.YtllkhdhanheieaaW.PrintWords Go.Proofs.YtllkhdhanheieaaW.PrintLast Go.Proofs.YtllkhdhanheieaaW.PrintMore
attribute [local go_sem] max2_int min2_int max_two min_two max_three min_three max_four min_four
attribute [local go_sem high] own_gtr own_leq own_geq own_cell_set Option.map_some fld23_1
set_option linter.unusedVariables false
set_option linter.unusedSimpArgs false
theorem RV_int {a : Int} (h : I64 a) : RV 2 a 0 := ⟨h, fun e => absurd e (by decide)⟩
theorem reckB_int (op a b : Int) (h : op = 6 ∨ op = 7 ∨ op = 8) : reckB op 2 a 0 2 b 0 = intRes op a b := by
  unfold reckB reckRes
  rw [if_neg (by omega), if_pos ⟨h, by decide, by decide⟩, if_neg (by decide), if_pos rfl, if_pos rfl]
theorem Reckon_int (k : Nat) (op a b : Int) (t1 t2 : ByteArray) (hk : 100 < k) (h : op = 6 ∨ op = 7 ∨ op = 8) (ha : I64 a) (hb : I64 b) : val_Reckon.f k op 2 a 0 t1 2 b 0 t2 = some (intRes op a b) := by
  have := val_Reckon_eq k op 2 a 0 t1 2 b 0 t2 hk (RV_int ha) (RV_int hb)
  rw [reckB_int op a b h] at this
  exact this
theorem intRes_yes {op a b : Int} (h : inI (exactly op a b) = true) : intRes op a b = (2, exactly op a b, 0, (⟨#[]⟩ : ByteArray), 0) := by
  unfold intRes; rw [if_pos h]
theorem inI_iff (x : Int) : inI x = true ↔ (-9223372036854775808 ≤ x ∧ x ≤ 9223372036854775807) := by
  unfold inI; rw [decide_eq_true_eq]
end Go.Proofs.Ytllkhdhanheieaa.V
namespace Go.Proofs.Ytllkhdhanheieaa.Pure
open Go.RowKit Go.Proofs.Ytllkhdhanheieaa.V Go.Proofs.YtllkhdhanheieaaW.PrintWords Go.Proofs.YtllkhdhanheieaaW.PrintLast Go.Proofs.YtllkhdhanheieaaW.PrintMore
theorem decs_plus (n1 : Int) (s1 : Nat) (n2 : Int) (s2 : Nat) : reckB 7 3 n1 s1 3 n2 s2 = decRes (n1 * p10 (6 - s1) + n2 * p10 (6 - s2)) 6 := by
  unfold reckB reckRes decsRes
  rw [if_neg (by decide), if_pos ⟨by decide, by decide, by decide⟩, if_neg (by decide), if_pos rfl, if_neg (by decide), if_neg (by decide)]
  show decRes (_ + 1 * _) 6 = _
  rw [Int.one_mul]
theorem decs_minus (n1 : Int) (s1 : Nat) (n2 : Int) (s2 : Nat) : reckB 8 3 n1 s1 3 n2 s2 = decRes (n1 * p10 (6 - s1) - n2 * p10 (6 - s2)) 6 := by
  unfold reckB reckRes decsRes
  rw [if_neg (by decide), if_pos ⟨by decide, by decide, by decide⟩, if_neg (by decide), if_pos rfl, if_neg (by decide), if_neg (by decide)]
  show decRes (_ + -1 * _) 6 = _
  congr 1
  omega
theorem decs_neg (n1 : Int) (s1 : Nat) (n2 : Int) (s2 : Nat) : reckB 4 3 n1 s1 3 n2 s2 = reckB 8 3 0 0 3 n1 s1 := by
  unfold reckB
  rw [if_pos rfl, if_neg (by decide)]
theorem decs_times (n1 : Int) (s1 : Nat) (n2 : Int) (s2 : Nat) : reckB 6 3 n1 s1 3 n2 s2 = if inI (n1 * n2) = true then decRes (n1 * n2) (s1 + s2) else overR := by
  unfold reckB reckRes decsRes
  rw [if_neg (by decide), if_pos ⟨by decide, by decide, by decide⟩, if_neg (by decide), if_pos rfl, if_neg (by decide), if_pos rfl]
theorem times_comm (n1 : Int) (s1 : Nat) (n2 : Int) (s2 : Nat) : reckB 6 3 n1 s1 3 n2 s2 = reckB 6 3 n2 s2 3 n1 s1 := by
  rw [decs_times, decs_times, Int.mul_comm n1 n2, Nat.add_comm s1 s2]
theorem decRes_own {n : Int} {s : Nat} (h : RD n s) : decRes n s = (3, n, (s : Int), (⟨#[]⟩ : ByteArray), 0) := by
  unfold decRes
  rw [red_same n s h.nm, if_pos ⟨h.lo, h.hi, h.sc⟩]
theorem RD_neg {n : Int} {s : Nat} (h : RD n s) : RD (-n) s := ⟨by have := h.hi; omega, by have := h.lo; omega, h.sc, by rcases h.nm with h | h; exact Or.inl h; exact Or.inr (by omega)⟩
theorem sum_RD (n1 n2 : Int) (s1 s2 : Nat) (h1 : s1 ≤ 3) (h2 : s2 ≤ 3) (a1 : n1.natAbs ≤ 536870912) (a2 : n2.natAbs ≤ 536870912) :
    ∃ n s, RD n s ∧ n * p10 (6 - s) = n1 * p10 (6 - s1) + n2 * p10 (6 - s2) ∧ decRes (n1 * p10 (6 - s1) + n2 * p10 (6 - s2)) 6 = (3, n, (s : Int), (⟨#[]⟩ : ByteArray), 0) := by
  have e1 : n1 * p10 (6 - s1) + n2 * p10 (6 - s2) = (n1 * p10 (3 - s1) + n2 * p10 (3 - s2)) * p10 3 := by
    rw [show 6 - s1 = (3 - s1) + 3 by omega, show 6 - s2 = (3 - s2) + 3 by omega, p10_add, p10_add, ← Int.mul_assoc, ← Int.mul_assoc, ← Int.add_mul]
  have b : ∀ (n : Int) (s : Nat), n.natAbs ≤ 536870912 → -536870912000 ≤ n * p10 (3 - s) ∧ n * p10 (3 - s) ≤ 536870912000 := fun n s hn => by
    have hp := p10_pos (3 - s)
    have hp6 := p10_mono (m := 3 - s) (n := 3) (by omega)
    have e3 : p10 3 = 1000 := by decide
    have c1 : n * p10 (3 - s) ≤ 536870912 * p10 (3 - s) := Int.mul_le_mul_of_nonneg_right (by omega) (by omega)
    have c2 : -536870912 * p10 (3 - s) ≤ n * p10 (3 - s) := Int.mul_le_mul_of_nonneg_right (by omega) (by omega)
    omega
  have b1 := b n1 s1 a1
  have b2 := b n2 s2 a2
  have hr := RD_red (n1 * p10 (3 - s1) + n2 * p10 (3 - s2)) 3 (by omega) (by omega) (by decide)
  have hv := red_value 3 (n1 * p10 (3 - s1) + n2 * p10 (3 - s2))
  have hs := red_scale 3 (n1 * p10 (3 - s1) + n2 * p10 (3 - s2))
  have ht := red_tens (n1 * p10 (3 - s1) + n2 * p10 (3 - s2)) 3 3
  rw [← e1] at ht
  refine ⟨_, _, hr, ?_, ?_⟩
  · rw [e1]
    generalize (red (n1 * p10 (3 - s1) + n2 * p10 (3 - s2)) 3).2 = q at *
    rw [show 6 - q = (3 - q) + 3 by omega, p10_add, ← Int.mul_assoc, hv]
  · unfold decRes
    rw [show (3 + 3 : Nat) = 6 from rfl] at ht
    rw [ht, if_pos ⟨hr.lo, hr.hi, hr.sc⟩]
theorem laws_decs (k : Nat) (hk : 110 < k) (n1 n2 : Int) (s1 s2 : Nat) (h1 : RD n1 s1) (h2 : RD n2 s2) (c1 : s1 ≤ 3) (c2 : s2 ≤ 3) (a1 : n1.natAbs ≤ 536870912) (a2 : n2.natAbs ≤ 536870912) :
    federationlaw1_ValLaws.j0 k 3 n1 (s1 : Int) (⟨#[]⟩ : ByteArray) 3 n2 (s2 : Int) (⟨#[]⟩ : ByteArray) 3 1 0 (⟨#[]⟩ : ByteArray) 3 0 0 (⟨#[]⟩ : ByteArray) = some true := by
  obtain ⟨k, rfl⟩ : ∃ m, k = m + 1 := ⟨k - 1, by omega⟩
  have RVd : ∀ {n : Int} {s : Nat}, RD n s → RV 3 n s := fun {n s} h => ⟨by have := h.lo; have := h.hi; unfold I64; omega, fun _ => h⟩
  have o1 : RD 1 0 := ⟨by decide, by decide, by decide, Or.inl rfl⟩
  have o0 : RD 0 0 := ⟨by decide, by decide, by decide, Or.inl rfl⟩
  obtain ⟨n3, s3, h3, hv, hs⟩ := sum_RD n1 n2 s1 s2 c1 c2 a1 a2
  have r1 := val_Reckon_eq k 7 3 n1 s1 (⟨#[]⟩ : ByteArray) 3 n2 s2 (⟨#[]⟩ : ByteArray) (by omega) (RVd h1) (RVd h2)
  have r2 := val_Reckon_eq k 7 3 n2 s2 (⟨#[]⟩ : ByteArray) 3 n1 s1 (⟨#[]⟩ : ByteArray) (by omega) (RVd h2) (RVd h1)
  have r3 := val_Reckon_eq k 8 3 n3 s3 (⟨#[]⟩ : ByteArray) 3 n2 s2 (⟨#[]⟩ : ByteArray) (by omega) (RVd h3) (RVd h2)
  have r4 := val_Reckon_eq k 6 3 n1 s1 (⟨#[]⟩ : ByteArray) 3 1 0 (⟨#[]⟩ : ByteArray) (by omega) (RVd h1) (RVd o1)
  have r5 := val_Reckon_eq k 7 3 n1 s1 (⟨#[]⟩ : ByteArray) 3 0 0 (⟨#[]⟩ : ByteArray) (by omega) (RVd h1) (RVd o0)
  have r6 := val_Reckon_eq k 4 3 n1 s1 (⟨#[]⟩ : ByteArray) 3 0 0 (⟨#[]⟩ : ByteArray) (by omega) (RVd h1) (RVd o0)
  have r7 := val_Reckon_eq k 8 3 0 0 (⟨#[]⟩ : ByteArray) 3 n1 s1 (⟨#[]⟩ : ByteArray) (by omega) (RVd o0) (RVd h1)
  have r8 := val_Reckon_eq k 6 3 n1 s1 (⟨#[]⟩ : ByteArray) 3 n2 s2 (⟨#[]⟩ : ByteArray) (by omega) (RVd h1) (RVd h2)
  have r9 := val_Reckon_eq k 6 3 n2 s2 (⟨#[]⟩ : ByteArray) 3 n1 s1 (⟨#[]⟩ : ByteArray) (by omega) (RVd h2) (RVd h1)
  rw [decs_plus, hs] at r1
  rw [decs_plus, Int.add_comm, hs] at r2
  rw [decs_minus, hv, show n1 * p10 (6 - s1) + n2 * p10 (6 - s2) - n2 * p10 (6 - s2) = n1 * p10 (6 - s1) by omega, decRes_RD h1] at r3
  rw [decs_times, Int.mul_one, if_pos ((inI_iff _).2 ((RVd h1).i)), Nat.add_zero, decRes_own h1] at r4
  rw [decs_plus, Int.zero_mul, Int.add_zero, decRes_RD h1] at r5
  have e0 : decRes (0 * p10 (6 - 0) - n1 * p10 (6 - s1)) 6 = (3, -n1, (s1 : Int), (⟨#[]⟩ : ByteArray), 0) := by
    rw [Int.zero_mul, Int.zero_sub, ← Int.neg_mul]
    exact decRes_RD (RD_neg h1)
  rw [decs_neg, decs_minus, e0] at r6
  rw [decs_minus, e0] at r7
  rw [← times_comm n1 s1 n2 s2] at r9
  rw [show ((0 : Nat) : Int) = 0 from rfl] at r4 r5 r6 r7
  simp only [federationlaw1_ValLaws.j0]
  rw [r1, Option.bind_some, r2, Option.bind_some]
  dsimp only
  rw [r3, Option.bind_some, r4, Option.bind_some, r5, Option.bind_some, r6, Option.bind_some, r7, Option.bind_some, r8, Option.bind_some, r9, Option.bind_some]
  generalize reckB 6 3 n1 s1 3 n2 s2 = R1
  simp
theorem laws_ints (k : Nat) (hk : 110 < k) (x y : Int) (hx : -536870912 ≤ x ∧ x ≤ 536870912) (hy : -536870912 ≤ y ∧ y ≤ 536870912) :
    federationlaw1_ValLaws.j0 k 2 x 0 (⟨#[]⟩ : ByteArray) 2 y 0 (⟨#[]⟩ : ByteArray) 2 1 0 (⟨#[]⟩ : ByteArray) 2 0 0 (⟨#[]⟩ : ByteArray) = some true := by
  obtain ⟨k, rfl⟩ : ∃ m, k = m + 1 := ⟨k - 1, by omega⟩
  have ix : I64 x := by unfold I64; omega
  have iy : I64 y := by unfold I64; omega
  have i1 : I64 1 := by unfold I64; omega
  have i0 : I64 0 := by unfold I64; omega
  have is : I64 (x + y) := by unfold I64; omega
  have eS : intRes 7 x y = (2, x + y, 0, (⟨#[]⟩ : ByteArray), 0) := intRes_yes (op := 7) ((inI_iff _).2 (by show _ ≤ x + y ∧ x + y ≤ _; omega))
  have eT : intRes 7 y x = (2, x + y, 0, (⟨#[]⟩ : ByteArray), 0) := by
    have : exactly 7 y x = x + y := Int.add_comm y x
    rw [intRes_yes (by rw [this]; exact (inI_iff _).2 is), this]
  have eD : intRes 8 (x + y) y = (2, x, 0, (⟨#[]⟩ : ByteArray), 0) := by
    have : exactly 8 (x + y) y = x := by show x + y - y = x; omega
    rw [intRes_yes (by rw [this]; exact (inI_iff _).2 ix), this]
  have eP : intRes 6 x 1 = (2, x, 0, (⟨#[]⟩ : ByteArray), 0) := by
    have : exactly 6 x 1 = x := Int.mul_one x
    rw [intRes_yes (by rw [this]; exact (inI_iff _).2 ix), this]
  have eQ : intRes 7 x 0 = (2, x, 0, (⟨#[]⟩ : ByteArray), 0) := by
    have : exactly 7 x 0 = x := Int.add_zero x
    rw [intRes_yes (by rw [this]; exact (inI_iff _).2 ix), this]
  have eM : intRes 8 0 x = (2, 0 - x, 0, (⟨#[]⟩ : ByteArray), 0) := intRes_yes (op := 8) ((inI_iff _).2 (by show _ ≤ 0 - x ∧ 0 - x ≤ _; omega))
  have eU : intRes 6 y x = intRes 6 x y := by
    have : exactly 6 y x = exactly 6 x y := Int.mul_comm y x
    unfold intRes
    rw [this]
  have rN := val_Reckon_eq k 4 2 x 0 (⟨#[]⟩ : ByteArray) 2 0 0 (⟨#[]⟩ : ByteArray) (by omega) (RV_int ix) (RV_int i0)
  have bN : reckB 4 2 x 0 2 0 0 = intRes 8 0 x := by
    unfold reckB reckRes
    rw [if_pos rfl, if_pos ⟨by decide, by decide, by decide⟩, if_neg (by decide), if_pos rfl, if_pos rfl]
  rw [bN, show ((0 : Nat) : Int) = 0 from rfl] at rN
  simp only [federationlaw1_ValLaws.j0]
  rw [Reckon_int k 7 x y _ _ (by omega) (by omega) ix iy, Option.bind_some, Reckon_int k 7 y x _ _ (by omega) (by omega) iy ix, Option.bind_some, eS, eT]
  dsimp only
  rw [Reckon_int k 8 (x + y) y _ _ (by omega) (by omega) is iy, Option.bind_some, Reckon_int k 6 x 1 _ _ (by omega) (by omega) ix i1, Option.bind_some, Reckon_int k 7 x 0 _ _ (by omega) (by omega) ix i0, Option.bind_some, rN, Option.bind_some,
    Reckon_int k 8 0 x _ _ (by omega) (by omega) i0 ix, Option.bind_some, Reckon_int k 6 x y _ _ (by omega) (by omega) ix iy, Option.bind_some, Reckon_int k 6 y x _ _ (by omega) (by omega) iy ix, Option.bind_some, eD, eP, eQ, eM, eU]
  generalize intRes 6 x y = R1
  simp
theorem ValLaws : federationlaw1_ValLaws.Pure := by
  intro a0 a1 a2 a3 a4 w0 w1 w2 w3
  refine ⟨300, ?_⟩
  have i0 := I64_of w0; have i1 := I64_of w1; have i2 := I64_of w2; have i3 := I64_of w3
  have b0 := emod_bd a0 1073741824 (by decide)
  have b1 := emod_bd a1 1073741824 (by decide)
  have b2 := emod_bd a2 4 (by decide)
  have b3 := emod_bd a3 3 (by decide)
  unfold federationlaw1_ValLaws.f
  rw [known_ge (by decide), Option.bind_some, if_pos rfl, within_eq a0 1073741824 i0 (by decide) (by decide), Option.bind_some, within_eq a1 1073741824 i1 (by decide) (by decide), Option.bind_some,
    wrap64_of (x := a0 % 1073741824 - 536870912) (by omega) (by omega), wrap64_of (x := a1 % 1073741824 - 536870912) (by omega) (by omega)]
  cases a4 with
  | true =>
    obtain ⟨s, hs⟩ : ∃ s : Nat, a2 % 4 = (s : Int) := ⟨(a2 % 4).toNat, by omega⟩
    obtain ⟨t, ht⟩ : ∃ t : Nat, a3 % 3 = (t : Int) := ⟨(a3 % 3).toNat, by omega⟩
    have hX := RD_red (a0 % 1073741824 - 536870912) s (by omega) (by omega) (by omega)
    have hY := RD_red (a1 % 1073741824 - 536870912) t (by omega) (by omega) (by omega)
    have sX := red_scale s (a0 % 1073741824 - 536870912)
    have sY := red_scale t (a1 % 1073741824 - 536870912)
    have aX := red_abs s (a0 % 1073741824 - 536870912)
    have aY := red_abs t (a1 % 1073741824 - 536870912)
    rw [if_pos rfl, within_eq a2 4 i2 (by decide) (by decide), Option.bind_some, hs, ref_Norm_eq 300 s _ _ (by omega) (by omega) (by omega) (by omega), Option.bind_some]
    dsimp only
    rw [within_eq a3 3 i3 (by decide) (by decide), Option.bind_some, ht, ref_Norm_eq 300 t _ _ (by omega) (by omega) (by omega) (by omega), Option.bind_some]
    dsimp only
    exact laws_decs 300 (by decide) _ _ _ _ hX hY (by omega) (by omega) (by omega) (by omega)
  | false =>
    rw [if_neg (by decide)]
    exact laws_ints 300 (by decide) _ _ (by omega) (by omega)
end Go.Proofs.Ytllkhdhanheieaa.Pure
