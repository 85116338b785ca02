-- Written by drive.py and pack.py (programs of this proof's own) through the kit's printer; not trusted: Lean checks it.
import Derived.Test.YtllkhdhanheieaaCValRight1
import Derived.Test.YtllkhdhanheieaaCValRight3
import Derived.Test.YtllkhdhanheieaaCValRight10
import Derived.Test.YtllkhdhanheieaaCValRight2
import Derived.Test.YtllkhdhanheieaaCValRight12
import Derived.Test.YtllkhdhanheieaaCValRight9
import Derived.Test.YtllkhdhanheieaaCValRight8
import Derived.Test.YtllkhdhanheieaaCValRight7
import Derived.Test.YtllkhdhanheieaaCValRight6
import Derived.Test.YtllkhdhanheieaaCValRight5
import Derived.Test.YtllkhdhanheieaaCValRight4
import Derived.Test.YtllkhdhanheieaaCValRight11
import Derived.Lib.Strings
import Derived.Test.YtllkhdhanheieaaCValRight13
namespace Go.Proofs.Ytllkhdhanheieaa.V
open Go.RowKit Go.Proofs.YtllkhdhanheieaaW.PrintWords Go.Proofs.YtllkhdhanheieaaW.PrintLast Go.Proofs.YtllkhdhanheieaaW.PrintMore
attribute [local go_sem] max2_int min2_int max_two min_two max_three min_three max_four min_four
attribute [local go_sem high] own_gtr own_leq own_geq own_cell_set Option.map_some fld23_1
set_option linter.unusedVariables false
set_option linter.unusedSimpArgs false
theorem wrap64_of {x : Int} (h0 : -9223372036854775808 ≤ x) (h1 : x ≤ 9223372036854775807) : wrap64 x = x := by
  unfold wrap64; omega
def red : Int → Nat → Int × Nat
  | n, 0 => (n, 0)
  | n, s + 1 => if n % 10 = 0 then red (n / 10) s else (n, s + 1)
theorem red_zero : ∀ s, red 0 s = (0, 0)
  | 0 => rfl
  | s + 1 => by simp only [red]; rw [if_pos (by decide)]; exact red_zero s
theorem red_scale : ∀ (s : Nat) (n : Int), (red n s).2 ≤ s
  | 0, _ => Nat.le_refl _
  | s + 1, n => by
    simp only [red]
    split
    · exact Nat.le_succ_of_le (red_scale s _)
    · exact Nat.le_refl _
theorem red_done : ∀ (s : Nat) (n : Int), (red n s).2 = 0 ∨ (red n s).1 % 10 ≠ 0
  | 0, _ => Or.inl rfl
  | s + 1, n => by
    simp only [red]
    split
    · exact red_done s _
    · rename_i h; exact Or.inr h
theorem red_same (n : Int) (s : Nat) (h : s = 0 ∨ n % 10 ≠ 0) : red n s = (n, s) := by
  cases s with
  | zero => rfl
  | succ s =>
    simp only [red]
    rw [if_neg (by omega)]
theorem red_abs : ∀ (s : Nat) (n : Int), (red n s).1.natAbs ≤ n.natAbs
  | 0, _ => Nat.le_refl _
  | s + 1, n => by
    simp only [red]
    split
    · exact Nat.le_trans (red_abs s _) (by omega)
    · exact Nat.le_refl _
theorem tmod10 (n : Int) : (Int.tmod n 10 = 0) ↔ n % 10 = 0 := by
  constructor
  · intro h; have := Int.dvd_of_tmod_eq_zero h; omega
  · intro h; exact Int.tmod_eq_zero_of_dvd (by omega)
theorem tdiv10 (n : Int) (h : n % 10 = 0) : Int.tdiv n 10 = n / 10 := by
  rw [Int.tdiv_eq_ediv]; split <;> omega
theorem val_Norm_l0 (st : ByteArray) : ∀ (s k : Nat) (n : Int), s < k → s ≤ 9223372036854775807 → -9223372036854775808 ≤ n → n ≤ 9223372036854775807 → val_Norm.l0 k 3 n (s : Int) st = some (3, (red n s).1, ((red n s).2 : Int), st)
  | 0, k, n, hk, _, _, _ => by
    obtain ⟨k, rfl⟩ : ∃ m, k = m + 1 := ⟨k - 1, by omega⟩
    simp only [val_Norm.l0]; rw [if_pos trivial, if_neg (by omega)]; rfl
  | s + 1, k, n, hk, hs, h0, h1 => by
    obtain ⟨k, rfl⟩ : ∃ m, k = m + 1 := ⟨k - 1, by omega⟩
    simp only [val_Norm.l0]; rw [if_pos trivial, if_pos (by omega)]
    simp only [red]
    by_cases h : n % 10 = 0
    · rw [if_pos ((tmod10 n).2 h), if_pos h, tdiv10 n h, wrap64_of (by omega) (by omega), wrap64_of (by omega) (by omega), show ((s + 1 : Nat) : Int) - 1 = (s : Int) by omega]
      exact val_Norm_l0 st s k (n / 10) (by omega) (by omega) (by omega) (by omega)
    · rw [if_neg (fun e => h ((tmod10 n).1 e)), if_neg h]
theorem val_Norm_eq (k s : Nat) (n : Int) (st : ByteArray) (hk : s + 2 < k) (hs : s ≤ 9223372036854775807) (h0 : -9223372036854775808 ≤ n) (h1 : n ≤ 9223372036854775807) : val_Norm.f k 3 n (s : Int) st = some (3, (red n s).1, ((red n s).2 : Int), st) := by
  obtain ⟨k, rfl⟩ : ∃ m, k = m + 2 := ⟨k - 2, by omega⟩
  unfold val_Norm.f
  rw [if_pos rfl]
  simp only [val_Norm.j0, val_Norm.j1]
  by_cases h : n = 0
  · subst h
    rw [red_zero]
    simp only [beq_self_eq_true, if_true]
    rw [show mn (s : Int) 0 = ((0 : Nat) : Int) by unfold mn; split <;> omega]
    have := val_Norm_l0 st 0 k 0 (by omega) (by omega) (by omega) (by omega)
    exact this
  · rw [if_neg (by simpa using h)]
    exact val_Norm_l0 st s k n (by omega) hs h0 h1
theorem ref_Norm_l0 (st : ByteArray) : ∀ (s k : Nat) (n : Int), s < k → s ≤ 9223372036854775807 → -9223372036854775808 ≤ n → n ≤ 9223372036854775807 → federationref1_Norm.l0 k 3 n (s : Int) st = some (3, (red n s).1, ((red n s).2 : Int), st)
  | 0, k, n, hk, _, _, _ => by
    obtain ⟨k, rfl⟩ : ∃ m, k = m + 1 := ⟨k - 1, by omega⟩
    simp only [federationref1_Norm.l0]; rw [if_pos trivial, if_neg (by omega)]; rfl
  | s + 1, k, n, hk, hs, h0, h1 => by
    obtain ⟨k, rfl⟩ : ∃ m, k = m + 1 := ⟨k - 1, by omega⟩
    simp only [federationref1_Norm.l0]; rw [if_pos trivial, if_pos (by omega)]
    simp only [red]
    by_cases h : n % 10 = 0
    · rw [if_pos ((tmod10 n).2 h), if_pos h, tdiv10 n h, wrap64_of (by omega) (by omega), wrap64_of (by omega) (by omega), show ((s + 1 : Nat) : Int) - 1 = (s : Int) by omega]
      exact ref_Norm_l0 st s k (n / 10) (by omega) (by omega) (by omega) (by omega)
    · rw [if_neg (fun e => h ((tmod10 n).1 e)), if_neg h]
theorem ref_Norm_eq (k s : Nat) (n : Int) (st : ByteArray) (hk : s + 2 < k) (hs : s ≤ 9223372036854775807) (h0 : -9223372036854775808 ≤ n) (h1 : n ≤ 9223372036854775807) : federationref1_Norm.f k 3 n (s : Int) st = some (3, (red n s).1, ((red n s).2 : Int), st) := by
  obtain ⟨k, rfl⟩ : ∃ m, k = m + 2 := ⟨k - 2, by omega⟩
  unfold federationref1_Norm.f
  rw [if_pos rfl]
  simp only [federationref1_Norm.j0, federationref1_Norm.j1]
  by_cases h : n = 0
  · subst h
    rw [red_zero]
    by_cases hs0 : (s : Int) > 0
    · rw [if_pos hs0]
      simp only [beq_self_eq_true, if_true]
      exact ref_Norm_l0 st 0 k 0 (by omega) (by omega) (by omega) (by omega)
    · rw [if_neg hs0, show (s : Int) = ((0 : Nat) : Int) by omega]
      simp only [Bool.false_eq_true, if_false]
      exact ref_Norm_l0 st 0 k 0 (by omega) (by omega) (by omega) (by omega)
  · have hl := ref_Norm_l0 st s k n (by omega) hs h0 h1
    by_cases hs0 : (s : Int) > 0
    · rw [if_pos hs0, if_neg (by simpa using h)]; exact hl
    · rw [if_neg hs0]; simp only [Bool.false_eq_true, if_false]; exact hl
end Go.Proofs.Ytllkhdhanheieaa.V
namespace Go.Proofs.Ytllkhdhanheieaa.V
open Go.RowKit Go.Proofs.YtllkhdhanheieaaW.PrintWords Go.Proofs.YtllkhdhanheieaaW.PrintLast Go.Proofs.YtllkhdhanheieaaW.PrintMore
attribute [local go_sem] max2_int min2_int max_two min_two max_three min_three max_four min_four
attribute [local go_sem high] own_gtr own_leq own_geq own_cell_set Option.map_some fld23_1
set_option linter.unusedVariables false
set_option linter.unusedSimpArgs false
def okB (st : ByteArray) : Bool := st.data.toList.all fun b => decide (32 ≤ b.toNat ∧ b.toNat ≤ 126)
theorem bt_data (st : ByteArray) (i : Nat) (h : i < st.data.size) : bt st (i : Int) = ((st.data[i]).toNat : Int) := by
  rw [← bt_at st (i : Int) (by simpa using h)]
  rfl
theorem all_drop (st : ByteArray) (i : Nat) (h : i < st.data.size) : (st.data.toList.drop i).all (fun b => decide (32 ≤ b.toNat ∧ b.toNat ≤ 126)) = (decide (32 ≤ (st.data[i]).toNat ∧ (st.data[i]).toNat ≤ 126) && (st.data.toList.drop (i + 1)).all fun b => decide (32 ≤ b.toNat ∧ b.toNat ≤ 126)) := by
  rw [List.drop_eq_getElem_cons (by simpa using h), List.all_cons]
  simp
theorem val_printable_l0 (st : ByteArray) (hs : st.data.size ≤ 140737488351232) : ∀ (d k i : Nat), d < k → i + d = st.data.size → val_printable.l0 k st (i : Int) = some ((st.data.toList.drop i).all fun b => decide (32 ≤ b.toNat ∧ b.toNat ≤ 126))
  | 0, k, i, hk, h => by
    obtain ⟨k, rfl⟩ : ∃ m, k = m + 1 := ⟨k - 1, by omega⟩
    simp only [val_printable.l0]; rw [if_neg (by have hz : st.size = st.data.size := rfl; omega), List.drop_of_length_le (by have hz : st.data.toList.length = st.data.size := rfl; omega)]; rfl
  | d + 1, k, i, hk, h => by
    obtain ⟨k, rfl⟩ : ∃ m, k = m + 1 := ⟨k - 1, by omega⟩
    simp only [val_printable.l0]
    rw [if_pos (by have hz : st.size = st.data.size := rfl; omega), if_pos (by omega), bt_data st i (by omega), all_drop st i (by omega)]
    by_cases h1 : ((st.data[i]'(by omega)).toNat : Int) < 32
    · rw [if_pos h1, decide_eq_false (by omega)]; rfl
    · rw [if_neg h1]
      by_cases h2 : ((st.data[i]'(by omega)).toNat : Int) > 126
      · rw [if_pos h2, decide_eq_false (by omega)]; rfl
      · rw [if_neg h2, decide_eq_true (by omega), wrap64_of (by omega) (by omega), Bool.true_and]
        exact val_printable_l0 st hs d k (i + 1) (by omega) (by omega)
theorem val_printable_eq (st : ByteArray) (k : Nat) (hs : st.data.size ≤ 140737488351232) (hk : st.data.size < k) : val_printable.f k st = some (okB st) := val_printable_l0 st hs st.data.size k 0 hk (by omega)
theorem ref_clean_l0 (st : ByteArray) (hs : st.data.size ≤ 140737488351232) : ∀ (d k i : Nat), d < k → i + d = st.data.size → federationref1_clean.l0 k st (i : Int) = some ((st.data.toList.drop i).all fun b => decide (32 ≤ b.toNat ∧ b.toNat ≤ 126))
  | 0, k, i, hk, h => by
    obtain ⟨k, rfl⟩ : ∃ m, k = m + 1 := ⟨k - 1, by omega⟩
    simp only [federationref1_clean.l0]; rw [if_neg (by have hz : st.size = st.data.size := rfl; omega), List.drop_of_length_le (by have hz : st.data.toList.length = st.data.size := rfl; omega)]; rfl
  | d + 1, k, i, hk, h => by
    obtain ⟨k, rfl⟩ : ∃ m, k = m + 1 := ⟨k - 1, by omega⟩
    simp only [federationref1_clean.l0]
    rw [if_pos (by have hz : st.size = st.data.size := rfl; omega), if_pos (by omega), bt_data st i (by omega), all_drop st i (by omega)]
    by_cases h1 : ((st.data[i]'(by omega)).toNat : Int) < 32
    · rw [if_pos h1, decide_eq_false (by omega)]; rfl
    · rw [if_neg h1]
      by_cases h2 : ((st.data[i]'(by omega)).toNat : Int) > 126
      · rw [if_pos h2, decide_eq_false (by omega)]; rfl
      · rw [if_neg h2, decide_eq_true (by omega), wrap64_of (by omega) (by omega), Bool.true_and]
        exact ref_clean_l0 st hs d k (i + 1) (by omega) (by omega)
theorem ref_clean_eq (st : ByteArray) (k : Nat) (hs : st.data.size ≤ 140737488351232) (hk : st.data.size < k) : federationref1_clean.f k st = some (okB st) := ref_clean_l0 st hs st.data.size k 0 hk (by omega)
def noS (st : ByteArray) : Bool := st.toList == ([] : List UInt8)
def rightB (kd n sc : Int) (st : ByteArray) : Bool :=
  if kd = 0 then n == 0 && (sc == 0 && noS st)
  else if kd = 1 then decide (0 ≤ n ∧ n ≤ 1) && (sc == 0 && noS st)
  else if kd = 2 then sc == 0 && noS st
  else if kd = 3 then decide (-1000000000000000 < n ∧ n < 1000000000000000 ∧ 0 ≤ sc ∧ sc ≤ 6 ∧ (sc = 0 ∨ n % 10 ≠ 0)) && noS st
  else if kd = 4 then decide (n = 0 ∧ sc = 0 ∧ st.data.size ≤ 40) && okB st
  else if kd = 5 then decide (n = 0 ∧ sc = 0 ∧ st.data.size ≤ 40)
  else false
theorem val_Right_eq (k : Nat) (kd n sc : Int) (st : ByteArray) (hk : 42 < k) : val_Right.f k kd n sc st = some (rightB kd n sc st) := by
  obtain ⟨k, rfl⟩ : ∃ m, k = m + 1 := ⟨k - 1, by omega⟩
  have hz : (st.size : Int) = (st.data.size : Int) := rfl
  unfold val_Right.f rightB
  by_cases h0 : kd = 0
  · rw [if_pos h0, if_pos h0]; rfl
  rw [if_neg h0, if_neg h0]
  by_cases h1 : kd = 1
  · rw [if_pos h1, if_pos h1]
    congr 2
    rw [Bool.eq_iff_iff]; simp only [beq_iff_eq, decide_eq_true_eq]; unfold mn mx
    constructor
    · intro h; split at h <;> (try split at h) <;> omega
    · intro h; split <;> (try split) <;> omega
  rw [if_neg h1, if_neg h1]
  by_cases h2 : kd = 2
  · rw [if_pos h2, if_pos h2]; rfl
  rw [if_neg h2, if_neg h2]
  by_cases h3 : kd = 3
  · rw [if_pos h3, if_pos h3]
    have ht := tmod10 n
    by_cases a1 : n ≤ -1000000000000000
    · rw [if_pos a1, decide_eq_false (by omega)]; rfl
    rw [if_neg a1]
    by_cases a2 : n ≥ 1000000000000000
    · rw [if_pos a2, decide_eq_false (by omega)]; rfl
    rw [if_neg a2]
    have hm : (sc == mn (mx sc 0) 6) = decide (0 ≤ sc ∧ sc ≤ 6) := by
      rw [Bool.eq_iff_iff]; simp only [beq_iff_eq, decide_eq_true_eq]; unfold mn mx
      constructor
      · intro h; split at h <;> (try split at h) <;> omega
      · intro h; split <;> (try split) <;> omega
    by_cases a3 : sc > 0
    · rw [if_pos a3]
      by_cases a4 : Int.tmod n 10 = 0
      · rw [if_pos a4, decide_eq_false (by have := ht.1 a4; omega)]; rfl
      · rw [if_neg a4, hm]
        have : n % 10 ≠ 0 := fun e => a4 (ht.2 e)
        by_cases a5 : sc ≤ 6
        · rw [decide_eq_true (by omega), decide_eq_true (by omega)]; rfl
        · rw [decide_eq_false (by omega), decide_eq_false (by omega)]; rfl
    · rw [if_neg a3, hm]
      by_cases a5 : 0 ≤ sc
      · rw [decide_eq_true (by omega), decide_eq_true (by omega)]; rfl
      · rw [decide_eq_false (by omega), decide_eq_false (by omega)]; rfl
  rw [if_neg h3, if_neg h3]
  by_cases h4 : kd = 4
  · rw [if_pos h4, if_pos h4]
    subst h4
    simp only [val_Right.j0, beq_self_eq_true, if_true, Bool.true_and]
    by_cases a1 : (st.size : Int) > 40
    · rw [if_pos a1, decide_eq_false (by omega)]; rfl
    · rw [if_neg a1, val_printable_eq st k (by omega) (by omega)]
      simp only [Option.bind_some]
      cases hb : okB st with
      | false => simp
      | true =>
        simp only [if_true, Bool.and_true]
        congr 1
        rw [Bool.eq_iff_iff]; simp only [Bool.and_eq_true, beq_iff_eq, decide_eq_true_eq]; omega
  rw [if_neg h4, if_neg h4]
  by_cases h5 : kd = 5
  · rw [if_pos h5]
    subst h5
    simp only [val_Right.j0, beq_self_eq_true, if_true, Bool.true_and]
    by_cases a1 : (st.size : Int) > 40
    · rw [if_pos a1, decide_eq_false (by omega)]
    · rw [if_neg a1, if_neg (by decide)]
      congr 1
      rw [Bool.eq_iff_iff]; simp only [Bool.and_eq_true, beq_iff_eq, decide_eq_true_eq]; omega
  · rw [if_neg h5]
    simp only [val_Right.j0, show (kd == 5) = false from by simpa using h5]
    simp
theorem ref_Right_eq (k : Nat) (kd n sc : Int) (st : ByteArray) (hk : 42 < k) : federationref1_Right.f k kd n sc st = some (rightB kd n sc st) := by
  have hz : (st.size : Int) = (st.data.size : Int) := rfl
  unfold federationref1_Right.f rightB
  by_cases h0 : kd = 0
  · rw [if_pos h0, if_pos h0]; subst h0; simp [noS]
  rw [if_neg h0, if_neg h0]
  by_cases h1 : kd = 1
  · rw [if_pos h1, if_pos h1]
    by_cases a1 : n ≥ 0
    · rw [if_pos a1]
      by_cases a2 : n ≤ 1
      · rw [if_pos a2, decide_eq_true (by omega)]
        by_cases a3 : sc = 0
        · rw [if_pos a3]; subst a3; simp [noS]
        · rw [if_neg a3]; simp [a3]
      · rw [if_neg a2, decide_eq_false (by omega)]; rfl
    · rw [if_neg a1, decide_eq_false (by omega)]; rfl
  rw [if_neg h1, if_neg h1]
  by_cases h2 : kd = 2
  · rw [if_pos h2, if_pos h2]
    by_cases a3 : sc = 0
    · rw [if_pos a3]; subst a3; simp [noS]
    · rw [if_neg a3]; simp [a3]
  rw [if_neg h2, if_neg h2]
  by_cases h3 : kd = 3
  · rw [if_pos h3, if_pos h3]
    have ht := tmod10 n
    by_cases a1 : n > -1000000000000000
    · rw [if_pos a1]
      by_cases a2 : n < 1000000000000000
      · rw [if_pos a2]
        by_cases a3 : sc ≥ 0
        · rw [if_pos a3]
          by_cases a4 : sc ≤ 6
          · rw [if_pos a4]
            by_cases a5 : sc = 0
            · rw [if_pos a5, decide_eq_true (by omega)]; rfl
            · rw [if_neg a5]
              by_cases a6 : Int.tmod n 10 = 0
              · rw [if_pos a6, decide_eq_false (by have := ht.1 a6; omega)]; rfl
              · have : n % 10 ≠ 0 := fun e => a6 (ht.2 e)
                rw [if_neg a6, decide_eq_true (by omega)]; rfl
          · rw [if_neg a4, decide_eq_false (by omega)]; rfl
        · rw [if_neg a3, decide_eq_false (by omega)]; rfl
      · rw [if_neg a2, decide_eq_false (by omega)]; rfl
    · rw [if_neg a1, decide_eq_false (by omega)]; rfl
  rw [if_neg h3, if_neg h3]
  by_cases h4 : kd = 4
  · rw [if_pos h4, if_pos h4]
    by_cases a1 : n = 0
    · rw [if_pos a1]
      by_cases a2 : sc = 0
      · rw [if_pos a2]
        by_cases a3 : (st.size : Int) ≤ 40
        · rw [if_pos a3, ref_clean_eq st k (by omega) (by omega), decide_eq_true (by omega)]; rfl
        · rw [if_neg a3, decide_eq_false (by omega)]; rfl
      · rw [if_neg a2, decide_eq_false (by omega)]; rfl
    · rw [if_neg a1, decide_eq_false (by omega)]; rfl
  rw [if_neg h4, if_neg h4]
  by_cases h5 : kd = 5
  · rw [if_pos h5, if_pos h5]
    by_cases a1 : n = 0
    · rw [if_pos a1]
      by_cases a2 : sc = 0
      · rw [if_pos a2]
        congr 1
        rw [Bool.eq_iff_iff]; simp only [decide_eq_true_eq]; omega
      · rw [if_neg a2, decide_eq_false (by omega)]
    · rw [if_neg a1, decide_eq_false (by omega)]
  · rw [if_neg h5, if_neg h5]
end Go.Proofs.Ytllkhdhanheieaa.V
namespace Go.Proofs.Ytllkhdhanheieaa.V
open Go.RowKit Go.Proofs.YtllkhdhanheieaaW.PrintWords Go.Proofs.YtllkhdhanheieaaW.PrintLast Go.Proofs.YtllkhdhanheieaaW.PrintMore
attribute [local go_sem] max2_int min2_int max_two min_two max_three min_three max_four min_four
attribute [local go_sem high] own_gtr own_leq own_geq own_cell_set Option.map_some fld23_1
set_option linter.unusedVariables false
set_option linter.unusedSimpArgs false
def I64 (x : Int) : Prop := -9223372036854775808 ≤ x ∧ x ≤ 9223372036854775807
end Go.Proofs.Ytllkhdhanheieaa.V
namespace Go.Proofs.Ytllkhdhanheieaa.V
open Go.RowKit Go.Proofs.YtllkhdhanheieaaW.PrintWords Go.Proofs.YtllkhdhanheieaaW.PrintLast Go.Proofs.YtllkhdhanheieaaW.PrintMore
attribute [local go_sem] max2_int min2_int max_two min_two max_three min_three max_four min_four
attribute [local go_sem high] own_gtr own_leq own_geq own_cell_set Option.map_some fld23_1
set_option linter.unusedVariables false
set_option linter.unusedSimpArgs false
structure RD (n : Int) (s : Nat) : Prop where
  lo : -1000000000000000 < n
  hi : n < 1000000000000000
  sc : s ≤ 6
  nm : s = 0 ∨ n % 10 ≠ 0
structure RV (kd n : Int) (s : Nat) : Prop where
  i : I64 n
  d : kd = 3 → RD n s
end Go.Proofs.Ytllkhdhanheieaa.V
namespace Go.Proofs.Ytllkhdhanheieaa.V
open Go.RowKit Go.Proofs.YtllkhdhanheieaaW.PrintWords Go.Proofs.YtllkhdhanheieaaW.PrintLast Go.Proofs.YtllkhdhanheieaaW.PrintMore
attribute [local go_sem] max2_int min2_int max_two min_two max_three min_three max_four min_four
attribute [local go_sem high] own_gtr own_leq own_geq own_cell_set Option.map_some fld23_1
set_option linter.unusedVariables false
set_option linter.unusedSimpArgs false
theorem within_eq (a n : Int) (ha : I64 a) (h0 : 0 < n) (h1 : n ≤ 4611686018427387904) : federationlaw1_within.f a n = some (a % n) := by
  unfold federationlaw1_within.f I64 at *
  rw [if_neg (by omega)]
  have e1 := Int.mul_tdiv_add_tmod a n
  have e2 := Int.mul_ediv_add_emod a n
  have e3 := Int.emod_lt_of_pos a h0
  have e4 := Int.emod_nonneg a (show n ≠ 0 by omega)
  have e5 := Int.tmod_lt_of_pos a h0
  have e6 := Int.tmod_lt_of_pos (-a) h0
  rw [Int.neg_tmod] at e6
  by_cases c : a.tmod n < 0
  · rw [if_pos c, wrap64_of (by omega) (by omega)]
    have := ((Int.ediv_emod_unique (a := a) (r := a.tmod n + n) (q := a.tdiv n - 1) h0).2 ⟨by rw [Int.mul_sub, Int.mul_one]; omega, by omega, by omega⟩).2
    rw [this]
  · rw [if_neg c]
    have := ((Int.ediv_emod_unique (a := a) (r := a.tmod n) (q := a.tdiv n) h0).2 ⟨by omega, by omega, by omega⟩).2
    rw [this]
theorem emod_bd (a n : Int) (h0 : 0 < n) : 0 ≤ a % n ∧ a % n < n := ⟨Int.emod_nonneg a (by omega), Int.emod_lt_of_pos a h0⟩
theorem RV_right {kd n : Int} {s : Nat} {st : ByteArray} (hn : I64 n) (h : rightB kd n (s : Int) st = true) : RV kd n s := by
  refine ⟨hn, fun e => ?_⟩
  subst e
  unfold rightB at h
  rw [if_neg (by decide), if_neg (by decide), if_neg (by decide), if_pos rfl, Bool.and_eq_true, decide_eq_true_eq] at h
  obtain ⟨⟨a, b, c, d, e⟩, _⟩ := h
  exact ⟨a, b, by omega, by omega⟩
theorem noS_empty : noS (⟨#[]⟩ : ByteArray) = true := by decide +kernel
theorem right_RD {n : Int} {s : Nat} (h : RD n s) : rightB 3 n (s : Int) (⟨#[]⟩ : ByteArray) = true := by
  unfold rightB
  rw [if_neg (by decide), if_neg (by decide), if_neg (by decide), if_pos rfl, noS_empty, Bool.and_true, decide_eq_true_eq]
  exact ⟨h.lo, h.hi, by omega, by have := h.sc; omega, by have := h.nm; omega⟩
theorem RD_red (n : Int) (s : Nat) (h0 : -1000000000000000 < n) (h1 : n < 1000000000000000) (hs : s ≤ 6) : RD (red n s).1 (red n s).2 := by
  have a := red_abs s n
  have b := red_scale s n
  have c := red_done s n
  exact ⟨by omega, by omega, by omega, c⟩
theorem mkText_size (st : ByteArray) : (mkText st).data.size ≤ 40 := by
  unfold mkText strOfNums
  simp [conv8L_length]
  omega
theorem mkText_ok (st : ByteArray) : okB (mkText st) = true := by
  unfold okB mkText strOfNums
  simp only [List.all_eq_true, decide_eq_true_eq, List.map_toArray, List.mem_map, conv8L]
  rintro b ⟨x, hx, rfl⟩
  obtain ⟨c, _, rfl⟩ := List.mem_map.1 (List.mem_of_mem_take hx)
  unfold conv8
  have h1 := emod_bd (c.toNat : Int) 95 (by decide)
  generalize (c.toNat : Int) % 95 = z at *
  have : ((32 + z).toNat % 256) = (32 + z).toNat := Nat.mod_eq_of_lt (by omega)
  simp only [UInt8.toNat_ofNat']
  omega
theorem extract_size (st : ByteArray) (j : Nat) : (st.extract 0 j).data.size = min j st.data.size := by
  rw [← Array.length_toList, Lib.extract_data]
  simp
structure Made (kd n : Int) (s : Nat) (st : ByteArray) : Prop where
  r : rightB kd n (s : Int) st = true
  v : RV kd n s
  sz : st.data.size ≤ 40
  k0 : 0 ≤ kd
  k5 : kd ≤ 5
  z : kd ≠ 3 → s = 0
theorem rd6 (a b c d e f : Int) (i : Int) (h0 : 0 ≤ i) (h1 : i < 6) : rd [a, b, c, d, e, f] i = a ∨ rd [a, b, c, d, e, f] i = b ∨ rd [a, b, c, d, e, f] i = c ∨ rd [a, b, c, d, e, f] i = d ∨ rd [a, b, c, d, e, f] i = e ∨ rd [a, b, c, d, e, f] i = f := by
  have : i = 0 ∨ i = 1 ∨ i = 2 ∨ i = 3 ∨ i = 4 ∨ i = 5 := by omega
  rcases this with rfl | rfl | rfl | rfl | rfl | rfl
  · exact Or.inl rfl
  · exact Or.inr (Or.inl rfl)
  · exact Or.inr (Or.inr (Or.inl rfl))
  · exact Or.inr (Or.inr (Or.inr (Or.inl rfl)))
  · exact Or.inr (Or.inr (Or.inr (Or.inr (Or.inl rfl))))
  · exact Or.inr (Or.inr (Or.inr (Or.inr (Or.inr rfl))))
theorem rd8 (a b c d e f g h : Int) (P : Int → Prop) (pa : P a) (pb : P b) (pc : P c) (pd : P d) (pe : P e) (pf : P f) (pg : P g) (ph : P h) (i : Int) (h0 : 0 ≤ i) (h1 : i < 8) : P (rd [a, b, c, d, e, f, g, h] i) := by
  have : i = 0 ∨ i = 1 ∨ i = 2 ∨ i = 3 ∨ i = 4 ∨ i = 5 ∨ i = 6 ∨ i = 7 := by omega
  rcases this with rfl | rfl | rfl | rfl | rfl | rfl | rfl | rfl
  · exact pa
  · exact pb
  · exact pc
  · exact pd
  · exact pe
  · exact pf
  · exact pg
  · exact ph
theorem I64_tdiv (a b : Int) (ha : I64 a) (hb : 2 ≤ b) : I64 (wrap64 (a.tdiv b)) ∧ wrap64 (a.tdiv b) = a.tdiv b := by
  have h := Int.natAbs_tdiv_le_natAbs a b
  have h2 : (a.tdiv b).natAbs ≤ 4611686018427387904 := by
    rw [Int.natAbs_tdiv]
    have h1 : a.natAbs ≤ 9223372036854775808 := by unfold I64 at ha; omega
    exact Nat.le_trans (Nat.div_le_div_left (show 2 ≤ b.natAbs by omega) (by decide)) (by have := Nat.div_le_div_right (c := 2) h1; simpa using this)
  have e : wrap64 (a.tdiv b) = a.tdiv b := wrap64_of (by omega) (by omega)
  rw [e]
  exact ⟨⟨by omega, by omega⟩, rfl⟩
theorem Make_eq (kind n : Int) (st : ByteArray) (hk : I64 kind) (hn : I64 n) (hs : st.size ≤ 140737488351232) :
    ∃ n' s' st', (∀ k, 60 < k → federationlaw1_Make.f k kind n st = some (kind % 6, n', ((s' : Nat) : Int), st')) ∧ Made (kind % 6) n' s' st' := by
  have hk6 := within_eq kind 6 hk (by decide) (by decide)
  have hb := emod_bd kind 6 (by decide)
  have hd := I64_tdiv kind 6 hk (by decide)
  have hd2 := I64_tdiv kind 36 hk (by decide)
  have h0 : I64 0 := ⟨by decide, by decide⟩
  have em : (⟨#[]⟩ : ByteArray).data.size ≤ 40 := by decide
  have c : kind % 6 = 0 ∨ kind % 6 = 1 ∨ kind % 6 = 2 ∨ kind % 6 = 3 ∨ kind % 6 = 4 ∨ kind % 6 = 5 := by omega
  rcases c with c | c | c | c | c | c
  · have hr : rightB (kind % 6) 0 ((0 : Nat) : Int) (⟨#[]⟩ : ByteArray) = true := by rw [c]; decide +kernel
    refine ⟨0, 0, _, fun k _ => ?_, ⟨hr, RV_right h0 hr, em, hb.1, by omega, fun _ => rfl⟩⟩
    unfold federationlaw1_Make.f federationlaw1_Make_p.f
    rw [hk6, c, if_neg (by decide), Option.bind_some, if_neg (by decide), if_neg (by decide), if_neg (by decide), if_neg (by decide), if_neg (by decide)]
    rfl
  · have hw := within_eq n 2 hn (by decide) (by decide)
    have hm := emod_bd n 2 (by decide)
    have hr : rightB (kind % 6) (n % 2) ((0 : Nat) : Int) (⟨#[]⟩ : ByteArray) = true := by
      rw [c]; unfold rightB; rw [if_neg (by decide), if_pos rfl, noS_empty, decide_eq_true (by omega)]; rfl
    refine ⟨n % 2, 0, _, fun k _ => ?_, ⟨hr, RV_right ⟨by omega, by omega⟩ hr, em, hb.1, by omega, fun _ => rfl⟩⟩
    unfold federationlaw1_Make.f federationlaw1_Make_p.f
    rw [hk6, c, if_neg (by decide), Option.bind_some, if_pos rfl, hw, Option.bind_some]
    rfl
  · have hw := within_eq n 100 hn (by decide) (by decide)
    have hm := emod_bd n 100 (by decide)
    have hi := within_eq (wrap64 (Int.tdiv kind 6)) 8 hd.1 (by decide) (by decide)
    have hj := emod_bd (wrap64 (Int.tdiv kind 6)) 8 (by decide)
    generalize hz : wrap64 (Int.tdiv kind 6) % 8 = j at hi hj
    have hrd : I64 (rd [n, 0, 1, -1, 9223372036854775807, -9223372036854775808, wrap64 (n % 100 - 50), 7] j) := by
      rw [wrap64_of (by omega) (by omega)]
      exact rd8 _ _ _ _ _ _ _ _ I64 hn ⟨by decide, by decide⟩ ⟨by decide, by decide⟩ ⟨by decide, by decide⟩ ⟨by decide, by decide⟩ ⟨by decide, by decide⟩ ⟨by omega, by omega⟩ ⟨by decide, by decide⟩ j hj.1 hj.2
    have hr : rightB (kind % 6) (rd [n, 0, 1, -1, 9223372036854775807, -9223372036854775808, wrap64 (n % 100 - 50), 7] j) ((0 : Nat) : Int) (⟨#[]⟩ : ByteArray) = true := by
      rw [c]; unfold rightB; rw [if_neg (by decide), if_neg (by decide), if_pos rfl, noS_empty]; rfl
    refine ⟨_, 0, _, fun k _ => ?_, ⟨hr, RV_right hrd hr, em, hb.1, by omega, fun _ => rfl⟩⟩
    unfold federationlaw1_Make.f federationlaw1_Make_p.f
    rw [hk6, c, if_neg (by decide), Option.bind_some, if_neg (by decide), if_pos rfl, hw, Option.bind_some, Option.bind_some, hi, Option.bind_some, if_pos hj.1, if_pos (by simp; omega)]
    rfl
  · have hw := within_eq n 2000 hn (by decide) (by decide)
    have hm := emod_bd n 2000 (by decide)
    have hw2 := within_eq n 50 hn (by decide) (by decide)
    have hm2 := emod_bd n 50 (by decide)
    have hi := within_eq (wrap64 (Int.tdiv kind 6)) 6 hd.1 (by decide) (by decide)
    have hj := emod_bd (wrap64 (Int.tdiv kind 6)) 6 (by decide)
    have hi2 := within_eq (wrap64 (Int.tdiv kind 36)) 7 hd2.1 (by decide) (by decide)
    have hj2 := emod_bd (wrap64 (Int.tdiv kind 36)) 7 (by decide)
    generalize hz : wrap64 (Int.tdiv kind 6) % 6 = j at hi hj
    generalize hz2 : wrap64 (Int.tdiv kind 36) % 7 = j2 at hi2 hj2
    have ht1 := Int.tmod_lt_of_pos n (show (0 : Int) < 1000000000000000 by decide)
    have ht2 := Int.tmod_lt_of_pos (-n) (show (0 : Int) < 1000000000000000 by decide)
    rw [Int.neg_tmod] at ht2
    have hx : -1000000000000000 < rd [Int.tmod n 1000000000000000, wrap64 (n % 2000 - 1000), 999999999999999, -999999999999999, 1, wrap64 (wrap64 (n % 50 * 1000) - 20000)] j ∧ rd [Int.tmod n 1000000000000000, wrap64 (n % 2000 - 1000), 999999999999999, -999999999999999, 1, wrap64 (wrap64 (n % 50 * 1000) - 20000)] j < 1000000000000000 := by
      have e1 : wrap64 (n % 2000 - 1000) = n % 2000 - 1000 := wrap64_of (by omega) (by omega)
      have e2 : wrap64 (n % 50 * 1000) = n % 50 * 1000 := wrap64_of (by omega) (by omega)
      have e3 : wrap64 (n % 50 * 1000 - 20000) = n % 50 * 1000 - 20000 := wrap64_of (by omega) (by omega)
      rw [e1, e2, e3]
      rcases rd6 (Int.tmod n 1000000000000000) (n % 2000 - 1000) 999999999999999 (-999999999999999) 1 (n % 50 * 1000 - 20000) j hj.1 hj.2 with h | h | h | h | h | h <;> rw [h] <;> omega
    obtain ⟨t, rfl⟩ : ∃ t : Nat, j2 = (t : Int) := ⟨j2.toNat, by omega⟩
    generalize hy : rd [Int.tmod n 1000000000000000, wrap64 (n % 2000 - 1000), 999999999999999, -999999999999999, 1, wrap64 (wrap64 (n % 50 * 1000) - 20000)] j = y at hx
    have hrd := RD_red y t hx.1 hx.2 (by omega)
    have hr := right_RD hrd
    rw [← c] at hr
    refine ⟨(red y t).1, (red y t).2, _, fun k hk => ?_, ⟨hr, RV_right ⟨by have := hrd.lo; omega, by have := hrd.hi; omega⟩ hr, em, hb.1, by omega, fun e => absurd c e⟩⟩
    unfold federationlaw1_Make.f federationlaw1_Make_p.f
    rw [hk6, c, if_neg (by decide), Option.bind_some, if_neg (by decide), if_neg (by decide), if_pos rfl, hw, Option.bind_some, hw2, Option.bind_some, Option.bind_some, hi, Option.bind_some, if_pos hj.1, if_pos (by simp; omega), hi2, Option.bind_some, hy, ref_Norm_eq k t y _ (by omega) (by omega) (by omega) (by omega), Option.bind_some]
  · have hr : rightB (kind % 6) 0 ((0 : Nat) : Int) (mkText st) = true := by
      have h1 := mkText_size st
      have h2 := mkText_ok st
      rw [c]; unfold rightB; rw [if_neg (by decide), if_neg (by decide), if_neg (by decide), if_neg (by decide), if_pos rfl, h2, decide_eq_true (by omega)]; rfl
    refine ⟨0, 0, _, fun k _ => ?_, ⟨hr, RV_right h0 hr, mkText_size st, hb.1, by omega, fun _ => rfl⟩⟩
    unfold federationlaw1_Make.f
    rw [hk6, c, if_pos rfl, if_pos hs]
    rfl
  · have hz : (st.size : Int) = (st.data.size : Int) := rfl
    have hm : mn (st.size : Int) 40 = ((min 40 st.data.size : Nat) : Int) := by unfold mn; split <;> omega
    have hr : rightB (kind % 6) 0 ((0 : Nat) : Int) (st.extract 0 (min 40 st.data.size)) = true := by
      have h1 := extract_size st (min 40 st.data.size)
      rw [c]; unfold rightB; rw [if_neg (by decide), if_neg (by decide), if_neg (by decide), if_neg (by decide), if_neg (by decide), if_pos rfl, decide_eq_true (by omega)]
    refine ⟨0, 0, _, fun k _ => ?_, ⟨hr, RV_right h0 hr, by rw [extract_size]; omega, hb.1, by omega, fun _ => rfl⟩⟩
    unfold federationlaw1_Make.f federationlaw1_Make_p.f
    rw [hk6, c, if_neg (by decide), Option.bind_some, if_neg (by decide), if_neg (by decide), if_neg (by decide), if_neg (by decide), if_pos rfl, hm, if_pos (by omega), if_pos (by omega)]
    rfl
end Go.Proofs.Ytllkhdhanheieaa.V
namespace Go.Proofs.Ytllkhdhanheieaa.V
open Go.RowKit Go.Proofs.YtllkhdhanheieaaW.PrintWords Go.Proofs.YtllkhdhanheieaaW.PrintLast Go.Proofs.YtllkhdhanheieaaW.PrintMore
attribute [local go_sem] max2_int min2_int max_two min_two max_three min_three max_four min_four
attribute [local go_sem high] own_gtr own_leq own_geq own_cell_set Option.map_some fld23_1
set_option linter.unusedVariables false
set_option linter.unusedSimpArgs false
theorem I64_of {x : Int} (h : (Lit.int .i64 x).wf = true) : I64 x := by
  have h1 : IntKind.i64.min = -9223372036854775808 := by decide
  have h2 : IntKind.i64.max = 9223372036854775807 := by decide
  simp only [Lit.wf, Bool.and_eq_true, decide_eq_true_eq, h1, h2] at h
  exact h
theorem known_two : federationlaw1_known.f 200 = some true := by decide +kernel
theorem known_ge {k : Nat} (h : 200 ≤ k) : federationlaw1_known.f k = some true := at_rounds federationlaw1_known.mono h known_two
end Go.Proofs.Ytllkhdhanheieaa.V
namespace Go.Proofs.Ytllkhdhanheieaa.V
open Go.RowKit Go.Proofs.YtllkhdhanheieaaW.PrintWords Go.Proofs.YtllkhdhanheieaaW.PrintLast Go.Proofs.YtllkhdhanheieaaW.PrintMore
attribute [local go_sem] max2_int min2_int max_two min_two max_three min_three max_four min_four
attribute [local go_sem high] own_gtr own_leq own_geq own_cell_set Option.map_some fld23_1
set_option linter.unusedVariables false
set_option linter.unusedSimpArgs false
theorem sizes_or {a b : ByteArray} (f : Bool → Option Bool) (h1 : f true = some true) (h2 : a.size ≤ 100 → b.size ≤ 100 → f false = some true) : (if (a.size : Int) > 100 then f true else f (decide ((b.size : Int) > 100))) = some true := by
  by_cases h : (a.size : Int) > 100
  · rw [if_pos h, h1]
  · rw [if_neg h]
    by_cases h' : (b.size : Int) > 100
    · rw [decide_eq_true h', h1]
    · rw [decide_eq_false h']; exact h2 (by omega) (by omega)
end Go.Proofs.Ytllkhdhanheieaa.V
namespace Go.Proofs.Ytllkhdhanheieaa.Pure
open Go.RowKit Go.Proofs.Ytllkhdhanheieaa.V Go.Proofs.YtllkhdhanheieaaW.PrintWords Go.Proofs.YtllkhdhanheieaaW.PrintLast Go.Proofs.YtllkhdhanheieaaW.PrintMore
theorem norm_l0_same : ∀ (k : Nat) (kd n sc : Int) (st : ByteArray), federationref1_Norm.l0 k kd n sc st = val_Norm.l0 k kd n sc st
  | 0, _, _, _, _ => rfl
  | k + 1, kd, n, sc, st => by
    simp only [federationref1_Norm.l0, val_Norm.l0]
    rw [norm_l0_same k]
theorem norm_l0_some (kd : Int) (st : ByteArray) : ∀ (j k : Nat) (n sc : Int), j < k → (n ≠ 0 ∨ sc ≤ 0) → n.natAbs < 10 ^ j → I64 n → I64 sc → ∃ r, val_Norm.l0 k kd n sc st = some r
  | 0, k, n, sc, hk, h0, hn, _, _ => by
    obtain ⟨k, rfl⟩ : ∃ m, k = m + 1 := ⟨k - 1, by omega⟩
    have hz : n = 0 := by rw [Nat.pow_zero] at hn; omega
    simp only [val_Norm.l0]
    by_cases c : kd = 3
    · rw [if_pos c, if_neg (by omega)]; exact ⟨_, rfl⟩
    · rw [if_neg c]; exact ⟨_, rfl⟩
  | j + 1, k, n, sc, hk, h0, hn, hi, hs => by
    obtain ⟨k, rfl⟩ : ∃ m, k = m + 1 := ⟨k - 1, by omega⟩
    simp only [val_Norm.l0]
    by_cases c : kd = 3
    · rw [if_pos c]
      by_cases c2 : sc > 0
      · rw [if_pos c2]
        by_cases c3 : n % 10 = 0
        · unfold I64 at hi hs
          rw [if_pos ((tmod10 n).2 c3), tdiv10 n c3, wrap64_of (by omega) (by omega), wrap64_of (by omega) (by omega)]
          rw [Nat.pow_succ] at hn
          exact norm_l0_some kd st j k (n / 10) (sc - 1) (by omega) (Or.inl (by omega)) (by omega) (by unfold I64; omega) (by unfold I64; omega)
        · rw [if_neg (fun e => c3 ((tmod10 n).1 e))]; exact ⟨_, rfl⟩
      · rw [if_neg c2]; exact ⟨_, rfl⟩
    · rw [if_neg c]; exact ⟨_, rfl⟩
theorem norm_any (k : Nat) (kd n sc : Int) (st : ByteArray) (hk : 30 < k) (hn : I64 n) (hs : I64 sc) : ∃ r, val_Norm.f k kd n sc st = some r ∧ federationref1_Norm.f k kd n sc st = some r := by
  obtain ⟨k, rfl⟩ : ∃ m, k = m + 2 := ⟨k - 2, by omega⟩
  unfold val_Norm.f federationref1_Norm.f
  have hb : n.natAbs < 10 ^ 20 := by
    unfold I64 at hn
    have : (10 : Nat) ^ 20 = 100000000000000000000 := by decide
    omega
  by_cases c : kd = 3
  · rw [if_pos c, if_pos c]
    simp only [val_Norm.j0, val_Norm.j1, federationref1_Norm.j0, federationref1_Norm.j1, norm_l0_same]
    by_cases z : n = 0
    · subst z
      have hm : mn sc 0 = if sc > 0 then 0 else sc := by unfold mn; split <;> (try split) <;> omega
      simp only [beq_self_eq_true, if_true]
      by_cases c2 : sc > 0
      · rw [if_pos c2, hm, if_pos c2]
        obtain ⟨r, hr⟩ := norm_l0_some kd st 20 k 0 0 (by omega) (Or.inr (by omega)) (by decide) hn (by unfold I64; omega)
        exact ⟨r, hr, hr⟩
      · rw [if_neg c2, hm, if_neg c2]
        obtain ⟨r, hr⟩ := norm_l0_some kd st 20 k 0 sc (by omega) (Or.inr (by omega)) (by decide) hn hs
        exact ⟨r, hr, by simpa using hr⟩
    · have zb : (n == 0) = false := by simpa using z
      obtain ⟨r, hr⟩ := norm_l0_some kd st 20 k n sc (by omega) (Or.inl z) hb hn hs
      simp only [zb, Bool.false_eq_true, if_false, ite_self]
      exact ⟨r, hr, hr⟩
  · rw [if_neg c, if_neg c]
    obtain ⟨k, rfl⟩ : ∃ m, k = m + 1 := ⟨k - 1, by omega⟩
    simp only [val_Norm.j0, val_Norm.j1, federationref1_Norm.j0, federationref1_Norm.j1, norm_l0_same, Bool.false_eq_true, if_false]
    refine ⟨(kd, n, sc, st), ?_, ?_⟩ <;> (simp only [val_Norm.l0]; rw [if_neg c])
theorem norm_other (k : Nat) (hk : 3 < k) (kd n sc : Int) (st : ByteArray) (c : kd ≠ 3) : val_Norm.f k kd n sc st = some (kd, n, sc, st) := by
  obtain ⟨k, rfl⟩ : ∃ m, k = m + 3 := ⟨k - 3, by omega⟩
  unfold val_Norm.f
  rw [if_neg c]
  simp only [val_Norm.j0, val_Norm.j1, val_Norm.l0]
  rw [if_neg (by decide), if_neg c]
theorem right_j2 (k : Nat) (hk : 60 < k) (rk rn rs : Int) (rt : ByteArray) (kd n sc : Int) (st : ByteArray) (h1 : I64 rn) (h2 : I64 rs) (h3 : I64 n) (h4 : I64 sc) : federationlaw1_ValRight.j2 k rk rn rs rt kd n sc st = some true := by
  obtain ⟨k, rfl⟩ : ∃ m, k = m + 1 := ⟨k - 1, by omega⟩
  obtain ⟨r, e1, e2⟩ := norm_any k kd n sc st (by omega) h3 h4
  obtain ⟨q, e3, e4⟩ := norm_any k rk rn rs rt (by omega) h1 h2
  simp only [federationlaw1_ValRight.j2]
  rw [val_Right_eq k kd n sc st (by omega), Option.bind_some, ref_Right_eq k kd n sc st (by omega), Option.bind_some, if_pos (by simp), val_Right_eq k rk rn rs rt (by omega), Option.bind_some, ref_Right_eq k rk rn rs rt (by omega), Option.bind_some, if_pos (by simp), e1, Option.bind_some, e2, Option.bind_some, if_pos (by simp), e3, Option.bind_some, e4, Option.bind_some]
  simp
theorem rd_all (P : Int → Prop) (h0 : P 0) (l : List Int) (hl : ∀ x ∈ l, P x) (i : Int) : P (rd l i) := by
  unfold rd
  rw [List.getD_eq_getElem?_getD]
  cases h : l[i.toNat]? with
  | none => exact h0
  | some x => exact hl x (List.mem_of_getElem? h)
theorem right_j1 (k : Nat) (hk : 80 < k) (s : ByteArray) (a4 a5 : Int) (rk rn rs : Int) (rt : ByteArray) (kd n : Int) (sc : Nat) (st : ByteArray) (i4 : I64 a4) (i5 : I64 a5) (h1 : I64 rn) (h2 : I64 rs) (m : Made kd n sc st) (hs : s.size ≤ 100) :
    federationlaw1_ValRight.j1 k s a4 a5 false rk rn rs rt kd n (sc : Int) st = some true := by
  obtain ⟨k, rfl⟩ : ∃ m, k = m + 1 := ⟨k - 1, by omega⟩
  have b4 := emod_bd a4 4 (by decide)
  have b9 := emod_bd a5 9 (by decide)
  have b6 := emod_bd a5 6 (by decide)
  have hz : st.size = st.data.size := rfl
  have hst := m.sz
  have hsc : I64 (sc : Int) := by
    by_cases c : kd = 3
    · have := (m.v.d c).sc; unfold I64; omega
    · have := m.z c; unfold I64; omega
  simp only [federationlaw1_ValRight.j1]
  rw [if_neg (by decide), within_eq a4 4 i4 (by decide) (by decide), Option.bind_some]
  have c : a4 % 4 = 0 ∨ a4 % 4 = 1 ∨ a4 % 4 = 2 ∨ a4 % 4 = 3 := by omega
  rcases c with c | c | c | c
  · rw [if_pos c, Option.bind_some, within_eq a5 9 i5 (by decide) (by decide), Option.bind_some, if_pos b9.1, if_pos (by simpa using b9.2)]
    exact right_j2 k (by omega) _ _ _ _ _ _ _ _ h1 h2 m.v.i hsc
  · rw [if_neg (by omega), if_pos c, Option.bind_some, within_eq a5 9 i5 (by decide) (by decide), Option.bind_some, if_pos b9.1, if_pos (by simpa using b9.2)]
    refine right_j2 k (by omega) _ _ _ _ _ _ _ _ h1 h2 (rd_all I64 (by unfold I64; omega) _ ?_ _) hsc
    intro x hx
    simp only [List.mem_cons, List.not_mem_nil, or_false] at hx
    rcases hx with rfl | rfl | rfl | rfl | rfl | rfl | rfl | rfl | rfl <;> first | exact i5 | (unfold I64; omega)
  · rw [if_neg (by omega), if_neg (by omega), if_pos c, Option.bind_some, within_eq a5 6 i5 (by decide) (by decide), Option.bind_some, if_pos b6.1, if_pos (by simpa using b6.2)]
    refine right_j2 k (by omega) _ _ _ _ _ _ _ _ h1 h2 m.v.i (rd_all I64 (by unfold I64; omega) _ ?_ _)
    intro x hx
    simp only [List.mem_cons, List.not_mem_nil, or_false] at hx
    rcases hx with rfl | rfl | rfl | rfl | rfl | rfl <;> first | exact i5 | (unfold I64; omega)
  · rw [if_neg (by omega), if_neg (by omega), if_neg (by omega), if_pos c, if_pos (by omega)]
    exact right_j2 k (by omega) _ _ _ _ _ _ _ _ h1 h2 m.v.i hsc
theorem ValRight (r0 r1 r2 : Int) (r3 : ByteArray) (a1 a2 : Int) (a3 : ByteArray) (a4 a5 : Int) (w1 : I64 r1) (w2 : I64 r2) (i1 : I64 a1) (i2 : I64 a2) (z3 : a3.size ≤ 140737488351232) (i4 : I64 a4) (i5 : I64 a5) : ∃ k, federationlaw1_ValRight.f k r0 r1 r2 r3 a1 a2 a3 a4 a5 = some true := by
  refine ⟨301, ?_⟩
  unfold federationlaw1_ValRight.f
  rw [known_ge (by decide), Option.bind_some, if_pos rfl]
  have hT : federationlaw1_ValRight.j0 (300 + 1) a1 a2 a3 a4 a5 true r0 r1 r2 r3 = some true := by
    simp only [federationlaw1_ValRight.j0]
    rw [if_pos trivial]
  refine sizes_or (fun b => federationlaw1_ValRight.j0 (300 + 1) a1 a2 a3 a4 a5 b r0 r1 r2 r3) hT fun y3 _ => ?_
  obtain ⟨n1, s1, t1, hm1, m1⟩ := Make_eq a1 a2 a3 i1 i2 z3
  show federationlaw1_ValRight.j0 (300 + 1) a1 a2 a3 a4 a5 false r0 r1 r2 r3 = some true
  simp only [federationlaw1_ValRight.j0]
  rw [if_neg (by decide), hm1 300 (by decide), Option.bind_some]
  dsimp only
  rw [val_Right_eq 300 _ n1 (s1 : Int) t1 (by decide), Option.bind_some, if_pos m1.r]
  have hN : val_Norm.f 300 (a1 % 6) n1 (s1 : Int) t1 = some (a1 % 6, n1, (s1 : Int), t1) := by
    by_cases c : a1 % 6 = 3
    · have d := m1.v.d c
      have := d.sc; have := d.lo; have := d.hi
      rw [c, val_Norm_eq 300 s1 n1 t1 (by omega) (by omega) (by omega) (by omega), red_same n1 s1 d.nm]
    · exact norm_other 300 (by decide) _ _ _ _ c
  rw [hN, Option.bind_some]
  dsimp only
  have e : (!(a1 % 6 == a1 % 6) || (!(n1 == n1) || (!((s1 : Int) == (s1 : Int)) || (!(t1.toList == t1.toList))))) = false := by simp
  rw [e]
  exact right_j1 300 (by decide) a3 a4 a5 r0 r1 r2 r3 _ n1 s1 t1 i4 i5 w1 w2 m1 y3
end Go.Proofs.Ytllkhdhanheieaa.Pure
