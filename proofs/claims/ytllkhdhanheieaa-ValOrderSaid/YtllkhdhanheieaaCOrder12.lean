-- Written by drive.py and pack.py (programs of this proof's own) through the kit's printer; not trusted: Lean checks it.
import Derived.Test.YtllkhdhanheieaaCOrder1
import Derived.Test.YtllkhdhanheieaaCOrder3
import Derived.Test.YtllkhdhanheieaaCOrder7
import Derived.Test.YtllkhdhanheieaaCOrder5
import Derived.Test.YtllkhdhanheieaaCOrder9
import Derived.Test.YtllkhdhanheieaaCOrder6
import Derived.Test.YtllkhdhanheieaaCOrder4
import Derived.Test.YtllkhdhanheieaaCOrder2
import Derived.Test.YtllkhdhanheieaaCOrder8
import Derived.Test.YtllkhdhanheieaaCOrder11
import Derived.Test.YtllkhdhanheieaaCOrder10
namespace Go.Proofs.Ytllkhdhanheieaa.U
open Go.RowKit Go.Proofs.YtllkhdhanheieaaW.PrintWords Go.Proofs.YtllkhdhanheieaaW.PrintLast Go.Proofs.YtllkhdhanheieaaW.PrintMore
attribute [local go_sem] max2_int min2_int max_two min_two max_three min_three max_four min_four
attribute [local go_sem high] own_gtr own_leq own_geq own_cell_set Option.map_some fld23_1
set_option linter.unusedVariables false
set_option linter.unusedSimpArgs false
theorem wrap64_of {x : Int} (h0 : -9223372036854775808 ≤ x) (h1 : x ≤ 9223372036854775807) : wrap64 x = x := by
  unfold wrap64; omega
def p10 (n : Nat) : Int := (10 : Int) ^ n
theorem p10_pos (n : Nat) : 0 < p10 n := Int.pow_pos (by decide)
theorem p10_succ (n : Nat) : p10 (n + 1) = p10 n * 10 := by unfold p10; rw [Int.pow_succ]
theorem p10_mono {m n : Nat} (h : m ≤ n) : p10 m ≤ p10 n := by
  induction h with
  | refl => exact Int.le_refl _
  | step _ ih => rw [p10_succ]; have := p10_pos m; omega
theorem p10_le (n : Nat) (h : n ≤ 18) : p10 n ≤ 1000000000000000000 := by
  have := p10_mono h
  have e : p10 18 = 1000000000000000000 := by decide
  omega
theorem p10_six : p10 6 = 1000000 := by decide
theorem p10_add (m n : Nat) : p10 (m + n) = p10 m * p10 n := by unfold p10; rw [Int.pow_add]
theorem val_ten_l0 : ∀ (d : Nat) (k i : Nat), d < k → i + d ≤ 18 → val_ten.l0 k (p10 i) ((i + d : Nat) : Int) (i : Int) = some (p10 (i + d))
  | 0, k, i, hk, h => by
    obtain ⟨k, rfl⟩ : ∃ m, k = m + 1 := ⟨k - 1, by omega⟩
    simp only [val_ten.l0]; rw [if_neg (by omega)]; rfl
  | d + 1, k, i, hk, h => by
    obtain ⟨k, rfl⟩ : ∃ m, k = m + 1 := ⟨k - 1, by omega⟩
    simp only [val_ten.l0]; rw [if_pos (by omega)]
    have h1 := p10_le (i + 1) (by omega)
    have h2 := p10_pos (i + 1)
    rw [← p10_succ, wrap64_of (by omega) (by omega), wrap64_of (by omega) (by omega)]
    have := val_ten_l0 d k (i + 1) (by omega) (by omega)
    rw [show i + 1 + d = i + (d + 1) by omega] at this
    exact this
theorem val_ten_eq (k n : Nat) (hk : 18 < k) (h : n ≤ 18) : val_ten.f k (n : Int) = some (p10 n) := by
  have := val_ten_l0 n k 0 (by omega) (by omega)
  rw [Nat.zero_add] at this
  exact this
theorem ref_Ten_l0 : ∀ (d : Nat) (k i : Nat), d < k → i + d ≤ 18 → federationref1_Ten.l0 k ((i + d : Nat) : Int) (p10 i) (i : Int) = some (p10 (i + d))
  | 0, k, i, hk, h => by
    obtain ⟨k, rfl⟩ : ∃ m, k = m + 1 := ⟨k - 1, by omega⟩
    simp only [federationref1_Ten.l0]; rw [if_neg (by omega)]; rfl
  | d + 1, k, i, hk, h => by
    obtain ⟨k, rfl⟩ : ∃ m, k = m + 1 := ⟨k - 1, by omega⟩
    simp only [federationref1_Ten.l0]; rw [if_pos (by omega)]
    have h1 := p10_le (i + 1) (by omega)
    have h2 := p10_pos (i + 1)
    rw [Int.mul_comm, ← p10_succ, wrap64_of (by omega) (by omega), wrap64_of (by omega) (by omega)]
    have := ref_Ten_l0 d k (i + 1) (by omega) (by omega)
    rw [show i + 1 + d = i + (d + 1) by omega] at this
    exact this
theorem ref_Ten_eq (k n : Nat) (hk : 18 < k) (h : n ≤ 18) : federationref1_Ten.f k (n : Int) = some (p10 n) := by
  have := ref_Ten_l0 n k 0 (by omega) (by omega)
  rw [Nat.zero_add] at this
  exact this
def red : Int → Nat → Int × Nat
  | n, 0 => (n, 0)
  | n, s + 1 => if n % 10 = 0 then red (n / 10) s else (n, s + 1)
theorem red_zero : ∀ s, red 0 s = (0, 0)
  | 0 => rfl
  | s + 1 => by simp only [red]; rw [if_pos (by decide)]; exact red_zero s
theorem red_scale : ∀ (s : Nat) (n : Int), (red n s).2 ≤ s
  | 0, _ => Nat.le_refl _
  | s + 1, n => by
    simp only [red]
    split
    · exact Nat.le_succ_of_le (red_scale s _)
    · exact Nat.le_refl _
theorem red_done : ∀ (s : Nat) (n : Int), (red n s).2 = 0 ∨ (red n s).1 % 10 ≠ 0
  | 0, _ => Or.inl rfl
  | s + 1, n => by
    simp only [red]
    split
    · exact red_done s _
    · rename_i h; exact Or.inr h
theorem red_abs : ∀ (s : Nat) (n : Int), (red n s).1.natAbs ≤ n.natAbs
  | 0, _ => Nat.le_refl _
  | s + 1, n => by
    simp only [red]
    split
    · exact Nat.le_trans (red_abs s _) (by omega)
    · exact Nat.le_refl _
theorem tmod10 (n : Int) : (Int.tmod n 10 = 0) ↔ n % 10 = 0 := by
  constructor
  · intro h; have := Int.dvd_of_tmod_eq_zero h; omega
  · intro h; exact Int.tmod_eq_zero_of_dvd (by omega)
theorem tdiv10 (n : Int) (h : n % 10 = 0) : Int.tdiv n 10 = n / 10 := by
  rw [Int.tdiv_eq_ediv]; split <;> omega
theorem ref_Norm_l0 (st : ByteArray) : ∀ (s k : Nat) (n : Int), s < k → s ≤ 9223372036854775807 → -9223372036854775808 ≤ n → n ≤ 9223372036854775807 → federationref1_Norm.l0 k 3 n (s : Int) st = some (3, (red n s).1, ((red n s).2 : Int), st)
  | 0, k, n, hk, _, _, _ => by
    obtain ⟨k, rfl⟩ : ∃ m, k = m + 1 := ⟨k - 1, by omega⟩
    simp only [federationref1_Norm.l0]; rw [if_pos trivial, if_neg (by omega)]; rfl
  | s + 1, k, n, hk, hs, h0, h1 => by
    obtain ⟨k, rfl⟩ : ∃ m, k = m + 1 := ⟨k - 1, by omega⟩
    simp only [federationref1_Norm.l0]; rw [if_pos trivial, if_pos (by omega)]
    simp only [red]
    by_cases h : n % 10 = 0
    · rw [if_pos ((tmod10 n).2 h), if_pos h, tdiv10 n h, wrap64_of (by omega) (by omega), wrap64_of (by omega) (by omega), show ((s + 1 : Nat) : Int) - 1 = (s : Int) by omega]
      exact ref_Norm_l0 st s k (n / 10) (by omega) (by omega) (by omega) (by omega)
    · rw [if_neg (fun e => h ((tmod10 n).1 e)), if_neg h]
theorem ref_Norm_eq (k s : Nat) (n : Int) (st : ByteArray) (hk : s + 2 < k) (hs : s ≤ 9223372036854775807) (h0 : -9223372036854775808 ≤ n) (h1 : n ≤ 9223372036854775807) : federationref1_Norm.f k 3 n (s : Int) st = some (3, (red n s).1, ((red n s).2 : Int), st) := by
  obtain ⟨k, rfl⟩ : ∃ m, k = m + 2 := ⟨k - 2, by omega⟩
  unfold federationref1_Norm.f
  rw [if_pos rfl]
  simp only [federationref1_Norm.j0, federationref1_Norm.j1]
  by_cases h : n = 0
  · subst h
    rw [red_zero]
    by_cases hs0 : (s : Int) > 0
    · rw [if_pos hs0]
      simp only [beq_self_eq_true, if_true]
      exact ref_Norm_l0 st 0 k 0 (by omega) (by omega) (by omega) (by omega)
    · rw [if_neg hs0, show (s : Int) = ((0 : Nat) : Int) by omega]
      simp only [Bool.false_eq_true, if_false]
      exact ref_Norm_l0 st 0 k 0 (by omega) (by omega) (by omega) (by omega)
  · have hl := ref_Norm_l0 st s k n (by omega) hs h0 h1
    by_cases hs0 : (s : Int) > 0
    · rw [if_pos hs0, if_neg (by simpa using h)]; exact hl
    · rw [if_neg hs0]; simp only [Bool.false_eq_true, if_false]; exact hl
end Go.Proofs.Ytllkhdhanheieaa.U
namespace Go.Proofs.Ytllkhdhanheieaa.U
open Go.RowKit Go.Proofs.YtllkhdhanheieaaW.PrintWords Go.Proofs.YtllkhdhanheieaaW.PrintLast Go.Proofs.YtllkhdhanheieaaW.PrintMore
attribute [local go_sem] max2_int min2_int max_two min_two max_three min_three max_four min_four
attribute [local go_sem high] own_gtr own_leq own_geq own_cell_set Option.map_some fld23_1
set_option linter.unusedVariables false
set_option linter.unusedSimpArgs false
def cmpI (a b : Int) : Int := if a < b then -1 else if b < a then 1 else 0
def cmpT (a b : ByteArray) : Int := if Op.bytesLess a.toList b.toList = true then -1 else if Op.bytesLess b.toList a.toList = true then 1 else 0
theorem cmpB_eq : ∀ a b : List UInt8, Lib.compareBytes a b = if Op.bytesLess a b = true then -1 else if Op.bytesLess b a = true then 1 else 0
  | [], [] => rfl
  | [], _ :: _ => rfl
  | _ :: _, [] => rfl
  | x :: a, y :: b => by
    simp only [Lib.compareBytes, Op.bytesLess]
    have ih := cmpB_eq a b
    by_cases h1 : x < y
    · simp [h1]
    · by_cases h2 : y < x
      · have h3 : ¬ x = y := by rintro rfl; exact h1 h2
        simp [h1, h2, h3]
      · have h3 : x = y := by
          apply UInt8.toNat_inj.1
          rw [UInt8.lt_iff_toNat_lt] at *; omega
        subst h3
        simp [h1, ih]
theorem strings_Compare_eq (a b : ByteArray) : strings_Compare.f a b = some (cmpT a b) := by
  unfold strings_Compare.f cmpT
  rw [cmpB_eq, ByteArray.toList_eq, ByteArray.toList_eq]
theorem bytesLess_irrefl : ∀ a : List UInt8, Op.bytesLess a a = false
  | [] => rfl
  | x :: a => by simp [Op.bytesLess, bytesLess_irrefl a]
theorem bytesLess_trans : ∀ a b c : List UInt8, Op.bytesLess a b = true → Op.bytesLess b c = true → Op.bytesLess a c = true
  | _, [], _, h, _ => by cases ‹List UInt8› <;> simp [Op.bytesLess] at h
  | _, _ :: _, [], _, h => by simp [Op.bytesLess] at h
  | [], _ :: _, _ :: _, _, _ => by simp [Op.bytesLess]
  | x :: a, y :: b, z :: c, h, k => by
    simp only [Op.bytesLess, Bool.or_eq_true, Bool.and_eq_true, decide_eq_true_eq, beq_iff_eq] at *
    rcases h with h | ⟨rfl, h⟩
    · rcases k with k | ⟨rfl, k⟩
      · left; rw [UInt8.lt_iff_toNat_lt] at *; omega
      · exact Or.inl h
    · rcases k with k | ⟨rfl, k⟩
      · exact Or.inl k
      · exact Or.inr ⟨rfl, bytesLess_trans a b c h k⟩
theorem bytesLess_total (a b : List UInt8) : Op.bytesLess a b = true ∨ a = b ∨ Op.bytesLess b a = true := by
  have := bytesLess_swap a b
  cases h : Op.bytesLess a b with
  | true => exact Or.inl rfl
  | false =>
    rw [h, Bool.false_or] at this
    by_cases e : a = b
    · exact Or.inr (Or.inl e)
    · right; right; rw [this]; simpa using e
theorem bytesLess_asymm (a b : List UInt8) (h : Op.bytesLess a b = true) : Op.bytesLess b a = false := by
  have := bytesLess_swap a b
  rw [h] at this
  simpa using this
def mic (n sc : Int) : Int := n * p10 (6 - sc.toNat)
def ordB (k1 n1 s1 : Int) (t1 : ByteArray) (k2 n2 s2 : Int) (t2 : ByteArray) : Int :=
  if k1 = k2 then (if k1 = 1 ∨ k1 = 2 then cmpI n1 n2 else if k1 = 3 then cmpI (mic n1 s1) (mic n2 s2) else cmpT t1 t2) else cmpI k1 k2
theorem cmp_eq (a b : Int) : cmp_Compare_int.f a b = some (cmpI a b) := by
  unfold cmp_Compare_int.f cmp_isNaN_int.f cmpI
  simp only [Option.bind_some, bne_self_eq_false, Bool.false_eq_true, if_false]
  by_cases h : a < b
  · rw [if_pos h, if_pos h]
  · rw [if_neg h, if_neg h]
    by_cases h2 : b < a
    · rw [if_pos h2, if_pos h2]
    · rw [if_neg h2, if_neg h2]
theorem ref_order_eq (a b : Int) : federationref1_order.f a b = some (cmpI a b) := by
  unfold federationref1_order.f cmpI
  by_cases h : a < b
  · rw [if_pos h, if_pos h]
  · rw [if_neg h, if_neg h]
    by_cases h2 : b < a
    · rw [if_pos h2, if_pos h2]
    · rw [if_neg h2, if_neg h2]
theorem ref_texts_eq (a b : ByteArray) : federationref1_texts.f a b = some (cmpT a b) := by
  unfold federationref1_texts.f cmpT
  by_cases h : Op.bytesLess a.toList b.toList = true
  · rw [if_pos h, if_pos h]
  · rw [if_neg h, if_neg h]
    by_cases h2 : Op.bytesLess b.toList a.toList = true
    · rw [if_pos h2, if_pos h2]
    · rw [if_neg h2, if_neg h2]
theorem cmpI_congr {a b c d : Int} (h : c < d ↔ a < b) (k : d < c ↔ b < a) : cmpI c d = cmpI a b := by
  unfold cmpI; simp only [h, k]
theorem parts_order {a b : Int} (q : Int) (hq : 0 < q) : (if cmpI (a.tdiv q) (b.tdiv q) = 0 then cmpI (a.tmod q) (b.tmod q) else cmpI (a.tdiv q) (b.tdiv q)) = cmpI a b := by
  have ha := Int.mul_tdiv_add_tmod a q
  have hb := Int.mul_tdiv_add_tmod b q
  have a1 := Int.tmod_lt_of_pos a hq
  have b1 := Int.tmod_lt_of_pos b hq
  have a2 : a.tmod q = -((-a).tmod q) := by rw [Int.neg_tmod]; omega
  have b2 : b.tmod q = -((-b).tmod q) := by rw [Int.neg_tmod]; omega
  have a3 := Int.tmod_lt_of_pos (-a) hq
  have b3 := Int.tmod_lt_of_pos (-b) hq
  have a4 : 0 ≤ a → 0 ≤ a.tmod q := fun h => Int.tmod_nonneg _ h
  have b4 : 0 ≤ b → 0 ≤ b.tmod q := fun h => Int.tmod_nonneg _ h
  have a5 : 0 ≤ -a → 0 ≤ (-a).tmod q := fun h => Int.tmod_nonneg _ h
  have b5 : 0 ≤ -b → 0 ≤ (-b).tmod q := fun h => Int.tmod_nonneg _ h
  have a6 : 0 ≤ a → 0 ≤ a.tdiv q := fun h => Int.tdiv_nonneg h (by omega)
  have b6 : 0 ≤ b → 0 ≤ b.tdiv q := fun h => Int.tdiv_nonneg h (by omega)
  have a7 : 0 ≤ -a → 0 ≤ -(a.tdiv q) := fun h => by rw [← Int.neg_tdiv]; exact Int.tdiv_nonneg h (by omega)
  have b7 : 0 ≤ -b → 0 ≤ -(b.tdiv q) := fun h => by rw [← Int.neg_tdiv]; exact Int.tdiv_nonneg h (by omega)
  generalize a.tdiv q = u at *
  generalize b.tdiv q = v at *
  generalize a.tmod q = c at *
  generalize b.tmod q = d at *
  generalize (-a).tmod q = e at *
  generalize (-b).tmod q = f at *
  rcases Int.lt_trichotomy u v with h | h | h
  · have h1 : q * u + q ≤ q * v := by
      have := Int.mul_le_mul_of_nonneg_left (show u + 1 ≤ v by omega) (show 0 ≤ q by omega)
      rw [Int.mul_add, Int.mul_one] at this; exact this
    have : cmpI u v = -1 := by unfold cmpI; rw [if_pos h]
    rw [if_neg (by rw [this]; decide), this]
    unfold cmpI
    by_cases ha0 : 0 ≤ a
    · by_cases hb0 : 0 ≤ b
      · rw [if_pos (by omega)]
      · have := b7 (by omega); have := a6 ha0; omega
    · rw [if_pos (by by_cases hb0 : 0 ≤ b <;> omega)]
  · subst h
    have : cmpI u u = 0 := by unfold cmpI; rw [if_neg (Int.lt_irrefl _), if_neg (Int.lt_irrefl _)]
    rw [if_pos this]
    clear this
    obtain ⟨m, hm⟩ : ∃ m, m = q * u := ⟨_, rfl⟩
    rw [← hm] at ha hb
    exact cmpI_congr (by omega) (by omega)
  · have h1 : q * v + q ≤ q * u := by
      have := Int.mul_le_mul_of_nonneg_left (show v + 1 ≤ u by omega) (show 0 ≤ q by omega)
      rw [Int.mul_add, Int.mul_one] at this; exact this
    have : cmpI u v = 1 := by unfold cmpI; rw [if_neg (by omega), if_pos h]
    rw [if_neg (by rw [this]; decide), this]
    unfold cmpI
    by_cases hb0 : 0 ≤ b
    · by_cases ha0 : 0 ≤ a
      · rw [if_neg (by omega), if_pos (by omega)]
      · have := a7 (by omega); have := b6 hb0; omega
    · rw [if_neg (by by_cases ha0 : 0 ≤ a <;> omega), if_pos (by by_cases ha0 : 0 ≤ a <;> omega)]
theorem parts_order' {a b : Int} (q : Int) (hq : 0 < q) : (if cmpI (a / q) (b / q) = 0 then cmpI (a % q) (b % q) else cmpI (a / q) (b / q)) = cmpI a b := by
  have ha := Int.mul_ediv_add_emod a q
  have hb := Int.mul_ediv_add_emod b q
  have a1 := Int.emod_lt_of_pos a hq
  have b1 := Int.emod_lt_of_pos b hq
  have a4 := Int.emod_nonneg a (show q ≠ 0 by omega)
  have b4 := Int.emod_nonneg b (show q ≠ 0 by omega)
  generalize a / q = u at *
  generalize b / q = v at *
  generalize a % q = c at *
  generalize b % q = d at *
  rcases Int.lt_trichotomy u v with h | h | h
  · have h1 : q * u + q ≤ q * v := by
      have := Int.mul_le_mul_of_nonneg_left (show u + 1 ≤ v by omega) (show 0 ≤ q by omega)
      rw [Int.mul_add, Int.mul_one] at this; exact this
    have : cmpI u v = -1 := by unfold cmpI; rw [if_pos h]
    rw [if_neg (by rw [this]; decide), this]
    unfold cmpI
    rw [if_pos (by omega)]
  · subst h
    have : cmpI u u = 0 := by unfold cmpI; rw [if_neg (Int.lt_irrefl _), if_neg (Int.lt_irrefl _)]
    rw [if_pos this]
    clear this
    obtain ⟨m, hm⟩ : ∃ m, m = q * u := ⟨_, rfl⟩
    rw [← hm] at ha hb
    exact cmpI_congr (by omega) (by omega)
  · have h1 : q * v + q ≤ q * u := by
      have := Int.mul_le_mul_of_nonneg_left (show v + 1 ≤ u by omega) (show 0 ≤ q by omega)
      rw [Int.mul_add, Int.mul_one] at this; exact this
    have : cmpI u v = 1 := by unfold cmpI; rw [if_neg (by omega), if_pos h]
    rw [if_neg (by rw [this]; decide), this]
    unfold cmpI
    rw [if_neg (by omega), if_pos (by omega)]
theorem or_eq (a b : Int) (k : Nat) (hk : 2 < k) : cmp_Or_int.f k [a, b] = some (if a = 0 then b else a) := by
  obtain ⟨k, rfl⟩ : ∃ m, k = m + 3 := ⟨k - 3, by omega⟩
  unfold cmp_Or_int.f
  have e0 : rd [a, b] 0 = a := rfl
  have e1 : rd [a, b] 1 = b := rfl
  simp only [List.length_cons, List.length_nil, cmp_Or_int.l0]
  rw [if_pos (by omega), if_pos (by omega), if_pos (by omega), e0, wrap64_of (by omega) (by omega)]
  by_cases h : a = 0
  · rw [if_pos h, if_pos h, if_pos (by omega), if_pos (by omega), if_pos (by omega), show (0 : Int) + 1 = 1 from rfl, e1, wrap64_of (by omega) (by omega)]
    by_cases h2 : b = 0
    · rw [if_pos h2, if_neg (by omega), h2]
    · rw [if_neg h2]
  · rw [if_neg h, if_neg h]
theorem p10_six_sub (s : Nat) (h : s ≤ 6) : p10 s * p10 (6 - s) = 1000000 := by
  rw [← p10_add, show s + (6 - s) = 6 by omega, p10_six]
theorem val_whole_eq (k : Nat) (kd n : Int) (s : Nat) (st : ByteArray) (hk : 18 < k) (hs : s ≤ 6) (h0 : -1000000000000000 < n) (h1 : n < 1000000000000000) : val_whole.f k kd n (s : Int) st = some (n.tdiv (p10 s)) := by
  unfold val_whole.f
  have e : mn (mx (s : Int) 0) 6 = (s : Int) := by unfold mn mx; split <;> split <;> omega
  rw [e, val_ten_eq k s hk (by omega)]
  simp only [Option.bind_some]
  have := p10_pos s
  rw [if_neg (by omega)]
  have h2 := Int.natAbs_tdiv_le_natAbs n (p10 s)
  rw [wrap64_of (by omega) (by omega)]
theorem tdiv_pows (s : Nat) (hs : s ≤ 6) : Int.tdiv (p10 6) (p10 s) = p10 (6 - s) := by
  have h := p10_six_sub s hs
  rw [p10_six, ← h, Int.mul_comm, Int.mul_tdiv_cancel _ (by have := p10_pos s; omega)]
theorem val_part_eq (k : Nat) (kd n : Int) (s : Nat) (st : ByteArray) (hk : 18 < k) (hs : s ≤ 6) (h0 : -1000000000000000 < n) (h1 : n < 1000000000000000) : val_part.f k kd n (s : Int) st = some (n.tmod (p10 s) * p10 (6 - s)) := by
  unfold val_part.f
  have e : mn (mx (s : Int) 0) 6 = (s : Int) := by unfold mn mx; split <;> split <;> omega
  rw [e, val_ten_eq k s hk (by omega)]
  simp only [Option.bind_some]
  have hp := p10_pos s
  rw [if_neg (by omega), show (6 : Int) = ((6 : Nat) : Int) from rfl, val_ten_eq k 6 hk (by omega)]
  simp only [Option.bind_some]
  rw [tdiv_pows s hs]
  have hq := p10_pos (6 - s)
  have hq2 := p10_le (6 - s) (by omega)
  rw [wrap64_of (x := p10 (6 - s)) (by omega) (by omega)]
  have h6 := p10_six_sub s hs
  have b1 : (n.tmod (p10 s)).natAbs ≤ n.natAbs := by rw [Int.natAbs_tmod]; exact Nat.mod_le _ _
  have b2 := Int.tmod_lt_of_pos n hp
  have b3 := Int.tmod_lt_of_pos (-n) hp
  rw [Int.neg_tmod] at b3
  have b4 : n.tmod (p10 s) * p10 (6 - s) ≤ p10 s * p10 (6 - s) := Int.mul_le_mul_of_nonneg_right (by omega) (by omega)
  have b5 : -(n.tmod (p10 s)) * p10 (6 - s) ≤ p10 s * p10 (6 - s) := Int.mul_le_mul_of_nonneg_right (by omega) (by omega)
  rw [Int.neg_mul] at b5
  rw [wrap64_of (by omega) (by omega)]
theorem mic_tdiv (n : Int) (s : Nat) (hs : s ≤ 6) : (n * p10 (6 - s)).tdiv 1000000 = n.tdiv (p10 s) := by
  rw [← p10_six_sub s hs]; exact Int.mul_tdiv_mul_of_pos_left _ _ (p10_pos _)
theorem mic_tmod (n : Int) (s : Nat) (hs : s ≤ 6) : (n * p10 (6 - s)).tmod 1000000 = n.tmod (p10 s) * p10 (6 - s) := by
  have h1 := Int.mul_tdiv_add_tmod (n * p10 (6 - s)) 1000000
  have h2 := Int.mul_tdiv_add_tmod n (p10 s)
  rw [mic_tdiv n s hs] at h1
  have h3 : (p10 s * n.tdiv (p10 s) + n.tmod (p10 s)) * p10 (6 - s) = n * p10 (6 - s) := by rw [h2]
  rw [Int.add_mul, Int.mul_assoc, Int.mul_comm (n.tdiv (p10 s)), ← Int.mul_assoc, p10_six_sub s hs] at h3
  omega
theorem val_Order_eq (k : Nat) (k1 n1 : Int) (s1 : Nat) (t1 : ByteArray) (k2 n2 : Int) (s2 : Nat) (t2 : ByteArray) (hk : 42 < k) (h1 : k1 = 3 → s1 ≤ 6 ∧ -1000000000000000 < n1 ∧ n1 < 1000000000000000) (h2 : k2 = 3 → s2 ≤ 6 ∧ -1000000000000000 < n2 ∧ n2 < 1000000000000000) :
    val_Order.f k k1 n1 (s1 : Int) t1 k2 n2 (s2 : Int) t2 = some (ordB k1 n1 (s1 : Int) t1 k2 n2 (s2 : Int) t2) := by
  obtain ⟨k, rfl⟩ : ∃ m, k = m + 1 := ⟨k - 1, by omega⟩
  unfold val_Order.f ordB
  by_cases e : k1 = k2
  · rw [if_pos e, if_pos e]
    by_cases e1 : k1 = 1
    · rw [if_pos e1, if_pos (Or.inl e1)]
      simp only [val_Order.j0, if_true, api_Value_both__val_number.f, val_number.f, val_order.f, Option.bind_some, cmp_eq]
    · rw [if_neg e1]
      simp only [val_Order.j0]
      by_cases e2 : k1 = 2
      · rw [if_pos (by simpa using e2), if_pos (Or.inr e2)]
        simp only [api_Value_both__val_number.f, val_number.f, val_order.f, Option.bind_some, cmp_eq]
      · rw [if_neg (by simpa using e2), if_neg (show ¬(k1 = 1 ∨ k1 = 2) by omega)]
        by_cases e3 : k1 = 3
        · rw [if_pos e3, if_pos e3]
          obtain ⟨a1, a2, a3⟩ := h1 e3
          obtain ⟨b1, b2, b3⟩ := h2 (by omega)
          simp only [api_Value_both__val_whole.f, api_Value_both__val_part.f, val_whole_eq k _ n1 s1 _ (by omega) a1 a2 a3, val_whole_eq k _ n2 s2 _ (by omega) b1 b2 b3, val_part_eq k _ n1 s1 _ (by omega) a1 a2 a3, val_part_eq k _ n2 s2 _ (by omega) b1 b2 b3, Option.bind_some, val_order.f, cmp_eq, or_eq _ _ k (by omega)]
          unfold mic
          have hp := parts_order (a := n1 * p10 (6 - s1)) (b := n2 * p10 (6 - s2)) 1000000 (by decide)
          rw [mic_tdiv n1 s1 a1, mic_tdiv n2 s2 b1, mic_tmod n1 s1 a1, mic_tmod n2 s2 b1] at hp
          simp only [Int.toNat_natCast]
          rw [hp]
        · rw [if_neg e3, if_neg e3, strings_Compare_eq]; rfl
  · rw [if_neg e, if_neg e, cmp_eq]; rfl
theorem ref_Parts_eq (k : Nat) (kd n : Int) (s : Nat) (st : ByteArray) (hk : 18 < k) (hs : s ≤ 6) (h0 : -1000000000000000 < n) (h1 : n < 1000000000000000) : federationref1_Parts.f k kd n (s : Int) st = some (n / p10 s, n % p10 s * p10 (6 - s)) := by
  unfold federationref1_Parts.f
  have hp := p10_pos s
  have hp2 := p10_le s (by omega)
  have hq := p10_pos (6 - s)
  have hq2 := p10_le (6 - s) (by omega)
  have h6 := p10_six_sub s hs
  have b1 := Int.emod_lt_of_pos n hp
  have b2 := Int.emod_nonneg n (show p10 s ≠ 0 by omega)
  have b4 : n % p10 s * p10 (6 - s) ≤ p10 s * p10 (6 - s) := Int.mul_le_mul_of_nonneg_right (by omega) (by omega)
  have b5 : 0 ≤ n % p10 s * p10 (6 - s) := Int.mul_nonneg b2 (by omega)
  have h2 := Int.mul_ediv_add_emod n (p10 s)
  have h3 := Int.mul_tdiv_add_tmod n (p10 s)
  have h4 := Int.natAbs_tdiv_le_natAbs n (p10 s)
  have b6 := Int.tmod_lt_of_pos n hp
  have b7 := Int.tmod_lt_of_pos (-n) hp
  rw [Int.neg_tmod] at b7
  rw [ref_Ten_eq k s hk (by omega)]
  simp only [Option.bind_some]
  rw [if_neg (by omega), show (6 : Int) - (s : Int) = ((6 - s : Nat) : Int) by omega]
  rw [wrap64_of (x := ((6 - s : Nat) : Int)) (by omega) (by omega), ref_Ten_eq k (6 - s) hk (by omega)]
  simp only [Option.bind_some]
  have hfl : n / p10 s = if n.tmod (p10 s) < 0 then n.tdiv (p10 s) - 1 else n.tdiv (p10 s) := by
    split
    · exact ((Int.ediv_emod_unique (r := n.tmod (p10 s) + p10 s) (q := n.tdiv (p10 s) - 1) hp).2 ⟨by rw [Int.mul_sub, Int.mul_one]; omega, by omega, by omega⟩).1
    · exact ((Int.ediv_emod_unique (r := n.tmod (p10 s)) (q := n.tdiv (p10 s)) hp).2 ⟨by omega, by omega, by omega⟩).1
  by_cases hn : n.tmod (p10 s) < 0
  · rw [if_pos hn]
    rw [if_pos hn] at hfl
    have e1 : wrap64 (n.tdiv (p10 s)) = n.tdiv (p10 s) := wrap64_of (by omega) (by omega)
    rw [e1, wrap64_of (x := n.tdiv (p10 s) - 1) (by omega) (by omega), ← hfl]
    have e2 : n / p10 s * p10 s = n - n % p10 s := by rw [Int.mul_comm]; omega
    rw [e2, wrap64_of (x := n - n % p10 s) (by omega) (by omega), show n - (n - n % p10 s) = n % p10 s by omega, wrap64_of (x := n % p10 s) (by omega) (by omega), wrap64_of (by omega) (by omega)]
  · rw [if_neg hn]
    rw [if_neg hn] at hfl
    have e1 : wrap64 (n.tdiv (p10 s)) = n.tdiv (p10 s) := wrap64_of (by omega) (by omega)
    rw [e1, ← hfl]
    have e2 : n / p10 s * p10 s = n - n % p10 s := by rw [Int.mul_comm]; omega
    rw [e2, wrap64_of (x := n - n % p10 s) (by omega) (by omega), show n - (n - n % p10 s) = n % p10 s by omega, wrap64_of (x := n % p10 s) (by omega) (by omega), wrap64_of (by omega) (by omega)]
theorem mic_ediv (n : Int) (s : Nat) (hs : s ≤ 6) : (n * p10 (6 - s)) / 1000000 = n / p10 s := by
  rw [← p10_six_sub s hs]; exact Int.mul_ediv_mul_of_pos_left _ _ (p10_pos _)
theorem mic_emod (n : Int) (s : Nat) (hs : s ≤ 6) : (n * p10 (6 - s)) % 1000000 = n % p10 s * p10 (6 - s) := by
  have h1 := Int.mul_ediv_add_emod (n * p10 (6 - s)) 1000000
  have h2 := Int.mul_ediv_add_emod n (p10 s)
  rw [mic_ediv n s hs] at h1
  have h3 : (p10 s * (n / p10 s) + n % p10 s) * p10 (6 - s) = n * p10 (6 - s) := by rw [h2]
  rw [Int.add_mul, Int.mul_assoc, Int.mul_comm (n / p10 s), ← Int.mul_assoc, p10_six_sub s hs] at h3
  omega
theorem ref_Order_eq (k : Nat) (k1 n1 : Int) (s1 : Nat) (t1 : ByteArray) (k2 n2 : Int) (s2 : Nat) (t2 : ByteArray) (hk : 42 < k) (h1 : k1 = 3 → s1 ≤ 6 ∧ -1000000000000000 < n1 ∧ n1 < 1000000000000000) (h2 : k2 = 3 → s2 ≤ 6 ∧ -1000000000000000 < n2 ∧ n2 < 1000000000000000) :
    federationref1_Order.f k k1 n1 (s1 : Int) t1 k2 n2 (s2 : Int) t2 = some (ordB k1 n1 (s1 : Int) t1 k2 n2 (s2 : Int) t2) := by
  obtain ⟨k, rfl⟩ : ∃ m, k = m + 1 := ⟨k - 1, by omega⟩
  unfold federationref1_Order.f ordB
  rw [ref_order_eq]
  simp only [Option.bind_some]
  by_cases e : k1 = k2
  · have hc : cmpI k1 k2 = 0 := by unfold cmpI; rw [if_neg (by omega), if_neg (by omega)]
    rw [if_pos hc, if_pos e]
    by_cases e1 : k1 = 1
    · rw [if_pos e1, if_pos (Or.inl e1)]
      simp only [federationref1_Order.j0]
      rw [if_pos (by simpa using e1), ref_order_eq]; rfl
    · rw [if_neg e1]
      simp only [federationref1_Order.j0]
      by_cases e2 : k1 = 2
      · rw [if_pos (by simpa using e2), if_pos (Or.inr e2), ref_order_eq]; rfl
      · rw [if_neg (by simpa using e2), if_neg (show ¬(k1 = 1 ∨ k1 = 2) by omega)]
        by_cases e3 : k1 = 3
        · rw [if_pos e3, if_pos e3]
          obtain ⟨a1, a2, a3⟩ := h1 e3
          obtain ⟨b1, b2, b3⟩ := h2 (by omega)
          simp only [ref_Parts_eq k _ n1 s1 _ (by omega) a1 a2 a3, ref_Parts_eq k _ n2 s2 _ (by omega) b1 b2 b3, Option.bind_some, ref_order_eq]
          unfold mic
          have hp := parts_order' (a := n1 * p10 (6 - s1)) (b := n2 * p10 (6 - s2)) 1000000 (by decide)
          rw [mic_ediv n1 s1 a1, mic_ediv n2 s2 b1, mic_emod n1 s1 a1, mic_emod n2 s2 b1] at hp
          simp only [Int.toNat_natCast]
          rw [← hp]
          by_cases hz : cmpI (n1 / p10 s1) (n2 / p10 s2) = 0
          · rw [if_pos hz, if_pos hz]
          · rw [if_neg hz, if_neg hz]
        · rw [if_neg e3, if_neg e3, ref_texts_eq]; rfl
  · have hc : ¬ cmpI k1 k2 = 0 := by
      unfold cmpI
      by_cases h : k1 < k2
      · rw [if_pos h]; decide
      · rw [if_neg h, if_pos (by omega)]; decide
    rw [if_neg hc, if_neg e]
end Go.Proofs.Ytllkhdhanheieaa.U
namespace Go.Proofs.Ytllkhdhanheieaa.U
open Go.RowKit Go.Proofs.YtllkhdhanheieaaW.PrintWords Go.Proofs.YtllkhdhanheieaaW.PrintLast Go.Proofs.YtllkhdhanheieaaW.PrintMore
attribute [local go_sem] max2_int min2_int max_two min_two max_three min_three max_four min_four
attribute [local go_sem high] own_gtr own_leq own_geq own_cell_set Option.map_some fld23_1
set_option linter.unusedVariables false
set_option linter.unusedSimpArgs false
def okB (st : ByteArray) : Bool := st.data.toList.all fun b => decide (32 ≤ b.toNat ∧ b.toNat ≤ 126)
def noS (st : ByteArray) : Bool := st.toList == ([] : List UInt8)
def rightB (kd n sc : Int) (st : ByteArray) : Bool :=
  if kd = 0 then n == 0 && (sc == 0 && noS st)
  else if kd = 1 then decide (0 ≤ n ∧ n ≤ 1) && (sc == 0 && noS st)
  else if kd = 2 then sc == 0 && noS st
  else if kd = 3 then decide (-1000000000000000 < n ∧ n < 1000000000000000 ∧ 0 ≤ sc ∧ sc ≤ 6 ∧ (sc = 0 ∨ n % 10 ≠ 0)) && noS st
  else if kd = 4 then decide (n = 0 ∧ sc = 0 ∧ st.data.size ≤ 40) && okB st
  else if kd = 5 then decide (n = 0 ∧ sc = 0 ∧ st.data.size ≤ 40)
  else false
end Go.Proofs.Ytllkhdhanheieaa.U
namespace Go.Proofs.Ytllkhdhanheieaa.U
open Go.RowKit Go.Proofs.YtllkhdhanheieaaW.PrintWords Go.Proofs.YtllkhdhanheieaaW.PrintLast Go.Proofs.YtllkhdhanheieaaW.PrintMore
attribute [local go_sem] max2_int min2_int max_two min_two max_three min_three max_four min_four
attribute [local go_sem high] own_gtr own_leq own_geq own_cell_set Option.map_some fld23_1
set_option linter.unusedVariables false
set_option linter.unusedSimpArgs false
def I64 (x : Int) : Prop := -9223372036854775808 ≤ x ∧ x ≤ 9223372036854775807
end Go.Proofs.Ytllkhdhanheieaa.U
namespace Go.Proofs.Ytllkhdhanheieaa.U
open Go.RowKit Go.Proofs.YtllkhdhanheieaaW.PrintWords Go.Proofs.YtllkhdhanheieaaW.PrintLast Go.Proofs.YtllkhdhanheieaaW.PrintMore
attribute [local go_sem] max2_int min2_int max_two min_two max_three min_three max_four min_four
attribute [local go_sem high] own_gtr own_leq own_geq own_cell_set Option.map_some fld23_1
set_option linter.unusedVariables false
set_option linter.unusedSimpArgs false
structure RD (n : Int) (s : Nat) : Prop where
  lo : -1000000000000000 < n
  hi : n < 1000000000000000
  sc : s ≤ 6
  nm : s = 0 ∨ n % 10 ≠ 0
structure RV (kd n : Int) (s : Nat) : Prop where
  i : I64 n
  d : kd = 3 → RD n s
end Go.Proofs.Ytllkhdhanheieaa.U
namespace Go.Proofs.Ytllkhdhanheieaa.U
open Go.RowKit Go.Proofs.YtllkhdhanheieaaW.PrintWords Go.Proofs.YtllkhdhanheieaaW.PrintLast Go.Proofs.YtllkhdhanheieaaW.PrintMore
attribute [local go_sem] max2_int min2_int max_two min_two max_three min_three max_four min_four
attribute [local go_sem high] own_gtr own_leq own_geq own_cell_set Option.map_some fld23_1
set_option linter.unusedVariables false
set_option linter.unusedSimpArgs false
theorem within_eq (a n : Int) (ha : I64 a) (h0 : 0 < n) (h1 : n ≤ 4611686018427387904) : federationlaw1_within.f a n = some (a % n) := by
  unfold federationlaw1_within.f I64 at *
  rw [if_neg (by omega)]
  have e1 := Int.mul_tdiv_add_tmod a n
  have e2 := Int.mul_ediv_add_emod a n
  have e3 := Int.emod_lt_of_pos a h0
  have e4 := Int.emod_nonneg a (show n ≠ 0 by omega)
  have e5 := Int.tmod_lt_of_pos a h0
  have e6 := Int.tmod_lt_of_pos (-a) h0
  rw [Int.neg_tmod] at e6
  by_cases c : a.tmod n < 0
  · rw [if_pos c, wrap64_of (by omega) (by omega)]
    have := ((Int.ediv_emod_unique (a := a) (r := a.tmod n + n) (q := a.tdiv n - 1) h0).2 ⟨by rw [Int.mul_sub, Int.mul_one]; omega, by omega, by omega⟩).2
    rw [this]
  · rw [if_neg c]
    have := ((Int.ediv_emod_unique (a := a) (r := a.tmod n) (q := a.tdiv n) h0).2 ⟨by omega, by omega, by omega⟩).2
    rw [this]
theorem emod_bd (a n : Int) (h0 : 0 < n) : 0 ≤ a % n ∧ a % n < n := ⟨Int.emod_nonneg a (by omega), Int.emod_lt_of_pos a h0⟩
theorem RV_right {kd n : Int} {s : Nat} {st : ByteArray} (hn : I64 n) (h : rightB kd n (s : Int) st = true) : RV kd n s := by
  refine ⟨hn, fun e => ?_⟩
  subst e
  unfold rightB at h
  rw [if_neg (by decide), if_neg (by decide), if_neg (by decide), if_pos rfl, Bool.and_eq_true, decide_eq_true_eq] at h
  obtain ⟨⟨a, b, c, d, e⟩, _⟩ := h
  exact ⟨a, b, by omega, by omega⟩
theorem noS_empty : noS (⟨#[]⟩ : ByteArray) = true := by decide +kernel
theorem right_RD {n : Int} {s : Nat} (h : RD n s) : rightB 3 n (s : Int) (⟨#[]⟩ : ByteArray) = true := by
  unfold rightB
  rw [if_neg (by decide), if_neg (by decide), if_neg (by decide), if_pos rfl, noS_empty, Bool.and_true, decide_eq_true_eq]
  exact ⟨h.lo, h.hi, by omega, by have := h.sc; omega, by have := h.nm; omega⟩
theorem RD_red (n : Int) (s : Nat) (h0 : -1000000000000000 < n) (h1 : n < 1000000000000000) (hs : s ≤ 6) : RD (red n s).1 (red n s).2 := by
  have a := red_abs s n
  have b := red_scale s n
  have c := red_done s n
  exact ⟨by omega, by omega, by omega, c⟩
theorem mkText_size (st : ByteArray) : (mkText st).data.size ≤ 40 := by
  unfold mkText strOfNums
  simp [conv8L_length]
  omega
theorem mkText_ok (st : ByteArray) : okB (mkText st) = true := by
  unfold okB mkText strOfNums
  simp only [List.all_eq_true, decide_eq_true_eq, List.map_toArray, List.mem_map, conv8L]
  rintro b ⟨x, hx, rfl⟩
  obtain ⟨c, _, rfl⟩ := List.mem_map.1 (List.mem_of_mem_take hx)
  unfold conv8
  have h1 := emod_bd (c.toNat : Int) 95 (by decide)
  generalize (c.toNat : Int) % 95 = z at *
  have : ((32 + z).toNat % 256) = (32 + z).toNat := Nat.mod_eq_of_lt (by omega)
  simp only [UInt8.toNat_ofNat']
  omega
theorem extract_size (st : ByteArray) (j : Nat) : (st.extract 0 j).data.size = min j st.data.size := by
  rw [← Array.length_toList, Lib.extract_data]
  simp
structure Made (kd n : Int) (s : Nat) (st : ByteArray) : Prop where
  r : rightB kd n (s : Int) st = true
  v : RV kd n s
  sz : st.data.size ≤ 40
  k0 : 0 ≤ kd
  k5 : kd ≤ 5
  z : kd ≠ 3 → s = 0
theorem rd6 (a b c d e f : Int) (i : Int) (h0 : 0 ≤ i) (h1 : i < 6) : rd [a, b, c, d, e, f] i = a ∨ rd [a, b, c, d, e, f] i = b ∨ rd [a, b, c, d, e, f] i = c ∨ rd [a, b, c, d, e, f] i = d ∨ rd [a, b, c, d, e, f] i = e ∨ rd [a, b, c, d, e, f] i = f := by
  have : i = 0 ∨ i = 1 ∨ i = 2 ∨ i = 3 ∨ i = 4 ∨ i = 5 := by omega
  rcases this with rfl | rfl | rfl | rfl | rfl | rfl
  · exact Or.inl rfl
  · exact Or.inr (Or.inl rfl)
  · exact Or.inr (Or.inr (Or.inl rfl))
  · exact Or.inr (Or.inr (Or.inr (Or.inl rfl)))
  · exact Or.inr (Or.inr (Or.inr (Or.inr (Or.inl rfl))))
  · exact Or.inr (Or.inr (Or.inr (Or.inr (Or.inr rfl))))
theorem rd8 (a b c d e f g h : Int) (P : Int → Prop) (pa : P a) (pb : P b) (pc : P c) (pd : P d) (pe : P e) (pf : P f) (pg : P g) (ph : P h) (i : Int) (h0 : 0 ≤ i) (h1 : i < 8) : P (rd [a, b, c, d, e, f, g, h] i) := by
  have : i = 0 ∨ i = 1 ∨ i = 2 ∨ i = 3 ∨ i = 4 ∨ i = 5 ∨ i = 6 ∨ i = 7 := by omega
  rcases this with rfl | rfl | rfl | rfl | rfl | rfl | rfl | rfl
  · exact pa
  · exact pb
  · exact pc
  · exact pd
  · exact pe
  · exact pf
  · exact pg
  · exact ph
theorem I64_tdiv (a b : Int) (ha : I64 a) (hb : 2 ≤ b) : I64 (wrap64 (a.tdiv b)) ∧ wrap64 (a.tdiv b) = a.tdiv b := by
  have h := Int.natAbs_tdiv_le_natAbs a b
  have h2 : (a.tdiv b).natAbs ≤ 4611686018427387904 := by
    rw [Int.natAbs_tdiv]
    have h1 : a.natAbs ≤ 9223372036854775808 := by unfold I64 at ha; omega
    exact Nat.le_trans (Nat.div_le_div_left (show 2 ≤ b.natAbs by omega) (by decide)) (by have := Nat.div_le_div_right (c := 2) h1; simpa using this)
  have e : wrap64 (a.tdiv b) = a.tdiv b := wrap64_of (by omega) (by omega)
  rw [e]
  exact ⟨⟨by omega, by omega⟩, rfl⟩
theorem Make_eq (kind n : Int) (st : ByteArray) (hk : I64 kind) (hn : I64 n) (hs : st.size ≤ 140737488351232) :
    ∃ n' s' st', (∀ k, 60 < k → federationlaw1_Make.f k kind n st = some (kind % 6, n', ((s' : Nat) : Int), st')) ∧ Made (kind % 6) n' s' st' := by
  have hk6 := within_eq kind 6 hk (by decide) (by decide)
  have hb := emod_bd kind 6 (by decide)
  have hd := I64_tdiv kind 6 hk (by decide)
  have hd2 := I64_tdiv kind 36 hk (by decide)
  have h0 : I64 0 := ⟨by decide, by decide⟩
  have em : (⟨#[]⟩ : ByteArray).data.size ≤ 40 := by decide
  have c : kind % 6 = 0 ∨ kind % 6 = 1 ∨ kind % 6 = 2 ∨ kind % 6 = 3 ∨ kind % 6 = 4 ∨ kind % 6 = 5 := by omega
  rcases c with c | c | c | c | c | c
  · have hr : rightB (kind % 6) 0 ((0 : Nat) : Int) (⟨#[]⟩ : ByteArray) = true := by rw [c]; decide +kernel
    refine ⟨0, 0, _, fun k _ => ?_, ⟨hr, RV_right h0 hr, em, hb.1, by omega, fun _ => rfl⟩⟩
    unfold federationlaw1_Make.f federationlaw1_Make_p.f
    rw [hk6, c, if_neg (by decide), Option.bind_some, if_neg (by decide), if_neg (by decide), if_neg (by decide), if_neg (by decide), if_neg (by decide)]
    rfl
  · have hw := within_eq n 2 hn (by decide) (by decide)
    have hm := emod_bd n 2 (by decide)
    have hr : rightB (kind % 6) (n % 2) ((0 : Nat) : Int) (⟨#[]⟩ : ByteArray) = true := by
      rw [c]; unfold rightB; rw [if_neg (by decide), if_pos rfl, noS_empty, decide_eq_true (by omega)]; rfl
    refine ⟨n % 2, 0, _, fun k _ => ?_, ⟨hr, RV_right ⟨by omega, by omega⟩ hr, em, hb.1, by omega, fun _ => rfl⟩⟩
    unfold federationlaw1_Make.f federationlaw1_Make_p.f
    rw [hk6, c, if_neg (by decide), Option.bind_some, if_pos rfl, hw, Option.bind_some]
    rfl
  · have hw := within_eq n 100 hn (by decide) (by decide)
    have hm := emod_bd n 100 (by decide)
    have hi := within_eq (wrap64 (Int.tdiv kind 6)) 8 hd.1 (by decide) (by decide)
    have hj := emod_bd (wrap64 (Int.tdiv kind 6)) 8 (by decide)
    generalize hz : wrap64 (Int.tdiv kind 6) % 8 = j at hi hj
    have hrd : I64 (rd [n, 0, 1, -1, 9223372036854775807, -9223372036854775808, wrap64 (n % 100 - 50), 7] j) := by
      rw [wrap64_of (by omega) (by omega)]
      exact rd8 _ _ _ _ _ _ _ _ I64 hn ⟨by decide, by decide⟩ ⟨by decide, by decide⟩ ⟨by decide, by decide⟩ ⟨by decide, by decide⟩ ⟨by decide, by decide⟩ ⟨by omega, by omega⟩ ⟨by decide, by decide⟩ j hj.1 hj.2
    have hr : rightB (kind % 6) (rd [n, 0, 1, -1, 9223372036854775807, -9223372036854775808, wrap64 (n % 100 - 50), 7] j) ((0 : Nat) : Int) (⟨#[]⟩ : ByteArray) = true := by
      rw [c]; unfold rightB; rw [if_neg (by decide), if_neg (by decide), if_pos rfl, noS_empty]; rfl
    refine ⟨_, 0, _, fun k _ => ?_, ⟨hr, RV_right hrd hr, em, hb.1, by omega, fun _ => rfl⟩⟩
    unfold federationlaw1_Make.f federationlaw1_Make_p.f
    rw [hk6, c, if_neg (by decide), Option.bind_some, if_neg (by decide), if_pos rfl, hw, Option.bind_some, Option.bind_some, hi, Option.bind_some, if_pos hj.1, if_pos (by simp; omega)]
    rfl
  · have hw := within_eq n 2000 hn (by decide) (by decide)
    have hm := emod_bd n 2000 (by decide)
    have hw2 := within_eq n 50 hn (by decide) (by decide)
    have hm2 := emod_bd n 50 (by decide)
    have hi := within_eq (wrap64 (Int.tdiv kind 6)) 6 hd.1 (by decide) (by decide)
    have hj := emod_bd (wrap64 (Int.tdiv kind 6)) 6 (by decide)
    have hi2 := within_eq (wrap64 (Int.tdiv kind 36)) 7 hd2.1 (by decide) (by decide)
    have hj2 := emod_bd (wrap64 (Int.tdiv kind 36)) 7 (by decide)
    generalize hz : wrap64 (Int.tdiv kind 6) % 6 = j at hi hj
    generalize hz2 : wrap64 (Int.tdiv kind 36) % 7 = j2 at hi2 hj2
    have ht1 := Int.tmod_lt_of_pos n (show (0 : Int) < 1000000000000000 by decide)
    have ht2 := Int.tmod_lt_of_pos (-n) (show (0 : Int) < 1000000000000000 by decide)
    rw [Int.neg_tmod] at ht2
    have hx : -1000000000000000 < rd [Int.tmod n 1000000000000000, wrap64 (n % 2000 - 1000), 999999999999999, -999999999999999, 1, wrap64 (wrap64 (n % 50 * 1000) - 20000)] j ∧ rd [Int.tmod n 1000000000000000, wrap64 (n % 2000 - 1000), 999999999999999, -999999999999999, 1, wrap64 (wrap64 (n % 50 * 1000) - 20000)] j < 1000000000000000 := by
      have e1 : wrap64 (n % 2000 - 1000) = n % 2000 - 1000 := wrap64_of (by omega) (by omega)
      have e2 : wrap64 (n % 50 * 1000) = n % 50 * 1000 := wrap64_of (by omega) (by omega)
      have e3 : wrap64 (n % 50 * 1000 - 20000) = n % 50 * 1000 - 20000 := wrap64_of (by omega) (by omega)
      rw [e1, e2, e3]
      rcases rd6 (Int.tmod n 1000000000000000) (n % 2000 - 1000) 999999999999999 (-999999999999999) 1 (n % 50 * 1000 - 20000) j hj.1 hj.2 with h | h | h | h | h | h <;> rw [h] <;> omega
    obtain ⟨t, rfl⟩ : ∃ t : Nat, j2 = (t : Int) := ⟨j2.toNat, by omega⟩
    generalize hy : rd [Int.tmod n 1000000000000000, wrap64 (n % 2000 - 1000), 999999999999999, -999999999999999, 1, wrap64 (wrap64 (n % 50 * 1000) - 20000)] j = y at hx
    have hrd := RD_red y t hx.1 hx.2 (by omega)
    have hr := right_RD hrd
    rw [← c] at hr
    refine ⟨(red y t).1, (red y t).2, _, fun k hk => ?_, ⟨hr, RV_right ⟨by have := hrd.lo; omega, by have := hrd.hi; omega⟩ hr, em, hb.1, by omega, fun e => absurd c e⟩⟩
    unfold federationlaw1_Make.f federationlaw1_Make_p.f
    rw [hk6, c, if_neg (by decide), Option.bind_some, if_neg (by decide), if_neg (by decide), if_pos rfl, hw, Option.bind_some, hw2, Option.bind_some, Option.bind_some, hi, Option.bind_some, if_pos hj.1, if_pos (by simp; omega), hi2, Option.bind_some, hy, ref_Norm_eq k t y _ (by omega) (by omega) (by omega) (by omega), Option.bind_some]
  · have hr : rightB (kind % 6) 0 ((0 : Nat) : Int) (mkText st) = true := by
      have h1 := mkText_size st
      have h2 := mkText_ok st
      rw [c]; unfold rightB; rw [if_neg (by decide), if_neg (by decide), if_neg (by decide), if_neg (by decide), if_pos rfl, h2, decide_eq_true (by omega)]; rfl
    refine ⟨0, 0, _, fun k _ => ?_, ⟨hr, RV_right h0 hr, mkText_size st, hb.1, by omega, fun _ => rfl⟩⟩
    unfold federationlaw1_Make.f
    rw [hk6, c, if_pos rfl, if_pos hs]
    rfl
  · have hz : (st.size : Int) = (st.data.size : Int) := rfl
    have hm : mn (st.size : Int) 40 = ((min 40 st.data.size : Nat) : Int) := by unfold mn; split <;> omega
    have hr : rightB (kind % 6) 0 ((0 : Nat) : Int) (st.extract 0 (min 40 st.data.size)) = true := by
      have h1 := extract_size st (min 40 st.data.size)
      rw [c]; unfold rightB; rw [if_neg (by decide), if_neg (by decide), if_neg (by decide), if_neg (by decide), if_neg (by decide), if_pos rfl, decide_eq_true (by omega)]
    refine ⟨0, 0, _, fun k _ => ?_, ⟨hr, RV_right h0 hr, by rw [extract_size]; omega, hb.1, by omega, fun _ => rfl⟩⟩
    unfold federationlaw1_Make.f federationlaw1_Make_p.f
    rw [hk6, c, if_neg (by decide), Option.bind_some, if_neg (by decide), if_neg (by decide), if_neg (by decide), if_neg (by decide), if_pos rfl, hm, if_pos (by omega), if_pos (by omega)]
    rfl
end Go.Proofs.Ytllkhdhanheieaa.U
namespace Go.Proofs.Ytllkhdhanheieaa.U
open Go.RowKit Go.Proofs.YtllkhdhanheieaaW.PrintWords Go.Proofs.YtllkhdhanheieaaW.PrintLast Go.Proofs.YtllkhdhanheieaaW.PrintMore
attribute [local go_sem] max2_int min2_int max_two min_two max_three min_three max_four min_four
attribute [local go_sem high] own_gtr own_leq own_geq own_cell_set Option.map_some fld23_1
set_option linter.unusedVariables false
set_option linter.unusedSimpArgs false
theorem I64_of {x : Int} (h : (Lit.int .i64 x).wf = true) : I64 x := by
  have h1 : IntKind.i64.min = -9223372036854775808 := by decide
  have h2 : IntKind.i64.max = 9223372036854775807 := by decide
  simp only [Lit.wf, Bool.and_eq_true, decide_eq_true_eq, h1, h2] at h
  exact h
theorem known_two : federationlaw1_known.f 200 = some true := by decide +kernel
theorem known_ge {k : Nat} (h : 200 ≤ k) : federationlaw1_known.f k = some true := at_rounds federationlaw1_known.mono h known_two
end Go.Proofs.Ytllkhdhanheieaa.U
namespace Go.Proofs.Ytllkhdhanheieaa.Pure
open Go.RowKit Go.Proofs.Ytllkhdhanheieaa.U Go.Proofs.YtllkhdhanheieaaW.PrintWords Go.Proofs.YtllkhdhanheieaaW.PrintLast Go.Proofs.YtllkhdhanheieaaW.PrintMore
theorem sizes_or {a b : ByteArray} (f : Bool → Option Bool) (h1 : f true = some true) (h2 : a.size ≤ 100 → b.size ≤ 100 → f false = some true) : (if (a.size : Int) > 100 then f true else f (decide ((b.size : Int) > 100))) = some true := by
  by_cases h : (a.size : Int) > 100
  · rw [if_pos h, h1]
  · rw [if_neg h]
    by_cases h' : (b.size : Int) > 100
    · rw [decide_eq_true h', h1]
    · rw [decide_eq_false h']; exact h2 (by omega) (by omega)
theorem cmpI_turn (a b : Int) : cmpI b a = -cmpI a b := by unfold cmpI; split <;> split <;> omega
theorem cmpT_turn (a b : ByteArray) : cmpT b a = -cmpT a b := by
  unfold cmpT
  rcases bytesLess_total a.toList b.toList with h | h | h
  · have := bytesLess_asymm _ _ h; simp [h, this]
  · rw [h, bytesLess_irrefl]; simp
  · have := bytesLess_asymm _ _ h; simp [h, this]
theorem cmpI_on {a b c : Int} (h : ¬ cmpI a b > 0) (k : ¬ cmpI b c > 0) : cmpI a c ≤ 0 := by
  unfold cmpI at *; split at h <;> split at k <;> (repeat' split) <;> (repeat' split at h) <;> (repeat' split at k) <;> omega
theorem cmpT_le {a b : ByteArray} : ¬ cmpT a b > 0 ↔ Op.bytesLess b.toList a.toList = false := by
  unfold cmpT
  cases h : Op.bytesLess a.toList b.toList with
  | true => have := bytesLess_asymm _ _ h; simp [this]
  | false => cases Op.bytesLess b.toList a.toList <;> simp
theorem cmpT_on {a b c : ByteArray} (h : ¬ cmpT a b > 0) (k : ¬ cmpT b c > 0) : cmpT a c ≤ 0 := by
  rw [cmpT_le] at h k
  have : ¬ cmpT a c > 0 := by
    rw [cmpT_le]
    cases e : Op.bytesLess c.toList a.toList with
    | false => rfl
    | true =>
      rcases bytesLess_total b.toList c.toList with x | x | x
      · rw [bytesLess_trans _ _ _ x e] at h; cases h
      · rw [x, e] at h; cases h
      · rw [x] at k; cases k
  omega
theorem cmpI_rng (a b : Int) : cmpI a b = -1 ∨ cmpI a b = 0 ∨ cmpI a b = 1 := by unfold cmpI; split <;> (try split) <;> simp
theorem cmpT_rng (a b : ByteArray) : cmpT a b = -1 ∨ cmpT a b = 0 ∨ cmpT a b = 1 := by unfold cmpT; split <;> (try split) <;> simp
theorem ordB_turn (k1 n1 s1 : Int) (t1 : ByteArray) (k2 n2 s2 : Int) (t2 : ByteArray) : ordB k2 n2 s2 t2 k1 n1 s1 t1 = -ordB k1 n1 s1 t1 k2 n2 s2 t2 := by
  unfold ordB
  by_cases e : k1 = k2
  · subst e
    rw [if_pos rfl, if_pos rfl]
    split
    · exact cmpI_turn _ _
    · split
      · exact cmpI_turn _ _
      · exact cmpT_turn _ _
  · rw [if_neg e, if_neg (fun h => e h.symm)]; exact cmpI_turn _ _
theorem ordB_rng (k1 n1 s1 : Int) (t1 : ByteArray) (k2 n2 s2 : Int) (t2 : ByteArray) : ordB k1 n1 s1 t1 k2 n2 s2 t2 = -1 ∨ ordB k1 n1 s1 t1 k2 n2 s2 t2 = 0 ∨ ordB k1 n1 s1 t1 k2 n2 s2 t2 = 1 := by
  unfold ordB
  split
  · split
    · exact cmpI_rng _ _
    · split
      · exact cmpI_rng _ _
      · exact cmpT_rng _ _
  · exact cmpI_rng _ _
theorem ordB_on {k1 n1 s1 : Int} {t1 : ByteArray} {k2 n2 s2 : Int} {t2 : ByteArray} {k3 n3 s3 : Int} {t3 : ByteArray} (h : ¬ ordB k1 n1 s1 t1 k2 n2 s2 t2 > 0) (k : ¬ ordB k2 n2 s2 t2 k3 n3 s3 t3 > 0) : ordB k1 n1 s1 t1 k3 n3 s3 t3 ≤ 0 := by
  have ci : ∀ x y : Int, ¬ cmpI x y > 0 ↔ x ≤ y := by intro x y; unfold cmpI; split <;> (try split) <;> omega
  unfold ordB at *
  by_cases e : k1 = k2
  · subst e
    rw [if_pos rfl] at h
    by_cases f : k1 = k3
    · subst f
      rw [if_pos rfl] at k
      rw [if_pos rfl]
      by_cases g : k1 = 1 ∨ k1 = 2
      · rw [if_pos g] at h k; rw [if_pos g]; exact cmpI_on h k
      · rw [if_neg g] at h k; rw [if_neg g]
        by_cases g' : k1 = 3
        · rw [if_pos g'] at h k; rw [if_pos g']; exact cmpI_on h k
        · rw [if_neg g'] at h k; rw [if_neg g']; exact cmpT_on h k
    · rw [if_neg f] at k; rw [if_neg f]; omega
  · rw [if_neg e] at h
    have h' := (ci _ _).1 h
    by_cases f : k2 = k3
    · subst f; rw [if_neg e]; omega
    · rw [if_neg f] at k
      have k' := (ci _ _).1 k
      rw [if_neg (by omega)]
      have := (ci k1 k3).2 (by omega)
      omega
theorem val_known_eq (k1 n1 s1 : Int) (t1 : ByteArray) (k2 n2 s2 : Int) (t2 : ByteArray) : val_known.f k1 n1 s1 t1 k2 n2 s2 t2 = some (k1 == k2 && k1 != 0) := by
  unfold val_known.f; split
  · rename_i h; simp [h]
  · rename_i h; simp [h]
theorem ref_known_eq (k1 n1 s1 : Int) (t1 : ByteArray) (k2 n2 s2 : Int) (t2 : ByteArray) : federationref1_known.f k1 n1 s1 t1 k2 n2 s2 t2 = some (k1 == k2 && k1 != 0) := by
  unfold federationref1_known.f; split
  · rename_i h; subst h; simp
  · rename_i h; simp [h, bne]
def wellV (k n : Int) (s : Nat) : Prop := k = 3 → s ≤ 6 ∧ -1000000000000000 < n ∧ n < 1000000000000000
section
variable {k : Nat} {k1 n1 : Int} {s1 : Nat} {t1 : ByteArray} {k2 n2 : Int} {s2 : Nat} {t2 : ByteArray}
theorem val_Less_eq (hk : 42 < k) (h1 : wellV k1 n1 s1) (h2 : wellV k2 n2 s2) : val_Less.f k k1 n1 (s1 : Int) t1 k2 n2 (s2 : Int) t2 = some ((k1 == k2 && k1 != 0) && decide (ordB k1 n1 (s1 : Int) t1 k2 n2 (s2 : Int) t2 < 0), k1 == k2 && k1 != 0) := by
  unfold val_Less.f
  rw [val_known_eq, Option.bind_some, val_Order_eq k k1 n1 s1 t1 k2 n2 s2 t2 hk h1 h2]
  cases (k1 == k2 && k1 != 0) <;> rfl
theorem val_Same_eq (hk : 42 < k) (h1 : wellV k1 n1 s1) (h2 : wellV k2 n2 s2) : val_Same.f k k1 n1 (s1 : Int) t1 k2 n2 (s2 : Int) t2 = some ((k1 == k2 && k1 != 0) && (ordB k1 n1 (s1 : Int) t1 k2 n2 (s2 : Int) t2 == 0), k1 == k2 && k1 != 0) := by
  unfold val_Same.f
  rw [val_known_eq, Option.bind_some, val_Order_eq k k1 n1 s1 t1 k2 n2 s2 t2 hk h1 h2]
  cases (k1 == k2 && k1 != 0) <;> rfl
theorem ref_Less_eq (hk : 42 < k) (h1 : wellV k1 n1 s1) (h2 : wellV k2 n2 s2) : federationref1_Less.f k k1 n1 (s1 : Int) t1 k2 n2 (s2 : Int) t2 = some ((k1 == k2 && k1 != 0) && decide (ordB k1 n1 (s1 : Int) t1 k2 n2 (s2 : Int) t2 < 0), k1 == k2 && k1 != 0) := by
  unfold federationref1_Less.f
  rw [ref_known_eq, Option.bind_some, ref_Order_eq k k1 n1 s1 t1 k2 n2 s2 t2 hk h1 h2]
  cases (k1 == k2 && k1 != 0) <;> rfl
theorem ref_Same_eq (hk : 42 < k) (h1 : wellV k1 n1 s1) (h2 : wellV k2 n2 s2) : federationref1_Same.f k k1 n1 (s1 : Int) t1 k2 n2 (s2 : Int) t2 = some ((k1 == k2 && k1 != 0) && (ordB k1 n1 (s1 : Int) t1 k2 n2 (s2 : Int) t2 == 0), k1 == k2 && k1 != 0) := by
  unfold federationref1_Same.f
  rw [ref_known_eq, Option.bind_some, ref_Order_eq k k1 n1 s1 t1 k2 n2 s2 t2 hk h1 h2]
  cases (k1 == k2 && k1 != 0) <;> rfl
end
theorem ValOrder : federationlaw1_ValOrder.Pure := by
  intro a0 a1 a2 a3 a4 a5 a6 a7 w0 w1 w2 w3 w4 w5 z6 z7
  refine ⟨300, ?_⟩
  unfold federationlaw1_ValOrder.f
  rw [known_ge (by decide), Option.bind_some, if_pos rfl]
  refine sizes_or (fun b => federationlaw1_ValOrder.j0 300 a0 a1 a2 a3 a4 a5 a6 a7 b) rfl fun y6 y7 => ?_
  obtain ⟨n1, s1, t1, hm1, m1⟩ := Make_eq a0 a1 a6 (I64_of w0) (I64_of w1) (by omega)
  obtain ⟨n2, s2, t2, hm2, m2⟩ := Make_eq a2 a3 a7 (I64_of w2) (I64_of w3) (by omega)
  obtain ⟨n3, s3, t3, hm3, m3⟩ := Make_eq a4 a5 (a6 ++ a7) (I64_of w4) (I64_of w5) (by rw [ByteArray.size_append]; omega)
  have d1 : wellV (a0 % 6) n1 s1 := fun e => ⟨(m1.v.d e).sc, (m1.v.d e).lo, (m1.v.d e).hi⟩
  have d2 : wellV (a2 % 6) n2 s2 := fun e => ⟨(m2.v.d e).sc, (m2.v.d e).lo, (m2.v.d e).hi⟩
  have d3 : wellV (a4 % 6) n3 s3 := fun e => ⟨(m3.v.d e).sc, (m3.v.d e).lo, (m3.v.d e).hi⟩
  show federationlaw1_ValOrder.j0 (299 + 1) a0 a1 a2 a3 a4 a5 a6 a7 false = some true
  simp only [federationlaw1_ValOrder.j0]
  have q : (299 : Nat) = 299 := rfl
  rw [if_neg (by decide), hm1 299 (by decide), Option.bind_some, hm2 299 (by decide), Option.bind_some, if_pos (by omega), hm3 299 (by decide), Option.bind_some]
  dsimp only
  generalize a0 % 6 = k1 at *
  generalize a2 % 6 = k2 at *
  generalize a4 % 6 = k3 at *
  rw [val_Order_eq 299 k1 n1 s1 t1 k2 n2 s2 t2 (by decide) d1 d2, Option.bind_some, val_Less_eq (by decide) d1 d2, Option.bind_some, val_Same_eq (by decide) d1 d2, Option.bind_some, ref_Less_eq (by decide) d1 d2, Option.bind_some, ref_Same_eq (by decide) d1 d2, Option.bind_some, ref_Order_eq 299 k1 n1 s1 t1 k2 n2 s2 t2 (by decide) d1 d2, Option.bind_some, if_pos rfl,
    val_Order_eq 299 k2 n2 s2 t2 k1 n1 s1 t1 (by decide) d2 d1, Option.bind_some, val_Order_eq 299 k1 n1 s1 t1 k1 n1 s1 t1 (by decide) d1 d1,
    val_Order_eq 299 k2 n2 s2 t2 k3 n3 s3 t3 (by decide) d2 d3, val_Order_eq 299 k1 n1 s1 t1 k3 n3 s3 t3 (by decide) d1 d3]
  dsimp only
  have r := ordB_rng k1 n1 (s1 : Int) t1 k2 n2 (s2 : Int) t2
  have tn := ordB_turn k1 n1 (s1 : Int) t1 k2 n2 (s2 : Int) t2
  have t0 := ordB_turn k1 n1 (s1 : Int) t1 k1 n1 (s1 : Int) t1
  have on := fun h k => @ordB_on k1 n1 (s1 : Int) t1 k2 n2 (s2 : Int) t2 k3 n3 (s3 : Int) t3 h k
  rw [if_pos (by rw [tn, wrap64_of (by omega) (by omega)]), Option.bind_some, if_pos (by omega)]
  generalize ordB k1 n1 (s1 : Int) t1 k2 n2 (s2 : Int) t2 = o at *
  by_cases c : o > 0
  · rw [if_pos c, if_pos (by simp), if_pos (by simp), if_pos (by simp)]; simp
  · rw [if_neg c, Option.bind_some]
    by_cases d : ordB k2 n2 (s2 : Int) t2 k3 n3 (s3 : Int) t3 > 0
    · rw [if_pos d, if_pos (by simp), if_pos (by simp), if_pos (by simp)]; simp
    · rw [if_neg d, Option.bind_some, if_pos (on c d), if_pos (by simp), if_pos (by simp), if_pos (by simp)]; simp
end Go.Proofs.Ytllkhdhanheieaa.Pure
