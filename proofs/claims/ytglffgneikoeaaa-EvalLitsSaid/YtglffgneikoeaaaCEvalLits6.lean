-- Written by drive.py and pack.py (programs of this proof's own) through the kit's printer; not trusted: Lean checks it.
import Derived.Test.YtglffgneikoeaaaCEvalLits4
import Derived.Test.YtglffgneikoeaaaCEvalLits5
import Derived.Lib.Strings
import Derived.Test.YtglffgneikoeaaaCEvalLits2
import Derived.Lib.SmallJoins
namespace Go.Proofs.Ytglffgneikoeaaa.M
open Go.RowKit Go.Proofs.YtglffgneikoeaaaW.PrintWords Go.Proofs.YtglffgneikoeaaaW.PrintLast Go.Proofs.YtglffgneikoeaaaW.PrintMore
attribute [local go_sem] max2_int min2_int max_two min_two max_three min_three max_four min_four
attribute [local go_sem high] own_gtr own_leq own_geq own_cell_set Option.map_some
set_option linter.unusedVariables false
set_option linter.unusedSimpArgs false
theorem wrap64_of {x : Int} (h0 : -9223372036854775808 ≤ x) (h1 : x ≤ 9223372036854775807) : wrap64 x = x := by
  unfold wrap64; omega
def red : Int → Nat → Int × Nat
  | n, 0 => (n, 0)
  | n, s + 1 => if n % 10 = 0 then red (n / 10) s else (n, s + 1)
theorem red_zero : ∀ s, red 0 s = (0, 0)
  | 0 => rfl
  | s + 1 => by simp only [red]; rw [if_pos (by decide)]; exact red_zero s
theorem red_scale : ∀ (s : Nat) (n : Int), (red n s).2 ≤ s
  | 0, _ => Nat.le_refl _
  | s + 1, n => by
    simp only [red]
    split
    · exact Nat.le_succ_of_le (red_scale s _)
    · exact Nat.le_refl _
theorem red_done : ∀ (s : Nat) (n : Int), (red n s).2 = 0 ∨ (red n s).1 % 10 ≠ 0
  | 0, _ => Or.inl rfl
  | s + 1, n => by
    simp only [red]
    split
    · exact red_done s _
    · rename_i h; exact Or.inr h
theorem red_abs : ∀ (s : Nat) (n : Int), (red n s).1.natAbs ≤ n.natAbs
  | 0, _ => Nat.le_refl _
  | s + 1, n => by
    simp only [red]
    split
    · exact Nat.le_trans (red_abs s _) (by omega)
    · exact Nat.le_refl _
theorem tmod10 (n : Int) : (Int.tmod n 10 = 0) ↔ n % 10 = 0 := by
  constructor
  · intro h; have := Int.dvd_of_tmod_eq_zero h; omega
  · intro h; exact Int.tmod_eq_zero_of_dvd (by omega)
theorem tdiv10 (n : Int) (h : n % 10 = 0) : Int.tdiv n 10 = n / 10 := by
  rw [Int.tdiv_eq_ediv]; split <;> omega
theorem ref_Norm_l0 (st : ByteArray) : ∀ (s k : Nat) (n : Int), s < k → s ≤ 9223372036854775807 → -9223372036854775808 ≤ n → n ≤ 9223372036854775807 → federationref1_Norm.l0 k 3 n (s : Int) st = some (3, (red n s).1, ((red n s).2 : Int), st)
  | 0, k, n, hk, _, _, _ => by
    obtain ⟨k, rfl⟩ : ∃ m, k = m + 1 := ⟨k - 1, by omega⟩
    simp only [federationref1_Norm.l0]; rw [if_pos trivial, if_neg (by omega)]; rfl
  | s + 1, k, n, hk, hs, h0, h1 => by
    obtain ⟨k, rfl⟩ : ∃ m, k = m + 1 := ⟨k - 1, by omega⟩
    simp only [federationref1_Norm.l0]; rw [if_pos trivial, if_pos (by omega)]
    simp only [red]
    by_cases h : n % 10 = 0
    · rw [if_pos ((tmod10 n).2 h), if_pos h, tdiv10 n h, wrap64_of (by omega) (by omega), wrap64_of (by omega) (by omega), show ((s + 1 : Nat) : Int) - 1 = (s : Int) by omega]
      exact ref_Norm_l0 st s k (n / 10) (by omega) (by omega) (by omega) (by omega)
    · rw [if_neg (fun e => h ((tmod10 n).1 e)), if_neg h]
theorem ref_Norm_eq (k s : Nat) (n : Int) (st : ByteArray) (hk : s + 2 < k) (hs : s ≤ 9223372036854775807) (h0 : -9223372036854775808 ≤ n) (h1 : n ≤ 9223372036854775807) : federationref1_Norm.f k 3 n (s : Int) st = some (3, (red n s).1, ((red n s).2 : Int), st) := by
  obtain ⟨k, rfl⟩ : ∃ m, k = m + 2 := ⟨k - 2, by omega⟩
  unfold federationref1_Norm.f
  rw [if_pos rfl]
  simp only [federationref1_Norm.j0, federationref1_Norm.j1]
  by_cases h : n = 0
  · subst h
    rw [red_zero]
    by_cases hs0 : (s : Int) > 0
    · rw [if_pos hs0]
      simp only [beq_self_eq_true, if_true]
      exact ref_Norm_l0 st 0 k 0 (by omega) (by omega) (by omega) (by omega)
    · rw [if_neg hs0, show (s : Int) = ((0 : Nat) : Int) by omega]
      simp only [Bool.false_eq_true, if_false]
      exact ref_Norm_l0 st 0 k 0 (by omega) (by omega) (by omega) (by omega)
  · have hl := ref_Norm_l0 st s k n (by omega) hs h0 h1
    by_cases hs0 : (s : Int) > 0
    · rw [if_pos hs0, if_neg (by simpa using h)]; exact hl
    · rw [if_neg hs0]; simp only [Bool.false_eq_true, if_false]; exact hl
end Go.Proofs.Ytglffgneikoeaaa.M
namespace Go.Proofs.Ytglffgneikoeaaa.M
open Go.RowKit Go.Proofs.YtglffgneikoeaaaW.PrintWords Go.Proofs.YtglffgneikoeaaaW.PrintLast Go.Proofs.YtglffgneikoeaaaW.PrintMore
attribute [local go_sem] max2_int min2_int max_two min_two max_three min_three max_four min_four
attribute [local go_sem high] own_gtr own_leq own_geq own_cell_set Option.map_some
set_option linter.unusedVariables false
set_option linter.unusedSimpArgs false
def okB (st : ByteArray) : Bool := st.data.toList.all fun b => decide (32 ≤ b.toNat ∧ b.toNat ≤ 126)
def noS (st : ByteArray) : Bool := st.toList == ([] : List UInt8)
def rightB (kd n sc : Int) (st : ByteArray) : Bool :=
  if kd = 0 then n == 0 && (sc == 0 && noS st)
  else if kd = 1 then decide (0 ≤ n ∧ n ≤ 1) && (sc == 0 && noS st)
  else if kd = 2 then sc == 0 && noS st
  else if kd = 3 then decide (-1000000000000000 < n ∧ n < 1000000000000000 ∧ 0 ≤ sc ∧ sc ≤ 6 ∧ (sc = 0 ∨ n % 10 ≠ 0)) && noS st
  else if kd = 4 then decide (n = 0 ∧ sc = 0 ∧ st.data.size ≤ 40) && okB st
  else if kd = 5 then decide (n = 0 ∧ sc = 0 ∧ st.data.size ≤ 40)
  else false
end Go.Proofs.Ytglffgneikoeaaa.M
namespace Go.Proofs.Ytglffgneikoeaaa.M
open Go.RowKit Go.Proofs.YtglffgneikoeaaaW.PrintWords Go.Proofs.YtglffgneikoeaaaW.PrintLast Go.Proofs.YtglffgneikoeaaaW.PrintMore
attribute [local go_sem] max2_int min2_int max_two min_two max_three min_three max_four min_four
attribute [local go_sem high] own_gtr own_leq own_geq own_cell_set Option.map_some
set_option linter.unusedVariables false
set_option linter.unusedSimpArgs false
def I64 (x : Int) : Prop := -9223372036854775808 ≤ x ∧ x ≤ 9223372036854775807
end Go.Proofs.Ytglffgneikoeaaa.M
namespace Go.Proofs.Ytglffgneikoeaaa.M
open Go.RowKit Go.Proofs.YtglffgneikoeaaaW.PrintWords Go.Proofs.YtglffgneikoeaaaW.PrintLast Go.Proofs.YtglffgneikoeaaaW.PrintMore
attribute [local go_sem] max2_int min2_int max_two min_two max_three min_three max_four min_four
attribute [local go_sem high] own_gtr own_leq own_geq own_cell_set Option.map_some
set_option linter.unusedVariables false
set_option linter.unusedSimpArgs false
structure RD (n : Int) (s : Nat) : Prop where
  lo : -1000000000000000 < n
  hi : n < 1000000000000000
  sc : s ≤ 6
  nm : s = 0 ∨ n % 10 ≠ 0
structure RV (kd n : Int) (s : Nat) : Prop where
  i : I64 n
  d : kd = 3 → RD n s
end Go.Proofs.Ytglffgneikoeaaa.M
namespace Go.Proofs.Ytglffgneikoeaaa.M
open Go.RowKit Go.Proofs.YtglffgneikoeaaaW.PrintWords Go.Proofs.YtglffgneikoeaaaW.PrintLast Go.Proofs.YtglffgneikoeaaaW.PrintMore
attribute [local go_sem] max2_int min2_int max_two min_two max_three min_three max_four min_four
attribute [local go_sem high] own_gtr own_leq own_geq own_cell_set Option.map_some
set_option linter.unusedVariables false
set_option linter.unusedSimpArgs false
theorem within_eq (a n : Int) (ha : I64 a) (h0 : 0 < n) (h1 : n ≤ 4611686018427387904) : federationlaw1_within.f a n = some (a % n) := by
  unfold federationlaw1_within.f I64 at *
  rw [if_neg (by omega)]
  have e1 := Int.mul_tdiv_add_tmod a n
  have e2 := Int.mul_ediv_add_emod a n
  have e3 := Int.emod_lt_of_pos a h0
  have e4 := Int.emod_nonneg a (show n ≠ 0 by omega)
  have e5 := Int.tmod_lt_of_pos a h0
  have e6 := Int.tmod_lt_of_pos (-a) h0
  rw [Int.neg_tmod] at e6
  by_cases c : a.tmod n < 0
  · rw [if_pos c, wrap64_of (by omega) (by omega)]
    have := ((Int.ediv_emod_unique (a := a) (r := a.tmod n + n) (q := a.tdiv n - 1) h0).2 ⟨by rw [Int.mul_sub, Int.mul_one]; omega, by omega, by omega⟩).2
    rw [this]
  · rw [if_neg c]
    have := ((Int.ediv_emod_unique (a := a) (r := a.tmod n) (q := a.tdiv n) h0).2 ⟨by omega, by omega, by omega⟩).2
    rw [this]
theorem emod_bd (a n : Int) (h0 : 0 < n) : 0 ≤ a % n ∧ a % n < n := ⟨Int.emod_nonneg a (by omega), Int.emod_lt_of_pos a h0⟩
theorem RV_right {kd n : Int} {s : Nat} {st : ByteArray} (hn : I64 n) (h : rightB kd n (s : Int) st = true) : RV kd n s := by
  refine ⟨hn, fun e => ?_⟩
  subst e
  unfold rightB at h
  rw [if_neg (by decide), if_neg (by decide), if_neg (by decide), if_pos rfl, Bool.and_eq_true, decide_eq_true_eq] at h
  obtain ⟨⟨a, b, c, d, e⟩, _⟩ := h
  exact ⟨a, b, by omega, by omega⟩
theorem noS_empty : noS (⟨#[]⟩ : ByteArray) = true := by decide +kernel
theorem right_RD {n : Int} {s : Nat} (h : RD n s) : rightB 3 n (s : Int) (⟨#[]⟩ : ByteArray) = true := by
  unfold rightB
  rw [if_neg (by decide), if_neg (by decide), if_neg (by decide), if_pos rfl, noS_empty, Bool.and_true, decide_eq_true_eq]
  exact ⟨h.lo, h.hi, by omega, by have := h.sc; omega, by have := h.nm; omega⟩
theorem RD_red (n : Int) (s : Nat) (h0 : -1000000000000000 < n) (h1 : n < 1000000000000000) (hs : s ≤ 6) : RD (red n s).1 (red n s).2 := by
  have a := red_abs s n
  have b := red_scale s n
  have c := red_done s n
  exact ⟨by omega, by omega, by omega, c⟩
theorem mkText_size (st : ByteArray) : (mkText st).data.size ≤ 40 := by
  unfold mkText strOfNums
  simp [conv8L_length]
  omega
theorem mkText_ok (st : ByteArray) : okB (mkText st) = true := by
  unfold okB mkText strOfNums
  simp only [List.all_eq_true, decide_eq_true_eq, List.map_toArray, List.mem_map, conv8L]
  rintro b ⟨x, hx, rfl⟩
  obtain ⟨c, _, rfl⟩ := List.mem_map.1 (List.mem_of_mem_take hx)
  unfold conv8
  have h1 := emod_bd (c.toNat : Int) 95 (by decide)
  generalize (c.toNat : Int) % 95 = z at *
  have : ((32 + z).toNat % 256) = (32 + z).toNat := Nat.mod_eq_of_lt (by omega)
  simp only [UInt8.toNat_ofNat']
  omega
theorem extract_size (st : ByteArray) (j : Nat) : (st.extract 0 j).data.size = min j st.data.size := by
  rw [← Array.length_toList, Lib.extract_data]
  simp
structure Made (kd n : Int) (s : Nat) (st : ByteArray) : Prop where
  r : rightB kd n (s : Int) st = true
  v : RV kd n s
  sz : st.data.size ≤ 40
  k0 : 0 ≤ kd
  k5 : kd ≤ 5
  z : kd ≠ 3 → s = 0
theorem rd6 (a b c d e f : Int) (i : Int) (h0 : 0 ≤ i) (h1 : i < 6) : rd [a, b, c, d, e, f] i = a ∨ rd [a, b, c, d, e, f] i = b ∨ rd [a, b, c, d, e, f] i = c ∨ rd [a, b, c, d, e, f] i = d ∨ rd [a, b, c, d, e, f] i = e ∨ rd [a, b, c, d, e, f] i = f := by
  have : i = 0 ∨ i = 1 ∨ i = 2 ∨ i = 3 ∨ i = 4 ∨ i = 5 := by omega
  rcases this with rfl | rfl | rfl | rfl | rfl | rfl
  · exact Or.inl rfl
  · exact Or.inr (Or.inl rfl)
  · exact Or.inr (Or.inr (Or.inl rfl))
  · exact Or.inr (Or.inr (Or.inr (Or.inl rfl)))
  · exact Or.inr (Or.inr (Or.inr (Or.inr (Or.inl rfl))))
  · exact Or.inr (Or.inr (Or.inr (Or.inr (Or.inr rfl))))
theorem rd8 (a b c d e f g h : Int) (P : Int → Prop) (pa : P a) (pb : P b) (pc : P c) (pd : P d) (pe : P e) (pf : P f) (pg : P g) (ph : P h) (i : Int) (h0 : 0 ≤ i) (h1 : i < 8) : P (rd [a, b, c, d, e, f, g, h] i) := by
  have : i = 0 ∨ i = 1 ∨ i = 2 ∨ i = 3 ∨ i = 4 ∨ i = 5 ∨ i = 6 ∨ i = 7 := by omega
  rcases this with rfl | rfl | rfl | rfl | rfl | rfl | rfl | rfl
  · exact pa
  · exact pb
  · exact pc
  · exact pd
  · exact pe
  · exact pf
  · exact pg
  · exact ph
theorem I64_tdiv (a b : Int) (ha : I64 a) (hb : 2 ≤ b) : I64 (wrap64 (a.tdiv b)) ∧ wrap64 (a.tdiv b) = a.tdiv b := by
  have h := Int.natAbs_tdiv_le_natAbs a b
  have h2 : (a.tdiv b).natAbs ≤ 4611686018427387904 := by
    rw [Int.natAbs_tdiv]
    have h1 : a.natAbs ≤ 9223372036854775808 := by unfold I64 at ha; omega
    exact Nat.le_trans (Nat.div_le_div_left (show 2 ≤ b.natAbs by omega) (by decide)) (by have := Nat.div_le_div_right (c := 2) h1; simpa using this)
  have e : wrap64 (a.tdiv b) = a.tdiv b := wrap64_of (by omega) (by omega)
  rw [e]
  exact ⟨⟨by omega, by omega⟩, rfl⟩
theorem Make_eq (kind n : Int) (st : ByteArray) (hk : I64 kind) (hn : I64 n) (hs : st.size ≤ 140737488351232) :
    ∃ n' s' st', (∀ k, 60 < k → federationlaw1_Make.f k kind n st = some (kind % 6, n', ((s' : Nat) : Int), st')) ∧ Made (kind % 6) n' s' st' := by
  have hk6 := within_eq kind 6 hk (by decide) (by decide)
  have hb := emod_bd kind 6 (by decide)
  have hd := I64_tdiv kind 6 hk (by decide)
  have hd2 := I64_tdiv kind 36 hk (by decide)
  have h0 : I64 0 := ⟨by decide, by decide⟩
  have em : (⟨#[]⟩ : ByteArray).data.size ≤ 40 := by decide
  have c : kind % 6 = 0 ∨ kind % 6 = 1 ∨ kind % 6 = 2 ∨ kind % 6 = 3 ∨ kind % 6 = 4 ∨ kind % 6 = 5 := by omega
  rcases c with c | c | c | c | c | c
  · have hr : rightB (kind % 6) 0 ((0 : Nat) : Int) (⟨#[]⟩ : ByteArray) = true := by rw [c]; decide +kernel
    refine ⟨0, 0, _, fun k _ => ?_, ⟨hr, RV_right h0 hr, em, hb.1, by omega, fun _ => rfl⟩⟩
    unfold federationlaw1_Make.f federationlaw1_Make_p.f
    rw [hk6, c, if_neg (by decide), Option.bind_some, if_neg (by decide), if_neg (by decide), if_neg (by decide), if_neg (by decide), if_neg (by decide)]
    rfl
  · have hw := within_eq n 2 hn (by decide) (by decide)
    have hm := emod_bd n 2 (by decide)
    have hr : rightB (kind % 6) (n % 2) ((0 : Nat) : Int) (⟨#[]⟩ : ByteArray) = true := by
      rw [c]; unfold rightB; rw [if_neg (by decide), if_pos rfl, noS_empty, decide_eq_true (by omega)]; rfl
    refine ⟨n % 2, 0, _, fun k _ => ?_, ⟨hr, RV_right ⟨by omega, by omega⟩ hr, em, hb.1, by omega, fun _ => rfl⟩⟩
    unfold federationlaw1_Make.f federationlaw1_Make_p.f
    rw [hk6, c, if_neg (by decide), Option.bind_some, if_pos rfl, hw, Option.bind_some]
    rfl
  · have hw := within_eq n 100 hn (by decide) (by decide)
    have hm := emod_bd n 100 (by decide)
    have hi := within_eq (wrap64 (Int.tdiv kind 6)) 8 hd.1 (by decide) (by decide)
    have hj := emod_bd (wrap64 (Int.tdiv kind 6)) 8 (by decide)
    generalize hz : wrap64 (Int.tdiv kind 6) % 8 = j at hi hj
    have hrd : I64 (rd [n, 0, 1, -1, 9223372036854775807, -9223372036854775808, wrap64 (n % 100 - 50), 7] j) := by
      rw [wrap64_of (by omega) (by omega)]
      exact rd8 _ _ _ _ _ _ _ _ I64 hn ⟨by decide, by decide⟩ ⟨by decide, by decide⟩ ⟨by decide, by decide⟩ ⟨by decide, by decide⟩ ⟨by decide, by decide⟩ ⟨by omega, by omega⟩ ⟨by decide, by decide⟩ j hj.1 hj.2
    have hr : rightB (kind % 6) (rd [n, 0, 1, -1, 9223372036854775807, -9223372036854775808, wrap64 (n % 100 - 50), 7] j) ((0 : Nat) : Int) (⟨#[]⟩ : ByteArray) = true := by
      rw [c]; unfold rightB; rw [if_neg (by decide), if_neg (by decide), if_pos rfl, noS_empty]; rfl
    refine ⟨_, 0, _, fun k _ => ?_, ⟨hr, RV_right hrd hr, em, hb.1, by omega, fun _ => rfl⟩⟩
    unfold federationlaw1_Make.f federationlaw1_Make_p.f
    rw [hk6, c, if_neg (by decide), Option.bind_some, if_neg (by decide), if_pos rfl, hw, Option.bind_some, Option.bind_some, hi, Option.bind_some, if_pos hj.1, if_pos (by simp; omega)]
    rfl
  · have hw := within_eq n 2000 hn (by decide) (by decide)
    have hm := emod_bd n 2000 (by decide)
    have hw2 := within_eq n 50 hn (by decide) (by decide)
    have hm2 := emod_bd n 50 (by decide)
    have hi := within_eq (wrap64 (Int.tdiv kind 6)) 6 hd.1 (by decide) (by decide)
    have hj := emod_bd (wrap64 (Int.tdiv kind 6)) 6 (by decide)
    have hi2 := within_eq (wrap64 (Int.tdiv kind 36)) 7 hd2.1 (by decide) (by decide)
    have hj2 := emod_bd (wrap64 (Int.tdiv kind 36)) 7 (by decide)
    generalize hz : wrap64 (Int.tdiv kind 6) % 6 = j at hi hj
    generalize hz2 : wrap64 (Int.tdiv kind 36) % 7 = j2 at hi2 hj2
    have ht1 := Int.tmod_lt_of_pos n (show (0 : Int) < 1000000000000000 by decide)
    have ht2 := Int.tmod_lt_of_pos (-n) (show (0 : Int) < 1000000000000000 by decide)
    rw [Int.neg_tmod] at ht2
    have hx : -1000000000000000 < rd [Int.tmod n 1000000000000000, wrap64 (n % 2000 - 1000), 999999999999999, -999999999999999, 1, wrap64 (wrap64 (n % 50 * 1000) - 20000)] j ∧ rd [Int.tmod n 1000000000000000, wrap64 (n % 2000 - 1000), 999999999999999, -999999999999999, 1, wrap64 (wrap64 (n % 50 * 1000) - 20000)] j < 1000000000000000 := by
      have e1 : wrap64 (n % 2000 - 1000) = n % 2000 - 1000 := wrap64_of (by omega) (by omega)
      have e2 : wrap64 (n % 50 * 1000) = n % 50 * 1000 := wrap64_of (by omega) (by omega)
      have e3 : wrap64 (n % 50 * 1000 - 20000) = n % 50 * 1000 - 20000 := wrap64_of (by omega) (by omega)
      rw [e1, e2, e3]
      rcases rd6 (Int.tmod n 1000000000000000) (n % 2000 - 1000) 999999999999999 (-999999999999999) 1 (n % 50 * 1000 - 20000) j hj.1 hj.2 with h | h | h | h | h | h <;> rw [h] <;> omega
    obtain ⟨t, rfl⟩ : ∃ t : Nat, j2 = (t : Int) := ⟨j2.toNat, by omega⟩
    generalize hy : rd [Int.tmod n 1000000000000000, wrap64 (n % 2000 - 1000), 999999999999999, -999999999999999, 1, wrap64 (wrap64 (n % 50 * 1000) - 20000)] j = y at hx
    have hrd := RD_red y t hx.1 hx.2 (by omega)
    have hr := right_RD hrd
    rw [← c] at hr
    refine ⟨(red y t).1, (red y t).2, _, fun k hk => ?_, ⟨hr, RV_right ⟨by have := hrd.lo; omega, by have := hrd.hi; omega⟩ hr, em, hb.1, by omega, fun e => absurd c e⟩⟩
    unfold federationlaw1_Make.f federationlaw1_Make_p.f
    rw [hk6, c, if_neg (by decide), Option.bind_some, if_neg (by decide), if_neg (by decide), if_pos rfl, hw, Option.bind_some, hw2, Option.bind_some, Option.bind_some, hi, Option.bind_some, if_pos hj.1, if_pos (by simp; omega), hi2, Option.bind_some, hy, ref_Norm_eq k t y _ (by omega) (by omega) (by omega) (by omega), Option.bind_some]
  · have hr : rightB (kind % 6) 0 ((0 : Nat) : Int) (mkText st) = true := by
      have h1 := mkText_size st
      have h2 := mkText_ok st
      rw [c]; unfold rightB; rw [if_neg (by decide), if_neg (by decide), if_neg (by decide), if_neg (by decide), if_pos rfl, h2, decide_eq_true (by omega)]; rfl
    refine ⟨0, 0, _, fun k _ => ?_, ⟨hr, RV_right h0 hr, mkText_size st, hb.1, by omega, fun _ => rfl⟩⟩
    unfold federationlaw1_Make.f
    rw [hk6, c, if_pos rfl, if_pos hs]
    rfl
  · have hz : (st.size : Int) = (st.data.size : Int) := rfl
    have hm : mn (st.size : Int) 40 = ((min 40 st.data.size : Nat) : Int) := by unfold mn; split <;> omega
    have hr : rightB (kind % 6) 0 ((0 : Nat) : Int) (st.extract 0 (min 40 st.data.size)) = true := by
      have h1 := extract_size st (min 40 st.data.size)
      rw [c]; unfold rightB; rw [if_neg (by decide), if_neg (by decide), if_neg (by decide), if_neg (by decide), if_neg (by decide), if_pos rfl, decide_eq_true (by omega)]
    refine ⟨0, 0, _, fun k _ => ?_, ⟨hr, RV_right h0 hr, by rw [extract_size]; omega, hb.1, by omega, fun _ => rfl⟩⟩
    unfold federationlaw1_Make.f federationlaw1_Make_p.f
    rw [hk6, c, if_neg (by decide), Option.bind_some, if_neg (by decide), if_neg (by decide), if_neg (by decide), if_neg (by decide), if_pos rfl, hm, if_pos (by omega), if_pos (by omega)]
    rfl
end Go.Proofs.Ytglffgneikoeaaa.M
namespace Go.Proofs.Ytglffgneikoeaaa.Den
open Go Go.RowKit
open Go.Proofs.Ytglffgneikoeaaa.M
theorem fn_of {P : Program} (g : FuncId) (h : (match P.funcs[g]? with | some fn => !(fn.name == "runtime.NumGoroutine") && fn.body.isSome | none => false) = true) : ∃ fn, P.funcs[g]? = some fn ∧ (fn.name == "runtime.NumGoroutine") = false ∧ fn.body.isSome = true := by
  split at h
  · rename_i fn hf
    simp only [Bool.and_eq_true, Bool.not_eq_true'] at h
    exact ⟨fn, hf, h.1, h.2⟩
  · cases h
def vP (k n s : Int) (l : List UInt8) : PV := .agg [.int .i64 k, .int .i64 n, .int .i64 s, .str l]
theorem makeM_ev (c n : Int) (l : List UInt8) (hc : I64 c) (hn : I64 n) (hs : l.length ≤ 140737488351232) :
    ∃ N S st, Made (c % 6) N S st ∧ Ev PG f_l1_Make [.int .i64 c, .int .i64 n, .str l] (vP (c % 6) N (S : Nat) st.data.toList) := by
  obtain ⟨N, S, st, h1, h2⟩ := Make_eq c n ⟨l.toArray⟩ hc hn (by show l.toArray.size ≤ _; simpa using hs)
  refine ⟨N, S, st, h2, Ev.ofCalls (fn_of _ (by kernel_rfl)) fun X w vs a1 a2 a3 => ?_⟩
  obtain ⟨u, v, t, rfl, r1, r2, r3⟩ := vs_three a1 a2
  rw [r1.int_inv, r2.int_inv, r3.str_inv]
  refine (federationlaw1_Make.calls 61 c n ⟨l.toArray⟩ _ _ _ _ w (h1 61 (by decide))).mono ?_
  rintro e w' ⟨he, bel⟩
  exact ⟨⟨_, he, R_val X _ _ _ _⟩, bel⟩
theorem w3_kt : callF PG (fOrc (fun _ _ => false) [.op (.bin .rem ty_int) [.atom 0, .atom 1] (.atom 2), .op (.bin .lss ty_int) [.atom 2, .int .i64 0] (.bool true), .op (.bin .add ty_int) [.atom 2, .atom 1] (.atom 3)]) 5 f_l3_within [.atom 0, .atom 1] [] = some (.atom 3, []) := by kernel_rfl
theorem w3_kf : callF PG (fOrc (fun _ _ => false) [.op (.bin .rem ty_int) [.atom 0, .atom 1] (.atom 2), .op (.bin .lss ty_int) [.atom 2, .int .i64 0] (.bool false)]) 5 f_l3_within [.atom 0, .atom 1] [] = some (.atom 2, []) := by kernel_rfl
theorem within3_ev (a n : Int) (hn : n ≠ 0) : Ev PG f_l3_within [.int .i64 a, .int .i64 n] (.int .i64 (wthn a n)) := by
  by_cases hc : a.tmod n < 0
  · have e : wthn a n = IntKind.i64.wrap (a.tmod n + n) := if_pos hc
    rw [e]
    exact Ev.facts prog_ok (nuL_okB (l := [.int .i64 a, .int .i64 n, .int .i64 (a.tmod n), .int .i64 (IntKind.i64.wrap (a.tmod n + n))]) rfl)
      w3_kt ⟨fInt rfl rfl rfl (by simp [intP, hn]) (by decide) rfl, fCmp rfl rfl rfl (by simp [intP, hc]) (by decide) rfl, fInt rfl rfl rfl rfl (by decide) rfl, trivial⟩ rfl rfl
  · have e : wthn a n = a.tmod n := if_neg hc
    rw [e]
    exact Ev.facts prog_ok (nuL_okB (l := [.int .i64 a, .int .i64 n, .int .i64 (a.tmod n)]) rfl)
      w3_kf ⟨fInt rfl rfl rfl (by simp [intP, hn]) (by decide) rfl, fCmp rfl rfl rfl (by simp [intP, hc]) (by decide) rfl, trivial⟩ rfl rfl
end Go.Proofs.Ytglffgneikoeaaa.Den
namespace Go.Proofs.Ytglffgneikoeaaa.Den
open Go Go.RowKit
abbrev nI (n : Int) : PV := .int .i64 n
abbrev oI (op : BinOp) (x y r : PV) : Fact := .op (.bin op ty_int) [x, y] r
def noOwn (_ : TypeId) (_ : Nat) : Bool := false
def tFacts (k L key u l : Nat) : List Fact :=
  [oI .quo (.atom 0) (nI 4) (.atom 3), .prim f_l3_within [.atom 3, nI 4] (nI ((k : Int) - 1)), .prim f_l3_Name [.atom 0] (.atom 4), .op (.len ty_sl_int) [.atom 1] (.atom 2),
   oI .quo (.atom 0) (nI 16) (.atom 5), .prim f_l3_within [.atom 5, nI k] (nI key), oI .quo (.atom 0) (nI 64) (.atom 6), .prim f_l3_within [.atom 6, nI 3] (nI u),
   oI .quo (.atom 0) (nI 256) (.atom 7), .prim f_l3_within [.atom 7, nI 3] (nI l), oI .quo (.atom 0) (nI 512) (.atom 8), oI .quo (.atom 0) (nI 1024) (.atom 9)] ++
  (List.range L).flatMap (fun (i : Nat) => [oI .lss (nI i) (.atom 2) (.bool true), .op (.ix ty_sl_int) [.atom 1, nI i] (.ref [.atom (20 + i)]), .prim f_l3_within [.atom (20 + i), nI 1073741824] (.atom (24 + i)), oI .rem (.atom (24 + i)) (nI 5) (.atom (28 + i)), oI .add (nI 1) (.atom (28 + i)) (.atom (32 + i)),
     oI .quo (.atom (24 + i)) (nI 5) (.atom (36 + i)), oI .rem (.atom (36 + i)) (nI 3) (.atom (40 + i)), oI .eql (.atom (40 + i)) (nI 0) (.atom (44 + i))]) ++
  (List.range (k - L)).map (fun (i : Nat) => oI .lss (nI (L + i : Nat)) (.atom 2) (.bool false)) ++
  (List.range l).flatMap (fun (i : Nat) => [oI .add (.atom 8) (nI i) (.atom (48 + i)), .prim f_l3_within [.atom (48 + i), nI k] (.atom (50 + i)), oI .add (.atom 9) (nI i) (.atom (52 + i)), .prim f_l3_Name [.atom (52 + i)] (.atom (54 + i))])
def colA (L key i : Nat) : PV := .agg [.str [UInt8.ofNat (97 + i)], if i < L then .atom (32 + i) else nI (1 + (2 + i) % 5 : Nat), if i = key then .bool true else if i < L then .atom (44 + i) else .bool ((2 + i) / 5 % 3 == 0)]
def uqA (k key u : Nat) : PV := if u = 0 then .nilslice else .slice 1 ((List.range (min u k)).map fun (i : Nat) => nI ((key + 1 + i) % k : Nat))
def lkA (l : Nat) : PV := if l = 0 then .nilslice else .slice 2 ((List.range l).map fun (i : Nat) => .agg [.atom (50 + i), .atom (54 + i)])
def tabC (nm cols key uq lk : PV) : PV := .agg [nm, cols, key, uq, nI 0, .str [], nI 0, nI 0, nI 0, .str [], .nilslice, lk]
def tabA (k L key u l : Nat) : PV := tabC (.atom 4) (.slice 3 ((List.range k).map (colA L key))) (nI key) (uqA k key u) (lkA l)
noncomputable def tabOkB (k L key u l : Nat) : Bool := okR (tabA k L key u l) (callF PG (fOrc noOwn (tFacts k L key u l)) 60 f_l3_Table [.atom 0, .atom 1, .nilslice] [])
theorem table_k1 : ((List.range 2).all fun L => (List.range 1).all fun key => (List.range 3).all fun u => (List.range 3).all fun l => tabOkB 1 L key u l) = true := by kernel_rfl
theorem table_k2 : ((List.range 3).all fun L => (List.range 2).all fun key => (List.range 3).all fun u => (List.range 3).all fun l => tabOkB 2 L key u l) = true := by kernel_rfl
theorem table_k3 : ((List.range 4).all fun L => (List.range 3).all fun key => (List.range 3).all fun u => (List.range 3).all fun l => tabOkB 3 L key u l) = true := by kernel_rfl
theorem table_k40 : ((List.range 5).all fun L => (List.range 3).all fun u => (List.range 3).all fun l => tabOkB 4 L 0 u l) = true := by kernel_rfl
theorem table_k41 : ((List.range 5).all fun L => (List.range 3).all fun u => (List.range 3).all fun l => tabOkB 4 L 1 u l) = true := by kernel_rfl
theorem table_k42 : ((List.range 5).all fun L => (List.range 3).all fun u => (List.range 3).all fun l => tabOkB 4 L 2 u l) = true := by kernel_rfl
theorem table_k43 : ((List.range 5).all fun L => (List.range 3).all fun u => (List.range 3).all fun l => tabOkB 4 L 3 u l) = true := by kernel_rfl
theorem table_k4 : ((List.range 5).all fun L => (List.range 4).all fun key => (List.range 3).all fun u => (List.range 3).all fun l => tabOkB 4 L key u l) = true := by
  refine List.all_eq_true.2 fun L hL => List.all_eq_true.2 fun key hk => List.all_eq_true.2 fun u hu => List.all_eq_true.2 fun l hl => ?_
  rw [List.mem_range] at hk
  have : key = 0 ∨ key = 1 ∨ key = 2 ∨ key = 3 := by omega
  rcases this with rfl | rfl | rfl | rfl
  · exact List.all_eq_true.1 (List.all_eq_true.1 (List.all_eq_true.1 table_k40 L hL) u hu) l hl
  · exact List.all_eq_true.1 (List.all_eq_true.1 (List.all_eq_true.1 table_k41 L hL) u hu) l hl
  · exact List.all_eq_true.1 (List.all_eq_true.1 (List.all_eq_true.1 table_k42 L hL) u hu) l hl
  · exact List.all_eq_true.1 (List.all_eq_true.1 (List.all_eq_true.1 table_k43 L hL) u hu) l hl
theorem table_k (k L key u l : Nat) (hk : 1 ≤ k ∧ k ≤ 4) (hL : L ≤ k) (hkey : key < k) (hu : u < 3) (hl : l < 3) : tabOkB k L key u l = true := by
  have : k = 1 ∨ k = 2 ∨ k = 3 ∨ k = 4 := by omega
  rcases this with rfl | rfl | rfl | rfl
  · exact List.all_eq_true.1 (List.all_eq_true.1 (List.all_eq_true.1 (List.all_eq_true.1 table_k1 L (by rw [List.mem_range]; omega)) key (by rw [List.mem_range]; omega)) u (by rw [List.mem_range]; omega)) l (by rw [List.mem_range]; omega)
  · exact List.all_eq_true.1 (List.all_eq_true.1 (List.all_eq_true.1 (List.all_eq_true.1 table_k2 L (by rw [List.mem_range]; omega)) key (by rw [List.mem_range]; omega)) u (by rw [List.mem_range]; omega)) l (by rw [List.mem_range]; omega)
  · exact List.all_eq_true.1 (List.all_eq_true.1 (List.all_eq_true.1 (List.all_eq_true.1 table_k3 L (by rw [List.mem_range]; omega)) key (by rw [List.mem_range]; omega)) u (by rw [List.mem_range]; omega)) l (by rw [List.mem_range]; omega)
  · exact List.all_eq_true.1 (List.all_eq_true.1 (List.all_eq_true.1 (List.all_eq_true.1 table_k4 L (by rw [List.mem_range]; omega)) key (by rw [List.mem_range]; omega)) u (by rw [List.mem_range]; omega)) l (by rw [List.mem_range]; omega)
end Go.Proofs.Ytglffgneikoeaaa.Den
namespace Go.Proofs.Ytglffgneikoeaaa.Den
open Go Go.RowKit
theorem name_k : ((List.range 4).all fun (i : Nat) => okR ([PV.str [116], .str [117], .str [119, 95, 49], .str [116, 119, 101, 108, 118, 101, 95, 98, 121, 116, 101, 115]].getD i .any) (callF PG (fOrc noOwn [.prim f_l3_within [.atom 0, nI 4] (nI i)]) 20 f_l3_Name [.atom 0] [])) = true := by kernel_rfl
def nameL (n : Int) : List UInt8 := [[116], [117], [119, 95, 49], [116, 119, 101, 108, 118, 101, 95, 98, 121, 116, 101, 115]].getD (wthn n 4).toNat []
theorem name_ev (n : Int) : Ev PG f_l3_Name [nI n] (.str (nameL n)) := by
  obtain ⟨h1, h2⟩ := wthn_range n 4 (by decide) (by decide)
  obtain ⟨i, hi⟩ : ∃ i : Nat, wthn n 4 = i := ⟨(wthn n 4).toNat, by omega⟩
  have hw := within3_ev n 4 (by decide)
  rw [hi] at hw
  have hk := okR_eq (List.all_eq_true.1 name_k i (by rw [List.mem_range]; omega))
  have e : nameL n = ([[116], [117], [119, 95, 49], [116, 119, 101, 108, 118, 101, 95, 98, 121, 116, 101, 115]] : List (List UInt8)).getD i [] := by unfold nameL; rw [hi]; rfl
  rw [e]
  have h4 : i = 0 ∨ i = 1 ∨ i = 2 ∨ i = 3 := by omega
  rcases h4 with rfl | rfl | rfl | rfl
  all_goals exact Ev.facts prog_ok (nuL_okB (l := [nI n]) rfl) hk ⟨⟨hw, rfl⟩, trivial⟩ rfl rfl
end Go.Proofs.Ytglffgneikoeaaa.Den
namespace Go.Proofs.Ytglffgneikoeaaa.Den
open Go Go.RowKit
theorem slLen_ok {mv : PV} {xs : List Int} (hmv : mv = .slice 1 (xs.map (.int .i64)) ∨ (mv = .nilslice ∧ xs = [])) : lenP PG ty_sl_int mv = some (nI xs.length) := by
  have hu : PG.underlying ty_sl_int = some (.slice ty_int) := by kernel_rfl
  unfold lenP
  rw [hu]
  rcases hmv with rfl | ⟨rfl, rfl⟩
  · simp
  · rfl
theorem slIx_ok {mv : PV} {xs : List Int} (hmv : mv = .slice 1 (xs.map (.int .i64)) ∨ (mv = .nilslice ∧ xs = [])) {i : Nat} (hi : i < xs.length) : indexAddrP PG ty_sl_int mv (nI i) = some (.ref [nI (xs.getD i 0)]) := by
  have hu : PG.underlying ty_sl_int = some (.slice ty_int) := by kernel_rfl
  have hs : sizeP PG ty_int = some 1 := by kernel_rfl
  unfold indexAddrP
  rw [hu]
  rcases hmv with rfl | ⟨rfl, rfl⟩
  · have : (xs.map (PV.int .i64))[((i : Nat) : Int).toNat]? = some (nI (xs.getD i 0)) := by
      simp [hi]
    simp only [hs, true_and]
    rw [if_pos (by omega), this]
    rfl
  · simp at hi
theorem fLen {nu : Nat → PV} {j k : Nat} {mv : PV} {xs : List Int} (hmv : mv = .slice 1 (xs.map (.int .i64)) ∨ (mv = .nilslice ∧ xs = [])) (h1 : nu j = mv) (h2 : nu k = nI xs.length) : FactOk PG nu (.op (.len ty_sl_int) [.atom j] (.atom k)) := by
  refine ⟨?_, ?_⟩
  · show lenP PG ty_sl_int (nu j) = some (nu k)
    rw [h1, h2]; exact slLen_ok hmv
  · show (nu k).one = true
    rw [h2]; rfl
theorem fIx {nu : Nat → PV} {j k i : Nat} {mv : PV} {xs : List Int} (hmv : mv = .slice 1 (xs.map (.int .i64)) ∨ (mv = .nilslice ∧ xs = [])) (hi : i < xs.length) (h1 : nu j = mv) (h2 : nu k = nI (xs.getD i 0)) : FactOk PG nu (.op (.ix ty_sl_int) [.atom j, nI i] (.ref [.atom k])) := by
  refine ⟨?_, rfl⟩
  show indexAddrP PG ty_sl_int (nu j) (nI i) = some (.ref [nu k])
  rw [h1, h2]; exact slIx_ok hmv hi
theorem pureL_of {l : List PV} (h : ∀ p ∈ l, p.pure = true) : PV.pureL l = true := by
  induction l with
  | nil => rfl
  | cons p l ih =>
    simp only [PV.pureL, Bool.and_eq_true]
    exact ⟨h p (by simp), ih fun q hq => h q (by simp [hq])⟩
theorem ints_good {mv : PV} {xs : List Int} (hmv : mv = .slice 1 (xs.map (.int .i64)) ∨ (mv = .nilslice ∧ xs = [])) : (mv.clean && mv.pure) = true ∧ mv.one = true := by
  rcases hmv with rfl | ⟨rfl, _⟩
  · refine ⟨?_, rfl⟩
    simp only [PV.clean, Bool.true_and]
    show PV.pureL _ = true
    exact pureL_of fun p hp => by obtain ⟨x, _, rfl⟩ := List.mem_map.1 hp; rfl
  · exact ⟨rfl, rfl⟩
abbrev w6' (n : Int) : Int := IntKind.i64.wrap n
def tM (xs : List Int) (i : Nat) : Int := wthn (xs.getD i 0) 1073741824
def tL (n : Int) (mv : PV) (xs : List Int) (k : Nat) : List PV :=
  [nI n, mv, nI xs.length, nI (w6' (n.tdiv 4)), .str (nameL n), nI (w6' (n.tdiv 16)), nI (w6' (n.tdiv 64)), nI (w6' (n.tdiv 256)), nI (w6' (n.tdiv 512)), nI (w6' (n.tdiv 1024)),
   nI 0, nI 0, nI 0, nI 0, nI 0, nI 0, nI 0, nI 0, nI 0, nI 0,
   nI (xs.getD 0 0), nI (xs.getD 1 0), nI (xs.getD 2 0), nI (xs.getD 3 0), nI (tM xs 0), nI (tM xs 1), nI (tM xs 2), nI (tM xs 3),
   nI ((tM xs 0).tmod 5), nI ((tM xs 1).tmod 5), nI ((tM xs 2).tmod 5), nI ((tM xs 3).tmod 5), nI (w6' (1 + (tM xs 0).tmod 5)), nI (w6' (1 + (tM xs 1).tmod 5)), nI (w6' (1 + (tM xs 2).tmod 5)), nI (w6' (1 + (tM xs 3).tmod 5)),
   nI (w6' ((tM xs 0).tdiv 5)), nI (w6' ((tM xs 1).tdiv 5)), nI (w6' ((tM xs 2).tdiv 5)), nI (w6' ((tM xs 3).tdiv 5)), nI ((w6' ((tM xs 0).tdiv 5)).tmod 3), nI ((w6' ((tM xs 1).tdiv 5)).tmod 3), nI ((w6' ((tM xs 2).tdiv 5)).tmod 3), nI ((w6' ((tM xs 3).tdiv 5)).tmod 3),
   .bool ((w6' ((tM xs 0).tdiv 5)).tmod 3 == 0), .bool ((w6' ((tM xs 1).tdiv 5)).tmod 3 == 0), .bool ((w6' ((tM xs 2).tdiv 5)).tmod 3 == 0), .bool ((w6' ((tM xs 3).tdiv 5)).tmod 3 == 0),
   nI (w6' (w6' (n.tdiv 512) + 0)), nI (w6' (w6' (n.tdiv 512) + 1)), nI (wthn (w6' (w6' (n.tdiv 512) + 0)) k), nI (wthn (w6' (w6' (n.tdiv 512) + 1)) k), nI (w6' (w6' (n.tdiv 1024) + 0)), nI (w6' (w6' (n.tdiv 1024) + 1)), .str (nameL (w6' (w6' (n.tdiv 1024) + 0))), .str (nameL (w6' (w6' (n.tdiv 1024) + 1)))]
theorem tL_ok (n : Int) {mv : PV} {xs : List Int} (hmv : mv = .slice 1 (xs.map (.int .i64)) ∨ (mv = .nilslice ∧ xs = [])) (k : Nat) : NuOk (nuL (tL n mv xs k)) := by
  refine nuL_okB ?_
  unfold tL
  simp only [List.all_cons, (ints_good hmv).1, List.all_nil]
  rfl
theorem fprim {nu : Nat → PV} {g : FuncId} {args : List PV} {r : PV} {a : List PV} {b : PV} (h : Ev PG g a b) (h1 : args.map (subD nu) = a) (h2 : subD nu r = b) (h3 : oneB nu r = true) : FactOk PG nu (.prim g args r) := ⟨by rw [h1, h2]; exact h, h3⟩
theorem tFacts_ok (n : Int) {mv : PV} {xs : List Int} (hmv : mv = .slice 1 (xs.map (.int .i64)) ∨ (mv = .nilslice ∧ xs = [])) (k L key u l : Nat) (hk : 1 ≤ k ∧ k ≤ 4) (hL : L = min xs.length k) (e1 : wthn (w6' (n.tdiv 4)) 4 = (k : Int) - 1) (e2 : wthn (w6' (n.tdiv 16)) k = key)
    (e3 : wthn (w6' (n.tdiv 64)) 3 = u) (e4 : wthn (w6' (n.tdiv 256)) 3 = l) (hl : l < 3) : FactsOk PG (nuL (tL n mv xs k)) (tFacts k L key u l) := by
  have hk0 : (k : Int) ≠ 0 := by omega
  have four : ∀ i, i < L → (i = 0 ∨ i = 1 ∨ i = 2 ∨ i = 3) ∧ i < xs.length := fun i hi => by omega
  have w1 := within3_ev (w6' (n.tdiv 4)) 4 (by decide)
  have w2 := within3_ev (w6' (n.tdiv 16)) k hk0
  have w3 := within3_ev (w6' (n.tdiv 64)) 3 (by decide)
  have w4 := within3_ev (w6' (n.tdiv 256)) 3 (by decide)
  rw [e1] at w1
  rw [e2] at w2
  rw [e3] at w3
  rw [e4] at w4
  unfold tFacts
  refine FactsOk.append (FactsOk.append (FactsOk.append ⟨?_, ?_, ?_, ?_, ?_, ?_, ?_, ?_, ?_, ?_, ?_, ?_, trivial⟩ (FactsOk.of ?_)) (FactsOk.of ?_)) (FactsOk.of ?_)
  · exact fInt rfl rfl rfl rfl (by decide) rfl
  · exact fprim w1 rfl rfl rfl
  · exact fprim (name_ev n) rfl rfl rfl
  · exact fLen hmv rfl rfl
  · exact fInt rfl rfl rfl rfl (by decide) rfl
  · exact fprim w2 rfl rfl rfl
  · exact fInt rfl rfl rfl rfl (by decide) rfl
  · exact fprim w3 rfl rfl rfl
  · exact fInt rfl rfl rfl rfl (by decide) rfl
  · exact fprim w4 rfl rfl rfl
  · exact fInt rfl rfl rfl rfl (by decide) rfl
  · exact fInt rfl rfl rfl rfl (by decide) rfl
  · intro f hf
    obtain ⟨i, hi, hf⟩ := List.mem_flatMap.1 hf
    rw [List.mem_range] at hi
    obtain ⟨h4, hx⟩ := four i hi
    have hlt : ((i : Nat) : Int) < (xs.length : Int) := by omega
    have hw := within3_ev (xs.getD i 0) 1073741824 (by decide)
    simp only [List.mem_cons, List.not_mem_nil, or_false] at hf
    rcases hf with rfl | rfl | rfl | rfl | rfl | rfl | rfl | rfl
    · exact fCmp (c := true) (a := i) (b := xs.length) rfl rfl rfl (by simp [intP, hlt]) (by decide) rfl
    · rcases h4 with rfl | rfl | rfl | rfl <;> exact fIx hmv hx rfl rfl
    · rcases h4 with rfl | rfl | rfl | rfl <;> exact fprim hw rfl rfl rfl
    · rcases h4 with rfl | rfl | rfl | rfl <;> exact fInt rfl rfl rfl rfl (by decide) rfl
    · rcases h4 with rfl | rfl | rfl | rfl <;> exact fInt rfl rfl rfl rfl (by decide) rfl
    · rcases h4 with rfl | rfl | rfl | rfl <;> exact fInt rfl rfl rfl rfl (by decide) rfl
    · rcases h4 with rfl | rfl | rfl | rfl <;> exact fInt rfl rfl rfl rfl (by decide) rfl
    · rcases h4 with rfl | rfl | rfl | rfl <;> exact fCmp rfl rfl rfl rfl (by decide) rfl
  · intro f hf
    obtain ⟨i, hi, rfl⟩ := List.mem_map.1 hf
    rw [List.mem_range] at hi
    have hge : ¬ ((L + i : Nat) : Int) < (xs.length : Int) := by omega
    exact fCmp (c := false) (a := (L + i : Nat)) (b := xs.length) rfl rfl rfl (by simp only [intP]; rw [decide_eq_false hge]) (by decide) rfl
  · intro f hf
    obtain ⟨i, hi, hf⟩ := List.mem_flatMap.1 hf
    rw [List.mem_range] at hi
    have h2 : i = 0 ∨ i = 1 := by omega
    have hw := within3_ev (w6' (w6' (n.tdiv 512) + i)) k hk0
    have hn := name_ev (w6' (w6' (n.tdiv 1024) + i))
    simp only [List.mem_cons, List.not_mem_nil, or_false] at hf
    rcases hf with rfl | rfl | rfl | rfl <;> rcases h2 with rfl | rfl
    · exact fInt rfl rfl rfl rfl (by decide) rfl
    · exact fInt rfl rfl rfl rfl (by decide) rfl
    · exact fprim hw rfl rfl rfl
    · exact fprim hw rfl rfl rfl
    · exact fInt rfl rfl rfl rfl (by decide) rfl
    · exact fInt rfl rfl rfl rfl (by decide) rfl
    · exact fprim hn rfl rfl rfl
    · exact fprim hn rfl rfl rfl
end Go.Proofs.Ytglffgneikoeaaa.Den
namespace Go.Proofs.Ytglffgneikoeaaa.Den
open Go Go.RowKit
def goodB (p : PV) : Bool := p.clean && (p.pure && p.one)
def colP5 (ty : Nat → Int) (nn : Nat → Bool) (i : Nat) : PV := .agg [.str [UInt8.ofNat (97 + i)], nI (ty i), .bool (nn i)]
def tabP (nm : List UInt8) (k : Nat) (ty : Nat → Int) (nn : Nat → Bool) (key : Nat) (uq lk : PV) : PV := tabC (.str nm) (.slice 3 ((List.range k).map (colP5 ty nn))) (nI key) uq lk
theorem uq_good (nu : Nat → PV) (k key u : Nat) : goodB (subD nu (uqA k key u)) = true := by
  unfold uqA
  split
  · rfl
  · show (true && (PV.pureL (subDL nu _) && true)) = true
    rw [pureL_of]
    · rfl
    · intro p hp
      rw [subDL_map, List.map_map] at hp
      obtain ⟨x, _, rfl⟩ := List.mem_map.1 hp
      rfl
theorem lk_good (n : Int) (mv : PV) (xs : List Int) (k l : Nat) (hl : l < 3) : goodB (subD (nuL (tL n mv xs k)) (lkA l)) = true := by
  have : l = 0 ∨ l = 1 ∨ l = 2 := by omega
  rcases this with rfl | rfl | rfl <;> rfl
theorem sub_tabA (n : Int) (mv : PV) (xs : List Int) (k L key u l : Nat) (hk : k ≤ 4) : ∃ ty nn, (∀ i, i < 4 → 1 ≤ ty i ∧ ty i ≤ 5) ∧ nn key = true ∧
    subD (nuL (tL n mv xs k)) (tabA k L key u l) = tabP (nameL n) k ty nn key (subD (nuL (tL n mv xs k)) (uqA k key u)) (subD (nuL (tL n mv xs k)) (lkA l)) := by
  refine ⟨fun i => if i < L then w6' (1 + (tM xs i).tmod 5) else (1 + (2 + i) % 5 : Nat), fun i => if i = key then true else if i < L then (w6' ((tM xs i).tdiv 5)).tmod 3 == 0 else ((2 + i) / 5 % 3 == 0), fun i _ => ?_, if_pos rfl, ?_⟩
  · show 1 ≤ (if i < L then w6' (1 + (tM xs i).tmod 5) else ((1 + (2 + i) % 5 : Nat) : Int)) ∧ (if i < L then w6' (1 + (tM xs i).tmod 5) else ((1 + (2 + i) % 5 : Nat) : Int)) ≤ 5
    split
    · obtain ⟨h1, h2⟩ := wthn_range (xs.getD i 0) 1073741824 (by decide) (by decide)
      have h1' : 0 ≤ tM xs i := h1
      have e : (tM xs i).tmod 5 = tM xs i % 5 := Int.tmod_eq_emod_of_nonneg h1'
      have e2 : w6' (1 + tM xs i % 5) = 1 + tM xs i % 5 := Go.IntWalk.i64_in _ (by omega)
      rw [e, e2]; omega
    · omega
  · show tabC _ (.slice 3 (subDL _ ((List.range k).map (colA L key)))) _ _ _ = _
    have : subDL (nuL (tL n mv xs k)) ((List.range k).map (colA L key)) = (List.range k).map (colP5 (fun i => if i < L then w6' (1 + (tM xs i).tmod 5) else (1 + (2 + i) % 5 : Nat)) (fun i => if i = key then true else if i < L then (w6' ((tM xs i).tdiv 5)).tmod 3 == 0 else ((2 + i) / 5 % 3 == 0))) := by
      rw [subDL_map, List.map_map]
      refine List.map_congr_left fun i hi => ?_
      rw [List.mem_range] at hi
      have h4 : i = 0 ∨ i = 1 ∨ i = 2 ∨ i = 3 := by omega
      simp only [Function.comp, colA, colP5]
      by_cases h1 : i < L
      · by_cases h2 : i = key
        · simp only [if_pos h1, if_pos h2]
          rcases h4 with rfl | rfl | rfl | rfl <;> rfl
        · simp only [if_pos h1, if_neg h2]
          rcases h4 with rfl | rfl | rfl | rfl <;> rfl
      · by_cases h2 : i = key
        · simp only [if_neg h1, if_pos h2]
          rcases h4 with rfl | rfl | rfl | rfl <;> rfl
        · simp only [if_neg h1, if_neg h2]
          rcases h4 with rfl | rfl | rfl | rfl <;> rfl
    rw [this]
    rfl
theorem pure_tab {nm : List UInt8} {k : Nat} {ty : Nat → Int} {nn : Nat → Bool} {key : Nat} {uq lk : PV} (h1 : goodB uq = true) (h2 : goodB lk = true) : ((tabP nm k ty nn key uq lk).pure && (tabP nm k ty nn key uq lk).shut2) = true := by
  simp only [goodB, Bool.and_eq_true] at h1 h2
  have e : PV.pureL ((List.range k).map (colP5 ty nn)) = true := pureL_of fun p hp => by obtain ⟨i, _, rfl⟩ := List.mem_map.1 hp; rfl
  rw [Bool.and_eq_true]
  constructor
  · simp only [tabP, tabC, PV.pure, PV.pureL, e, h1.2.1, h2.2.1, Bool.and_self]
  · show (true && (true && (true && (uq.clean && (true && (true && (true && (true && (true && (true && (true && (lk.clean && true)))))))))))) = true
    rw [h1.1, h2.1]; rfl
theorem table_ev (n : Int) {mv : PV} {xs : List Int} (hmv : mv = .slice 1 (xs.map (.int .i64)) ∨ (mv = .nilslice ∧ xs = [])) :
    ∃ (k key : Nat) (nm : List UInt8) (ty : Nat → Int) (nn : Nat → Bool) (uq lk : PV), (1 ≤ k ∧ k ≤ 4) ∧ key < k ∧ (∀ i, i < 4 → 1 ≤ ty i ∧ ty i ≤ 5) ∧ goodB uq = true ∧ goodB lk = true ∧ Ev PG f_l3_Table [nI n, mv, .nilslice] (tabP nm k ty nn key uq lk) := by
  obtain ⟨a1, a2⟩ := wthn_range (w6' (n.tdiv 4)) 4 (by decide) (by decide)
  obtain ⟨k, hk⟩ : ∃ k : Nat, wthn (w6' (n.tdiv 4)) 4 = (k : Int) - 1 := ⟨(wthn (w6' (n.tdiv 4)) 4).toNat + 1, by omega⟩
  have hk4 : 1 ≤ k ∧ k ≤ 4 := by omega
  obtain ⟨b1, b2⟩ := wthn_range (w6' (n.tdiv 16)) k (by omega) (by omega)
  obtain ⟨key, hkey⟩ : ∃ j : Nat, wthn (w6' (n.tdiv 16)) k = j := ⟨(wthn (w6' (n.tdiv 16)) k).toNat, by omega⟩
  obtain ⟨c1, c2⟩ := wthn_range (w6' (n.tdiv 64)) 3 (by decide) (by decide)
  obtain ⟨u, hu⟩ : ∃ j : Nat, wthn (w6' (n.tdiv 64)) 3 = j := ⟨(wthn (w6' (n.tdiv 64)) 3).toNat, by omega⟩
  obtain ⟨d1, d2⟩ := wthn_range (w6' (n.tdiv 256)) 3 (by decide) (by decide)
  obtain ⟨l, hl⟩ : ∃ j : Nat, wthn (w6' (n.tdiv 256)) 3 = j := ⟨(wthn (w6' (n.tdiv 256)) 3).toNat, by omega⟩
  have hf := tFacts_ok n hmv k (min xs.length k) key u l hk4 rfl hk hkey hu hl (by omega)
  have hr := okR_eq (table_k k (min xs.length k) key u l hk4 (by omega) (by omega) (by omega) (by omega))
  obtain ⟨ty, nn, t1, t2, t3⟩ := sub_tabA n mv xs k (min xs.length k) key u l (by omega)
  have hu' := uq_good (nuL (tL n mv xs k)) k key u
  have hl' := lk_good n mv xs k l (by omega)
  refine ⟨k, key, nameL n, ty, nn, _, _, hk4, by omega, t1, hu', hl', ?_⟩
  rw [← t3]
  have hg := ints_good hmv
  simp only [Bool.and_eq_true] at hg
  refine Ev.facts prog_ok (tL_ok n hmv k) hr hf ?_ (by rw [t3]; exact pure_tab hu' hl')
  show ((true && true) && true && (((mv.pure && mv.one) && true) && (_ && true))) = true
  rw [hg.1.2, hg.2]; rfl
end Go.Proofs.Ytglffgneikoeaaa.Den
namespace Go.Proofs.Ytglffgneikoeaaa.Den
open Go Go.RowKit
def colA5 (i : Nat) : PV := .agg [.str [UInt8.ofNat (97 + i)], .atom (4 + i), .atom (8 + i)]
def tabA5 (k : Nat) : PV := tabC (.atom 3) (.slice 3 ((List.range k).map colA5)) (.atom 12) (.atom 13) (.atom 14)
def mk4 (b : Nat) : List PV := [.atom b, .atom (b + 1), .atom (b + 2), .atom (b + 3)]
def rFacts (k m : Nat) (g : Nat → Bool) : List Fact :=
  .op (.len ty_sl_int) [.atom 0] (.atom 1) ::
  ((List.range m).flatMap (fun (i : Nat) => [oI .lss (nI i) (.atom 1) (.bool true), .op (.ix ty_sl_int) [.atom 0, nI i] (.ref [.atom (20 + i)]), .prim f_l4_within [.atom (20 + i), nI 1099511627776] (.atom (24 + i)), oI .rem (.atom (24 + i)) (nI 7) (.atom (28 + i)), oI .gtr (.atom (28 + i)) (nI 0) (.bool (g i)),
     oI .quo (.atom (24 + i)) (nI 7) (.atom (32 + i)), oI .rem (.atom (32 + i)) (nI 30) (.atom (36 + i)), oI .mul (nI 6) (.atom (36 + i)) (.atom (40 + i)), oI .add (.atom (4 + i)) (.atom (40 + i)) (.atom (44 + i)),
     oI .quo (.atom (24 + i)) (nI 50) (.atom (48 + i)), oI .rem (.atom (48 + i)) (nI 200) (.atom (52 + i)), oI .sub (.atom (52 + i)) (nI 100) (.atom (56 + i)), .prim f_l1_Make [.atom (44 + i), .atom (56 + i), .atom 2] (.agg (mk4 (60 + 4 * i)))]) ++
  (List.range (k - m)).flatMap (fun (j : Nat) => [oI .lss (nI (m + j : Nat)) (.atom 1) (.bool false), oI .add (.atom (4 + (m + j))) (nI 0) (.atom (76 + (m + j))), .prim f_l1_Make [.atom (76 + (m + j)), nI (-100), .atom 2] (.agg (mk4 (80 + 4 * (m + j))))]))
def zeroV : List PV := [nI 0, nI 0, nI 0, .str []]
def rowA5 (m : Nat) (g : Nat → Bool) (i : Nat) : List PV := if i < m then (if g i then mk4 (60 + 4 * i) else zeroV) else (if i = 0 then zeroV else mk4 (80 + 4 * i))
def okRow5 (k : Nat) (cs : List PV) : Option (PV × List Res) → Bool
  | some (.ms i n, s) => match s[i]? with | some (.row e sz m cs') => Nat.beq n k && (Nat.beq m k && (Nat.beq e ty_api_Value && (Nat.beq sz 4 && PV.sameL cs' cs))) | _ => false
  | _ => false
theorem okRow5_eq {k : Nat} {cs : List PV} {o : Option (PV × List Res)} (h : okRow5 k cs o = true) : ∃ i s, o = some (.ms i k, s) ∧ s[i]? = some (.row ty_api_Value 4 k cs) := by
  unfold okRow5 at h
  split at h
  · rename_i i n s
    split at h
    · rename_i e sz m cs' hr
      simp only [Bool.and_eq_true, Nat.beq_eq] at h
      obtain ⟨rfl, rfl, rfl, rfl, h5⟩ := h
      exact ⟨i, s, rfl, by rw [hr, sameL_eq _ _ h5]⟩
    · cases h
  · cases h
noncomputable def rowB5 (k m b : Nat) : Bool := okRow5 k ((List.range k).flatMap (rowA5 m (bitsG b))) (callB PG (fOrc noOwn (rFacts k m (bitsG b))) (callF PG (fOrc noOwn (rFacts k m (bitsG b))) 60) 60 f_l4_Row [tabA5 k, .atom 0, .atom 2] [])
theorem row5_k : ((List.range 5).all fun k => (List.range (k + 1)).all fun m => (List.range (2 ^ m)).all fun b => Nat.beq k 0 || rowB5 k m b) = true := by kernel_rfl
end Go.Proofs.Ytglffgneikoeaaa.Den
namespace Go.Proofs.Ytglffgneikoeaaa.Den
open Go Go.RowKit
open Go.Proofs.Ytglffgneikoeaaa.M
abbrev V4 := Int × Int × Int × List UInt8
def vcells (v : V4) : List PV := [nI v.1, nI v.2.1, nI v.2.2.1, .str v.2.2.2]
def RowVal (ty : Int) (v : V4) : Prop := v = (0, 0, 0, []) ∨ ∃ N S st, v = (ty, N, ((S : Nat) : Int), st.data.toList) ∧ Made ty N S st
def rN (xs : List Int) (i : Nat) : Int := wthn (xs.getD i 0) 1099511627776
def rC (ty : Nat → Int) (xs : List Int) (i : Nat) : Int := w6' (ty i + w6' (6 * (w6' ((rN xs i).tdiv 7)).tmod 30))
def rD (xs : List Int) (i : Nat) : Int := w6' ((w6' ((rN xs i).tdiv 50)).tmod 200 - 100)
def rL (mv : PV) (xs : List Int) (s nm : List UInt8) (ty : Nat → Int) (nn : Nat → Bool) (key : Nat) (uq lk : PV) (V V0 : Nat → V4) : List PV :=
  [mv, nI xs.length, .str s, .str nm, nI (ty 0), nI (ty 1), nI (ty 2), nI (ty 3), .bool (nn 0), .bool (nn 1), .bool (nn 2), .bool (nn 3), nI key, uq, lk, nI 0, nI 0, nI 0, nI 0, nI 0,
   nI (xs.getD 0 0), nI (xs.getD 1 0), nI (xs.getD 2 0), nI (xs.getD 3 0), nI (rN xs 0), nI (rN xs 1), nI (rN xs 2), nI (rN xs 3),
   nI ((rN xs 0).tmod 7), nI ((rN xs 1).tmod 7), nI ((rN xs 2).tmod 7), nI ((rN xs 3).tmod 7), nI (w6' ((rN xs 0).tdiv 7)), nI (w6' ((rN xs 1).tdiv 7)), nI (w6' ((rN xs 2).tdiv 7)), nI (w6' ((rN xs 3).tdiv 7)),
   nI ((w6' ((rN xs 0).tdiv 7)).tmod 30), nI ((w6' ((rN xs 1).tdiv 7)).tmod 30), nI ((w6' ((rN xs 2).tdiv 7)).tmod 30), nI ((w6' ((rN xs 3).tdiv 7)).tmod 30),
   nI (w6' (6 * (w6' ((rN xs 0).tdiv 7)).tmod 30)), nI (w6' (6 * (w6' ((rN xs 1).tdiv 7)).tmod 30)), nI (w6' (6 * (w6' ((rN xs 2).tdiv 7)).tmod 30)), nI (w6' (6 * (w6' ((rN xs 3).tdiv 7)).tmod 30)),
   nI (rC ty xs 0), nI (rC ty xs 1), nI (rC ty xs 2), nI (rC ty xs 3), nI (w6' ((rN xs 0).tdiv 50)), nI (w6' ((rN xs 1).tdiv 50)), nI (w6' ((rN xs 2).tdiv 50)), nI (w6' ((rN xs 3).tdiv 50)),
   nI ((w6' ((rN xs 0).tdiv 50)).tmod 200), nI ((w6' ((rN xs 1).tdiv 50)).tmod 200), nI ((w6' ((rN xs 2).tdiv 50)).tmod 200), nI ((w6' ((rN xs 3).tdiv 50)).tmod 200), nI (rD xs 0), nI (rD xs 1), nI (rD xs 2), nI (rD xs 3)] ++
  (vcells (V 0) ++ (vcells (V 1) ++ (vcells (V 2) ++ (vcells (V 3) ++ ([nI (w6' (ty 0 + 0)), nI (w6' (ty 1 + 0)), nI (w6' (ty 2 + 0)), nI (w6' (ty 3 + 0))] ++ (vcells (V0 0) ++ (vcells (V0 1) ++ (vcells (V0 2) ++ vcells (V0 3)))))))))
theorem rL_ok {mv : PV} {xs : List Int} (hmv : mv = .slice 1 (xs.map (.int .i64)) ∨ (mv = .nilslice ∧ xs = [])) (s nm : List UInt8) (ty : Nat → Int) (nn : Nat → Bool) (key : Nat) {uq lk : PV} (hu : goodB uq = true) (hl : goodB lk = true) (V V0 : Nat → V4) : NuOk (nuL (rL mv xs s nm ty nn key uq lk V V0)) := by
  refine nuL_okB ?_
  have e1 : (uq.clean && uq.pure) = true := by simp only [goodB, Bool.and_eq_true] at hu ⊢; exact ⟨hu.1, hu.2.1⟩
  have e2 : (lk.clean && lk.pure) = true := by simp only [goodB, Bool.and_eq_true] at hl ⊢; exact ⟨hl.1, hl.2.1⟩
  unfold rL
  simp only [List.cons_append, List.nil_append, List.all_cons, (ints_good hmv).1, e1, e2]
  rfl
theorem rN_bd (xs : List Int) (i : Nat) : 0 ≤ rN xs i ∧ rN xs i < 1099511627776 := wthn_range (xs.getD i 0) 1099511627776 (by decide) (by decide)
theorem rC_eq (ty : Nat → Int) (xs : List Int) (i : Nat) (h : 1 ≤ ty i ∧ ty i ≤ 5) : rC ty xs i % 6 = ty i ∧ I64 (rC ty xs i) := by
  obtain ⟨h1, h2⟩ := rN_bd xs i
  have hq : (rN xs i).tdiv 7 = rN xs i / 7 := Int.tdiv_eq_ediv_of_nonneg h1
  have e1 : w6' (rN xs i / 7) = rN xs i / 7 := Go.IntWalk.i64_in _ (by omega)
  have e2 : (rN xs i / 7).tmod 30 = rN xs i / 7 % 30 := Int.tmod_eq_emod_of_nonneg (by omega)
  have e3 : w6' (6 * (rN xs i / 7 % 30)) = 6 * (rN xs i / 7 % 30) := Go.IntWalk.i64_in _ (by omega)
  have e4 : rC ty xs i = ty i + 6 * (rN xs i / 7 % 30) := by
    unfold rC
    rw [hq, e1, e2, e3]
    exact Go.IntWalk.i64_in _ (by omega)
  rw [e4]
  exact ⟨by omega, by unfold I64; omega⟩
theorem rD_i64 (xs : List Int) (i : Nat) : I64 (rD xs i) := by
  obtain ⟨h1, h2⟩ := rN_bd xs i
  have hq : (rN xs i).tdiv 50 = rN xs i / 50 := Int.tdiv_eq_ediv_of_nonneg h1
  have e1 : w6' (rN xs i / 50) = rN xs i / 50 := Go.IntWalk.i64_in _ (by omega)
  have e2 : (rN xs i / 50).tmod 200 = rN xs i / 50 % 200 := Int.tmod_eq_emod_of_nonneg (by omega)
  have e4 : rD xs i = rN xs i / 50 % 200 - 100 := by
    unfold rD
    rw [hq, e1, e2]
    exact Go.IntWalk.i64_in _ (by omega)
  rw [e4]
  unfold I64; omega
theorem rFacts_ok {mv : PV} {xs : List Int} (hmv : mv = .slice 1 (xs.map (.int .i64)) ∨ (mv = .nilslice ∧ xs = [])) (s nm : List UInt8) (ty : Nat → Int) (nn : Nat → Bool) (key : Nat) {uq lk : PV} {V V0 : Nat → V4} {k m b : Nat} (hk : k ≤ 4) (hm : m = min xs.length k)
    (hb : ∀ i, i < m → bitsG b i = decide ((rN xs i).tmod 7 > 0)) (hV : ∀ i, i < 4 → Ev PG f_l1_Make [nI (rC ty xs i), nI (rD xs i), .str s] (.agg (vcells (V i)))) (hV0 : ∀ i, i < 4 → Ev PG f_l1_Make [nI (w6' (ty i + 0)), nI (-100), .str s] (.agg (vcells (V0 i)))) :
    FactsOk PG (nuL (rL mv xs s nm ty nn key uq lk V V0)) (rFacts k m (bitsG b)) := by
  have four : ∀ i, i < m → (i = 0 ∨ i = 1 ∨ i = 2 ∨ i = 3) ∧ i < xs.length := fun i hi => by omega
  unfold rFacts
  refine ⟨fLen hmv rfl rfl, FactsOk.append (FactsOk.of ?_) (FactsOk.of ?_)⟩
  · intro f hf
    obtain ⟨i, hi, hf⟩ := List.mem_flatMap.1 hf
    rw [List.mem_range] at hi
    obtain ⟨h4, hx⟩ := four i hi
    have hw := within_ev (xs.getD i 0) 1099511627776 (by decide)
    have hv := hV i (by omega)
    have h5 := hb i hi
    simp only [List.mem_cons, List.not_mem_nil, or_false] at hf
    rcases hf with rfl | rfl | rfl | rfl | rfl | rfl | rfl | rfl | rfl | rfl | rfl | rfl | rfl
    · exact fCmp (c := true) (a := i) (b := xs.length) rfl rfl rfl (by simp [intP, hx]) (by decide) rfl
    · rcases h4 with rfl | rfl | rfl | rfl <;> exact fIx hmv hx rfl rfl
    · rcases h4 with rfl | rfl | rfl | rfl <;> exact fprim hw rfl rfl rfl
    · rcases h4 with rfl | rfl | rfl | rfl <;> exact fInt rfl rfl rfl rfl (by decide) rfl
    · rcases h4 with rfl | rfl | rfl | rfl <;> exact fCmp (b := 0) rfl rfl rfl (by rw [h5]; rfl) (by decide) rfl
    · rcases h4 with rfl | rfl | rfl | rfl <;> exact fInt rfl rfl rfl rfl (by decide) rfl
    · rcases h4 with rfl | rfl | rfl | rfl <;> exact fInt rfl rfl rfl rfl (by decide) rfl
    · rcases h4 with rfl | rfl | rfl | rfl <;> exact fInt rfl rfl rfl rfl (by decide) rfl
    · rcases h4 with rfl | rfl | rfl | rfl <;> exact fInt rfl rfl rfl rfl (by decide) rfl
    · rcases h4 with rfl | rfl | rfl | rfl <;> exact fInt rfl rfl rfl rfl (by decide) rfl
    · rcases h4 with rfl | rfl | rfl | rfl <;> exact fInt rfl rfl rfl rfl (by decide) rfl
    · rcases h4 with rfl | rfl | rfl | rfl <;> exact fInt rfl rfl rfl rfl (by decide) rfl
    · rcases h4 with rfl | rfl | rfl | rfl <;> exact fprim hv rfl rfl rfl
  · intro f hf
    obtain ⟨j, hj, hf⟩ := List.mem_flatMap.1 hf
    rw [List.mem_range] at hj
    obtain ⟨i, hi⟩ : ∃ i, i = m + j := ⟨_, rfl⟩
    have h4 : i = 0 ∨ i = 1 ∨ i = 2 ∨ i = 3 := by omega
    have hge : ¬ ((i : Nat) : Int) < (xs.length : Int) := by omega
    have hv := hV0 i (by omega)
    rw [← hi] at hf
    simp only [List.mem_cons, List.not_mem_nil, or_false] at hf
    rcases hf with rfl | rfl | rfl
    · exact fCmp (c := false) (a := i) (b := xs.length) rfl rfl rfl (by simp only [intP]; rw [decide_eq_false hge]) (by decide) rfl
    · rcases h4 with rfl | rfl | rfl | rfl <;> exact fInt rfl rfl rfl rfl (by decide) rfl
    · rcases h4 with rfl | rfl | rfl | rfl <;> exact fprim hv rfl rfl rfl
def valOf5 (m : Nat) (g : Nat → Bool) (V V0 : Nat → V4) (i : Nat) : V4 := if i < m then (if g i then V i else (0, 0, 0, [])) else (if i = 0 then (0, 0, 0, []) else V0 i)
theorem row5_ev {mv : PV} {xs : List Int} (hmv : mv = .slice 1 (xs.map (.int .i64)) ∨ (mv = .nilslice ∧ xs = [])) (s nm : List UInt8) (hs : s.length ≤ 140737488351232) (k : Nat) (hk : 1 ≤ k ∧ k ≤ 4) (ty : Nat → Int) (nn : Nat → Bool) (hty : ∀ i, i < 4 → 1 ≤ ty i ∧ ty i ≤ 5) (key : Nat) {uq lk : PV} (hu : goodB uq = true) (hl : goodB lk = true) :
    ∃ V : Nat → V4, (∀ i, i < k → RowVal (ty i) (V i)) ∧ EvRow PG f_l4_Row [tabP nm k ty nn key uq lk, mv, .str s] ty_api_Value 4 k ((List.range k).flatMap fun i => vcells (V i)) := by
  obtain ⟨V, hV⟩ := Classical.axiomOfChoice (r := fun i (v : V4) => i < 4 → RowVal (ty i) v ∧ Ev PG f_l1_Make [nI (rC ty xs i), nI (rD xs i), .str s] (.agg (vcells v))) (fun i => by
    by_cases h : i < 4
    · obtain ⟨e1, e2⟩ := rC_eq ty xs i (hty i h)
      obtain ⟨N, S, st, a1, a2⟩ := makeM_ev (rC ty xs i) (rD xs i) s e2 (rD_i64 xs i) hs
      rw [e1] at a1 a2
      exact ⟨(ty i, N, (S : Int), st.data.toList), fun _ => ⟨.inr ⟨N, S, st, rfl, a1⟩, a2⟩⟩
    · exact ⟨(0, 0, 0, []), fun h' => absurd h' h⟩)
  obtain ⟨V0, hV0⟩ := Classical.axiomOfChoice (r := fun i (v : V4) => i < 4 → RowVal (ty i) v ∧ Ev PG f_l1_Make [nI (w6' (ty i + 0)), nI (-100), .str s] (.agg (vcells v))) (fun i => by
    by_cases h : i < 4
    · have := hty i h
      have e0 : w6' (ty i + 0) = ty i := by rw [Int.add_zero]; exact Go.IntWalk.i64_in _ (by omega)
      obtain ⟨N, S, st, a1, a2⟩ := makeM_ev (ty i) (-100) s (by unfold I64; omega) (by unfold I64; omega) hs
      have e1 : ty i % 6 = ty i := by omega
      rw [e1] at a1 a2
      rw [e0]
      exact ⟨(ty i, N, (S : Int), st.data.toList), fun _ => ⟨.inr ⟨N, S, st, rfl, a1⟩, a2⟩⟩
    · exact ⟨(0, 0, 0, []), fun h' => absurd h' h⟩)
  obtain ⟨m, hm⟩ : ∃ m, m = min xs.length k := ⟨_, rfl⟩
  obtain ⟨b, hb1, hb2, hb3⟩ := bits_k m (by omega) (fun i => decide ((rN xs i).tmod 7 > 0))
  have hb4 : b < 2 ^ m := by
    have := Nat.div_eq_zero_iff.1 hb2
    rcases this with h | h
    · have : 0 < 2 ^ m := Nat.two_pow_pos m
      omega
    · exact h
  have hf := rFacts_ok hmv s nm ty nn key (uq := uq) (lk := lk) hk.2 hm hb3 (fun i hi => (hV i hi).2) (fun i hi => (hV0 i hi).2)
  have hnu := rL_ok hmv s nm ty nn key hu hl V V0
  have hkk := List.all_eq_true.1 (List.all_eq_true.1 (List.all_eq_true.1 row5_k k (by rw [List.mem_range]; omega)) m (by rw [List.mem_range]; omega)) b (by rw [List.mem_range]; exact hb4)
  have hk0 : Nat.beq k 0 = false := by
    have : k ≠ 0 := by omega
    cases k with
    | zero => exact absurd rfl this
    | succ k => rfl
  rw [hk0, Bool.false_or] at hkk
  obtain ⟨i, s', h1, h2⟩ := okRow5_eq hkk
  have hcells : ((List.range k).flatMap (rowA5 m (bitsG b))).map (subD (nuL (rL mv xs s nm ty nn key uq lk V V0))) = (List.range k).flatMap fun i => vcells (valOf5 m (bitsG b) V V0 i) := by
    rw [map_flat]
    refine flat_congr fun i hi => ?_
    rw [List.mem_range] at hi
    have h4 : i = 0 ∨ i = 1 ∨ i = 2 ∨ i = 3 := by omega
    unfold rowA5 valOf5
    by_cases hlt : i < m
    · rw [if_pos hlt, if_pos hlt]
      cases bitsG b i
      · rcases h4 with rfl | rfl | rfl | rfl <;> rfl
      · rcases h4 with rfl | rfl | rfl | rfl <;> rfl
    · rw [if_neg hlt, if_neg hlt]
      rcases h4 with rfl | rfl | rfl | rfl <;> rfl
  have hpc : ∀ c ∈ ((List.range k).flatMap fun i => vcells (valOf5 m (bitsG b) V V0 i)), c.pure = true ∧ c.clean = true := fun c hc => by
    obtain ⟨i, _, hc⟩ := List.mem_flatMap.1 hc
    simp only [vcells, List.mem_cons, List.not_mem_nil, or_false] at hc
    rcases hc with rfl | rfl | rfl | rfl <;> exact ⟨rfl, rfl⟩
  have hsub : subD (nuL (rL mv xs s nm ty nn key uq lk V V0)) (tabA5 k) = tabP nm k ty nn key uq lk := by
    show tabC _ (.slice 3 (subDL _ ((List.range k).map colA5))) _ _ _ = _
    have : subDL (nuL (rL mv xs s nm ty nn key uq lk V V0)) ((List.range k).map colA5) = (List.range k).map (colP5 ty nn) := by
      rw [subDL_map, List.map_map]
      refine List.map_congr_left fun i hi => ?_
      rw [List.mem_range] at hi
      have h4 : i = 0 ∨ i = 1 ∨ i = 2 ∨ i = 3 := by omega
      rcases h4 with rfl | rfl | rfl | rfl <;> rfl
    rw [this]; rfl
  have hg := ints_good hmv
  have hgm := hg.1
  simp only [Bool.and_eq_true] at hgm
  have := EvRow.ofD prog_ok hnu (FactsOk.orc hnu hf) h1 h2 (by
    intro p hp
    simp only [List.mem_cons, List.not_mem_nil, or_false] at hp
    rcases hp with rfl | rfl | rfl
    · refine ⟨?_, ?_⟩
      · unfold argB
        rw [hsub]
        have := pure_tab (nm := nm) (k := k) (ty := ty) (nn := nn) (key := key) hu hl
        rw [Bool.and_eq_true] at this
        rw [this.1]; rfl
      · rfl
    · refine ⟨?_, rfl⟩
      show (mv.pure && mv.one) = true
      rw [hgm.2, hg.2]; rfl
    · exact ⟨rfl, rfl⟩) (fun c hc => hpc _ (by rw [← hcells]; exact List.mem_map_of_mem hc))
  rw [hcells] at this
  refine ⟨valOf5 m (bitsG b) V V0, fun i hi => ?_, ?_⟩
  · unfold valOf5
    by_cases hlt : i < m
    · rw [if_pos hlt]
      cases bitsG b i
      · exact .inl rfl
      · exact (hV i (by omega)).1
    · rw [if_neg hlt]
      by_cases h0 : i = 0
      · rw [if_pos h0]; exact .inl rfl
      · rw [if_neg h0]; exact (hV0 i (by omega)).1
  · have e : [tabA5 k, PV.atom 0, .atom 2].map (subD (nuL (rL mv xs s nm ty nn key uq lk V V0))) = [tabP nm k ty nn key uq lk, mv, .str s] := by
      simp only [List.map_cons, List.map_nil, hsub]; rfl
    rw [e] at this
    exact this
end Go.Proofs.Ytglffgneikoeaaa.Den
namespace Go.Proofs.Ytglffgneikoeaaa.Den
open Go Go.RowKit
theorem known4_k : okR (.bool true) (callF PG noOrc 60 f_l4_known [] []) = true := by kernel_rfl
theorem known4_ev : Ev PG f_l4_known [] (.bool true) := by
  have := Ev.ofD (nu := nuL []) prog_ok (nuL_okB rfl) (noOrc_ok PG _) (okR_eq known4_k) (fun p hp => by simp at hp) rfl rfl
  exact this
def cellsA (k : Nat) : List PV := (List.range k).flatMap fun i => mk4 (20 + 4 * i)
end Go.Proofs.Ytglffgneikoeaaa.Den
namespace Go.Proofs.Ytglffgneikoeaaa.Den
open Go Go.RowKit
end Go.Proofs.Ytglffgneikoeaaa.Den
namespace Go.Proofs.Ytglffgneikoeaaa.Den
open Go Go.RowKit
inductive RawT where
  | mk (k n : Int) (s : List UInt8) (nl : Nat) (l : List RawT)
mutual
def RawT.pv : RawT → PV
  | .mk k n s nl l => .agg [nI k, nI n, .str s, (match nl with | 0 => .nilslice | 1 => .eslice | _ => .slice 4 (RawT.pvs l))]
def RawT.pvs : List RawT → List PV
  | [] => []
  | r :: l => RawT.pv r :: RawT.pvs l
end
def rawsP (nl : Nat) (l : List RawT) : PV := match nl with | 0 => .nilslice | 1 => .eslice | _ => .slice 4 (RawT.pvs l)
def RawT.k : RawT → Int | .mk k _ _ _ _ => k
def RawT.n : RawT → Int | .mk _ n _ _ _ => n
def RawT.s : RawT → List UInt8 | .mk _ _ s _ _ => s
def RawT.nl : RawT → Nat | .mk _ _ _ nl _ => nl
def RawT.l : RawT → List RawT | .mk _ _ _ _ l => l
def nlOk (nl : Nat) (l : List RawT) : Prop := nl < 2 → l = []
abbrev In64 (n : Int) : Prop := -9223372036854775808 ≤ n ∧ n ≤ 9223372036854775807
mutual
def RawT.ok : RawT → Prop
  | .mk k n _ nl l => (In64 k ∧ In64 n) ∧ nlOk nl l ∧ RawT.oks l
def RawT.oks : List RawT → Prop
  | [] => True
  | r :: l => RawT.ok r ∧ RawT.oks l
end
theorem pv_eq (r : RawT) : r.pv = .agg [nI r.k, nI r.n, .str r.s, rawsP r.nl r.l] := by cases r; rfl
theorem pvs_map : ∀ l : List RawT, RawT.pvs l = l.map RawT.pv
  | [] => rfl
  | r :: l => by simp only [RawT.pvs, List.map_cons, pvs_map l]
mutual
theorem pv_pure : ∀ r : RawT, r.pv.pure = true
  | .mk k n s nl l => by
    simp only [RawT.pv, PV.pure, PV.pureL]
    have := pvs_pure l
    split <;> simp [PV.pure, this]
theorem pvs_pure : ∀ l : List RawT, PV.pureL (RawT.pvs l) = true
  | [] => rfl
  | r :: l => by simp only [RawT.pvs, PV.pureL, pv_pure r, pvs_pure l, Bool.and_self]
end
theorem raws_good (nl : Nat) (l : List RawT) : (rawsP nl l).clean = true ∧ (rawsP nl l).pure = true ∧ (rawsP nl l).one = true := by
  unfold rawsP
  split
  · exact ⟨rfl, rfl, rfl⟩
  · exact ⟨rfl, rfl, rfl⟩
  · exact ⟨rfl, pvs_pure l, rfl⟩
theorem oks_get : ∀ {l : List RawT}, RawT.oks l → ∀ {i : Nat} {r : RawT}, l[i]? = some r → r.ok
  | [], _, i, r, h => by simp at h
  | q :: l, h, 0, r, hr => by simp at hr; subst hr; exact h.1
  | q :: l, h, i + 1, r, hr => oks_get h.2 (i := i) (by simpa using hr)
theorem rawLen_ok {nl : Nat} {l : List RawT} (h : nlOk nl l) : lenP PG ty_sl_l3_Raw (rawsP nl l) = some (nI l.length) := by
  have hu : PG.underlying ty_sl_l3_Raw = some (.slice ty_l3_Raw) := by kernel_rfl
  unfold lenP
  rw [hu]
  match nl, h with
  | 0, h => rw [h (by decide)]; rfl
  | 1, h => rw [h (by decide)]; rfl
  | nl + 2, _ =>
    show some (nI ((RawT.pvs l).length : Nat)) = _
    rw [pvs_map, List.length_map]
theorem rawIx_ok {nl : Nat} {l : List RawT} (h : nlOk nl l) {i : Nat} {r : RawT} (hr : l[i]? = some r) : indexAddrP PG ty_sl_l3_Raw (rawsP nl l) (nI i) = some (.ref [nI r.k, nI r.n, .str r.s, rawsP r.nl r.l]) := by
  have hu : PG.underlying ty_sl_l3_Raw = some (.slice ty_l3_Raw) := by kernel_rfl
  have hs : sizeP PG ty_l3_Raw = some 4 := by kernel_rfl
  unfold indexAddrP
  rw [hu]
  have hne : ¬ nl < 2 := fun hlt => by rw [h hlt] at hr; simp at hr
  have e : rawsP nl l = .slice 4 (RawT.pvs l) := by
    match nl, hne with
    | 0, hne => exact absurd (by decide) hne
    | 1, hne => exact absurd (by decide) hne
    | nl + 2, _ => rfl
  rw [e]
  have : (RawT.pvs l)[((i : Nat) : Int).toNat]? = some (.agg [nI r.k, nI r.n, .str r.s, rawsP r.nl r.l]) := by
    rw [pvs_map]
    simp [hr, pv_eq]
  simp only [hs, true_and]
  rw [if_pos (by omega), this]
  rfl
def sizeO (rec : List RawT → Int) : List RawT → Int → Option Int
  | [], n => some n
  | x :: xs, n => if n ≤ 16 then (if 100 < x.s.length then none else sizeO rec xs (n + 1 + rec x.l)) else some n
def sizeM : Nat → List RawT → Int
  | 0, _ => 1000
  | d + 1, l => (sizeO (sizeM d) l 0).getD 1000
theorem sizeO_bd {rec : List RawT → Int} {M : Int} (hM : 1000 ≤ M) (h : ∀ l, 0 ≤ rec l ∧ rec l ≤ M) : ∀ (l : List RawT) (n : Int), 0 ≤ n → n ≤ M + 17 → 0 ≤ (sizeO rec l n).getD 1000 ∧ (sizeO rec l n).getD 1000 ≤ M + 17
  | [], n, h0, h1 => ⟨h0, h1⟩
  | x :: xs, n, h0, h1 => by
    unfold sizeO
    have := h x.l
    split
    · split
      · simp only [Option.getD_none]; omega
      · exact sizeO_bd hM h xs _ (by omega) (by omega)
    · exact ⟨h0, h1⟩
theorem sizeM_bd : ∀ (d : Nat) (l : List RawT), 0 ≤ sizeM d l ∧ sizeM d l ≤ 1000 + 17 * d
  | 0, _ => by simp [sizeM]
  | d + 1, l => by
    have := sizeO_bd (rec := sizeM d) (M := 1000 + 17 * d) (by omega) (sizeM_bd d) l 0 (by omega) (by omega)
    unfold sizeM
    omega
def szT : List (Nat × PV) := [(0, .atom 0), (1, .atom 1), (5, .atom 2), (6, .atom 3)]
def szA (b : Bool) : List Fact := [.op (.len ty_sl_l3_Raw) [.atom 0] (.atom 4), oI .lss (.atom 3) (.atom 4) (.bool b)]
def szB (q : Bool) : List Fact :=
  szA true ++ [oI .leq (.atom 2) (nI 16) (.bool true), .op (.ix ty_sl_l3_Raw) [.atom 0, .atom 3] (.ref [.atom 5, .atom 6, .atom 7, .atom 8]), oI .add (.atom 2) (nI 1) (.atom 9), oI .add (.atom 1) (nI 1) (.atom 10), .prim f_l3_size [.atom 8, .atom 10] (.atom 11),
    oI .add (.atom 9) (.atom 11) (.atom 12), .op (.len ty_string) [.atom 7] (.atom 13), oI .gtr (.atom 13) (nI 100) (.bool q), oI .add (.atom 3) (nI 1) (.atom 14)]
noncomputable abbrev szRun (fs : List Fact) : Option (Ex × St) := execN PG (fOrc noOwn fs) (callF PG (fOrc noOwn fs) 5) ((fOrc noOwn fs).loop f_l3_size) 5 3 (loopAt PG f_l3_size 5) ⟨szT, []⟩
theorem sz_lone : loneB PG f_l3_size 5 = true := by kernel_rfl
theorem sz_a : runsB (szRun (szA false)) (.exit 0) [(5, .atom 2)] [] = true := by kernel_rfl
theorem sz_b : runsB (szRun (szA true ++ [oI .leq (.atom 2) (nI 16) (.bool false)])) (.exit 0) [(5, .atom 2)] [] = true := by kernel_rfl
theorem sz_c : runsB (szRun (szB true)) .ret [(4, nI 1000)] [] = true := by kernel_rfl
theorem sz_d : runsB (szRun (szB false)) .normal [(0, .atom 0), (1, .atom 1), (5, .atom 12), (6, .atom 14)] [] = true := by kernel_rfl
theorem w6_id {n : Int} (h0 : -9223372036854775808 ≤ n) (h1 : n ≤ 9223372036854775807) : w6' n = n := Go.IntWalk.i64_in _ ⟨h0, h1⟩
theorem subT_sz (a b c d : PV) (l : List PV) : subT (nuL (a :: b :: c :: d :: l)) szT = [(0, a), (1, b), (5, c), (6, d)] := rfl
set_option maxRecDepth 20000 in
theorem sz_loop {d : Nat} (hd : d ≤ 7) {dp : Int} (hdp : 0 ≤ dp ∧ dp ≤ 7) (hrec : ∀ nl l, nlOk nl l → RawT.oks l → Ev PG f_l3_size [rawsP nl l, nI (dp + 1)] (nI (sizeM d l))) {nl : Nat} {l : List RawT} (hn : nlOk nl l) (ho : RawT.oks l) :
    ∀ (xs : List RawT) (i : Nat) (n : Int), l.drop i = xs → (i : Int) ≤ n → n ≤ 2000 →
      RunsR PG (ntOf PG f_l3_size) (loopAt PG f_l3_size 5) [(0, rawsP nl l), (1, nI dp), (5, nI n), (6, nI i)] [] (match sizeO (sizeM d) xs n with | some _ => .exit 0 | none => .ret) (match sizeO (sizeM d) xs n with | some m => [(5, nI m)] | none => [(4, nI 1000)]) [] := by
  intro xs
  have hg := raws_good nl l
  have hgc : (rawsP nl l).clean = true := hg.1
  induction xs with
  | nil =>
    intro i n hi h1 h2
    have hlen : l.length ≤ i := by
      have := congrArg List.length hi
      simp at this; omega
    have hge : ¬ ((i : Nat) : Int) < (l.length : Int) := by omega
    refine RunsR.leave ?_ (fun h => by cases h)
    have hnu : NuOk (nuL [rawsP nl l, nI dp, nI n, nI i, nI l.length]) := nuL_okB (by simp only [List.all_cons, hg.1, hg.2.1]; rfl)
    refine RunsP.chk prog_ok hnu (T := szT) (s := []) (T' := [(5, .atom 2)]) (s' := []) sz_lone sz_a ⟨?_, ?_, trivial⟩ ?_ rfl rfl
    · exact ⟨rawLen_ok hn, rfl⟩
    · exact fCmp (c := false) (a := i) (b := l.length) rfl rfl rfl (by simp only [intP]; rw [decide_eq_false hge]) (by decide) rfl
    · rw [subT_sz]
      show (((rawsP nl l).pure && _) && ((rawsP nl l).one && _)) = true
      rw [hg.2.1, hg.2.2]; rfl
  | cons x xs ih =>
    intro i n hi h1 h2
    have hx : l[i]? = some x := by
      have := congrArg (fun z => z[0]?) hi
      simpa using this
    have hil : i < l.length := (List.getElem?_eq_some_iff.1 hx).1
    have hxs : l.drop (i + 1) = xs := by
      have := congrArg List.tail hi
      simpa using this
    have hlt : ((i : Nat) : Int) < (l.length : Int) := by omega
    unfold sizeO
    by_cases h16 : n ≤ 16
    · rw [if_pos h16]
      have hok := oks_get ho hx
      have hgx := raws_good x.nl x.l
      have hxo : nlOk x.nl x.l ∧ RawT.oks x.l := by cases x; exact hok.2
      have hcall := hrec x.nl x.l hxo.1 hxo.2
      have hb := sizeM_bd d x.l
      have e1 : w6' (n + 1) = n + 1 := w6_id (by omega) (by omega)
      have e2 : w6' (dp + 1) = dp + 1 := w6_id (by omega) (by omega)
      have e3 : w6' (n + 1 + sizeM d x.l) = n + 1 + sizeM d x.l := w6_id (by omega) (by omega)
      have e4 : w6' ((i : Int) + 1) = ((i + 1 : Nat) : Int) := by rw [w6_id (by omega) (by omega)]; omega
      have hnu : NuOk (nuL [rawsP nl l, nI dp, nI n, nI i, nI l.length, nI x.k, nI x.n, .str x.s, rawsP x.nl x.l, nI (n + 1), nI (dp + 1), nI (sizeM d x.l), nI (n + 1 + sizeM d x.l), nI x.s.length, nI (i + 1 : Nat)]) :=
        nuL_okB (by simp only [List.all_cons, hg.1, hg.2.1, hgx.1, hgx.2.1]; rfl)
      have hfacts : ∀ q, decide (((x.s.length : Nat) : Int) > 100) = q → FactsOk PG (nuL [rawsP nl l, nI dp, nI n, nI i, nI l.length, nI x.k, nI x.n, .str x.s, rawsP x.nl x.l, nI (n + 1), nI (dp + 1), nI (sizeM d x.l), nI (n + 1 + sizeM d x.l), nI x.s.length, nI (i + 1 : Nat)]) (szB q) := fun q hq => by
        unfold szB szA
        refine ⟨⟨rawLen_ok hn, rfl⟩, ?_, ?_, ⟨?_, ?_⟩, ?_, ?_, ?_, ?_, ⟨?_, rfl⟩, ?_, ?_, trivial⟩
        · exact fCmp (c := true) (a := i) (b := l.length) rfl rfl rfl (by simp only [intP]; rw [decide_eq_true hlt]) (by decide) rfl
        · exact fCmp (c := true) (a := n) (b := 16) rfl rfl rfl (by simp only [intP]; rw [decide_eq_true h16]) (by decide) rfl
        · exact rawIx_ok hn hx
        · rfl
        · exact fInt (a := n) (b := 1) rfl rfl rfl (by simp only [intP]; rw [show IntKind.i64.wrap (n + 1) = _ from e1]) (by decide) rfl
        · exact fInt (a := dp) (b := 1) rfl rfl rfl (by simp only [intP]; rw [show IntKind.i64.wrap (dp + 1) = _ from e2]) (by decide) rfl
        · exact fprim hcall rfl rfl rfl
        · exact fInt (a := n + 1) (b := sizeM d x.l) rfl rfl rfl (by simp only [intP]; rw [show IntKind.i64.wrap (n + 1 + sizeM d x.l) = _ from e3]) (by decide) rfl
        · show lenP PG ty_string (.str x.s) = some (nI x.s.length)
          have hu : PG.underlying ty_string = some .string := by kernel_rfl
          unfold lenP
          rw [hu]
        · exact fCmp (c := q) (a := x.s.length) (b := 100) rfl rfl rfl (by simp only [intP]; rw [hq]) (by decide) rfl
        · exact fInt (a := i) (b := 1) rfl rfl rfl (by simp only [intP]; rw [show IntKind.i64.wrap ((i : Int) + 1) = _ from e4]) (by decide) rfl
      have hT : ∀ {nu : Nat → PV}, nu 0 = rawsP nl l → nu 1 = nI dp → nu 2 = nI n → nu 3 = nI i → (pureT (subT nu szT) && oneT nu szT) = true := fun {nu} a0 a1 a2 a3 => by
        show (((nu 0).pure && ((nu 1).pure && ((nu 2).pure && ((nu 3).pure && true)))) && ((nu 0).one && ((nu 1).one && ((nu 2).one && ((nu 3).one && true))))) = true
        rw [a0, a1, a2, a3, hg.2.1, hg.2.2]; rfl
      by_cases h100 : 100 < x.s.length
      · rw [if_pos h100]
        refine RunsR.leave ?_ (fun h => by cases h)
        exact RunsP.chk prog_ok hnu (T := szT) (s := []) (T' := [(4, nI 1000)]) (s' := []) sz_lone sz_c (hfacts true (by simp; omega)) (hT rfl rfl rfl rfl) rfl rfl
      · rw [if_neg h100]
        refine RunsR.round ?_ (ih (i + 1) (n + 1 + sizeM d x.l) hxs (by omega) (by omega))
        refine RunsP.chk prog_ok hnu (T := szT) (s := []) (T' := [(0, .atom 0), (1, .atom 1), (5, .atom 12), (6, .atom 14)]) (s' := []) sz_lone sz_d (hfacts false (by simp; omega)) (hT rfl rfl rfl rfl) rfl ?_
        show (((rawsP nl l).pure && _) && _) = true
        rw [hg.2.1]; rfl
    · rw [if_neg h16]
      refine RunsR.leave ?_ (fun h => by cases h)
      have hnu : NuOk (nuL [rawsP nl l, nI dp, nI n, nI i, nI l.length]) := nuL_okB (by simp only [List.all_cons, hg.1, hg.2.1]; rfl)
      refine RunsP.chk prog_ok hnu (T := szT) (s := []) (T' := [(5, .atom 2)]) (s' := []) sz_lone sz_b ⟨⟨rawLen_ok hn, rfl⟩, ?_, ?_, trivial⟩ ?_ rfl rfl
      · exact fCmp (c := true) (a := i) (b := l.length) rfl rfl rfl (by simp only [intP]; rw [decide_eq_true hlt]) (by decide) rfl
      · exact fCmp (c := false) (a := n) (b := 16) rfl rfl rfl (by simp only [intP]; rw [decide_eq_false h16]) (by decide) rfl
      · rw [subT_sz]
        show (((rawsP nl l).pure && _) && ((rawsP nl l).one && _)) = true
        rw [hg.2.1, hg.2.2]; rfl
theorem sz_k0 : okR (nI 1000) (callF PG (fOrc noOwn [oI .gtr (.atom 1) (nI 6) (.bool true)]) 5 f_l3_size [.atom 0, .atom 1] []) = true := by kernel_rfl
theorem sz_k1 : okR (.atom 2) (callF PG (fOrc noOwn [oI .gtr (.atom 1) (nI 6) (.bool false), .loop f_l3_size 5 [(0, .atom 0), (1, .atom 1), (5, nI 0), (6, nI 0)] [] (.exit 0) [(5, .atom 2)] []]) 5 f_l3_size [.atom 0, .atom 1] []) = true := by kernel_rfl
theorem sz_k2 : okR (nI 1000) (callF PG (fOrc noOwn [oI .gtr (.atom 1) (nI 6) (.bool false), .loop f_l3_size 5 [(0, .atom 0), (1, .atom 1), (5, nI 0), (6, nI 0)] [] .ret [(4, nI 1000)] []]) 5 f_l3_size [.atom 0, .atom 1] []) = true := by kernel_rfl
set_option maxRecDepth 20000 in
theorem size_ev : ∀ (d : Nat), d ≤ 7 → ∀ nl l, nlOk nl l → RawT.oks l → Ev PG f_l3_size [rawsP nl l, nI (7 - d)] (nI (sizeM d l))
  | 0, _, nl, l, hn, ho => by
    have hg := raws_good nl l
    refine Ev.facts prog_ok (nuL_okB (l := [rawsP nl l, nI 7]) (by simp only [List.all_cons, hg.1, hg.2.1]; rfl)) (okR_eq sz_k0) ⟨fCmp (c := true) (a := 7) (b := 6) rfl rfl rfl rfl (by decide) rfl, trivial⟩ ?_ rfl
    show (((rawsP nl l).pure && (rawsP nl l).one) && true && _) = true
    rw [hg.2.1, hg.2.2]; rfl
  | d + 1, hd, nl, l, hn, ho => by
    have hg := raws_good nl l
    have hrec : ∀ nl l, nlOk nl l → RawT.oks l → Ev PG f_l3_size [rawsP nl l, nI ((7 - ((d + 1 : Nat) : Int)) + 1)] (nI (sizeM d l)) := fun nl l h1 h2 => by
      have := size_ev d (by omega) nl l h1 h2
      rw [show (7 - ((d + 1 : Nat) : Int)) + 1 = 7 - (d : Int) by omega]
      exact this
    have hloop := sz_loop (d := d) (by omega) (dp := 7 - ((d + 1 : Nat) : Int)) (by omega) hrec hn ho l 0 0 rfl (by decide) (by decide)
    have hgt : ¬ (7 - ((d + 1 : Nat) : Int)) > 6 := by omega
    unfold sizeM
    cases hs : sizeO (sizeM d) l 0 with
    | some m =>
      rw [hs] at hloop
      refine Ev.facts prog_ok (nuL_okB (l := [rawsP nl l, nI (7 - ((d + 1 : Nat) : Int)), nI m]) (by simp only [List.all_cons, hg.1, hg.2.1]; rfl)) (okR_eq sz_k1)
        ⟨fCmp (c := false) (a := 7 - ((d + 1 : Nat) : Int)) (b := 6) rfl rfl rfl (by simp only [intP]; rw [decide_eq_false hgt]) (by decide) rfl, fLoopOk sz_lone (Nat.le_refl _) hloop rfl, trivial⟩ ?_ rfl
      show (((rawsP nl l).pure && (rawsP nl l).one) && true && _) = true
      rw [hg.2.1, hg.2.2]; rfl
    | none =>
      rw [hs] at hloop
      refine Ev.facts prog_ok (nuL_okB (l := [rawsP nl l, nI (7 - ((d + 1 : Nat) : Int))]) (by simp only [List.all_cons, hg.1, hg.2.1]; rfl)) (okR_eq sz_k2)
        ⟨fCmp (c := false) (a := 7 - ((d + 1 : Nat) : Int)) (b := 6) rfl rfl rfl (by simp only [intP]; rw [decide_eq_false hgt]) (by decide) rfl, fLoopOk sz_lone (Nat.le_refl _) hloop rfl, trivial⟩ ?_ rfl
      show (((rawsP nl l).pure && (rawsP nl l).one) && true && _) = true
      rw [hg.2.1, hg.2.2]; rfl
end Go.Proofs.Ytglffgneikoeaaa.Den
namespace Go.Proofs.Ytglffgneikoeaaa.Den
open Go Go.RowKit
open Go.ChangeShapes Go.WideShapes Go.Joins
theorem flat4_get {α β : Type} (f : α → List β) : ∀ (l : List α), (∀ a ∈ l, (f a).length = 4) → ∀ j, (l.flatMap f)[j]? = (l[j / 4]?).bind fun a => (f a)[j % 4]?
  | [], _, j => by simp
  | a :: l, h, j => by
    have ha := h a (by simp)
    rw [List.flatMap_cons]
    by_cases hj : j < 4
    · rw [List.getElem?_append_left (by omega)]
      have e1 : j / 4 = 0 := by omega
      have e2 : j % 4 = j := by omega
      rw [e1, e2]; rfl
    · rw [List.getElem?_append_right (by omega), ha, flat4_get f l (fun b hb => h b (by simp [hb])) (j - 4)]
      have e1 : j / 4 = (j - 4) / 4 + 1 := by omega
      have e2 : (j - 4) % 4 = j % 4 := by omega
      rw [e1, e2]; rfl
theorem cell_spot {w : World} {a : Addr} {v : Value} (h : w.cell? a = some v) : a.spot = none := by
  unfold World.cell? at h
  split at h
  · split at h
    · cases h
    · rename_i hs
      simpa using hs
  · cases h
theorem cells4 {w : World} {a : Addr} {cs : List Value} (h : w.cells? 0 a 4 = some cs) : ∃ c0 c1 c2 c3, cs = [c0, c1, c2, c3] ∧ w.cell? a = some c0 ∧ w.cell? (a.add 1) = some c1 ∧ w.cell? (a.add 2) = some c2 ∧ w.cell? (a.add 3) = some c3 := by
  obtain ⟨_, hl, hc⟩ := World.cells?_some h
  match cs, hl with
  | [c0, c1, c2, c3], _ =>
    exact ⟨c0, c1, c2, c3, rfl, by simpa [Addr.add] using hc 0 (by decide), by simpa using hc 1 (by decide), by simpa using hc 2 (by decide), by simpa using hc 3 (by decide)⟩
theorem wf64 {n : Int} (h : (Lit.int .i64 n).wf = true) : In64 n := bounds_i64 h
def rawUndB (k : Option TypeDesc) : Bool := match k with
  | some (.struct fs) => match fs.toList with
    | [f0, f1, f2, f3] => Nat.beq f0.type ty_int && (Nat.beq f0.offset 0 && (Nat.beq f1.type ty_int && (Nat.beq f1.offset 1 && (Nat.beq f2.type ty_string && (Nat.beq f2.offset 2 && (Nat.beq f3.type ty_sl_l3_Raw && Nat.beq f3.offset 3))))))
    | _ => false
  | _ => false
theorem rawUnd_k : rawUndB (PG.underlying ty_l3_Raw) = true := by kernel_rfl
theorem rawUnd : ∃ f0 f1 f2 f3 : Field, PG.underlying ty_l3_Raw = some (.struct #[f0, f1, f2, f3]) ∧ (f0.type = ty_int ∧ f0.offset = 0) ∧ (f1.type = ty_int ∧ f1.offset = 1) ∧ (f2.type = ty_string ∧ f2.offset = 2) ∧ (f3.type = ty_sl_l3_Raw ∧ f3.offset = 3) := by
  have h := rawUnd_k
  generalize PG.underlying ty_l3_Raw = k at h
  unfold rawUndB at h
  split at h
  · rename_i fs
    split at h
    · rename_i f0 f1 f2 f3 hl
      simp only [Bool.and_eq_true, Nat.beq_eq] at h
      obtain ⟨a1, a2, a3, a4, a5, a6, a7, a8⟩ := h
      have : fs = #[f0, f1, f2, f3] := by
        rw [← Array.toArray_toList (xs := fs), hl]
      rw [this]
      exact ⟨f0, f1, f2, f3, rfl, ⟨a1, a2⟩, ⟨a3, a4⟩, ⟨a5, a6⟩, a7, a8⟩
    · cases h
  · cases h
theorem u_slRaw : PG.underlying ty_sl_l3_Raw = some (.slice ty_l3_Raw) := by kernel_rfl
theorem u_int : PG.underlying ty_int = some (.int .i64) := by kernel_rfl
theorem u_string : PG.underlying ty_string = some .string := by kernel_rfl
theorem c_Raw : PG.cellsOf ty_l3_Raw = 4 := by kernel_rfl
theorem c_int : PG.cellsOf ty_int = 1 := by kernel_rfl
theorem c_string : PG.cellsOf ty_string = 1 := by kernel_rfl
theorem c_slRaw : PG.cellsOf ty_sl_l3_Raw = 1 := by kernel_rfl
structure RawAt (W : World) (r : RawT) (c : Nat → Value) : Prop where
  ok : r.ok
  c0 : c 0 = .int .i64 r.k
  c1 : c 1 = .int .i64 r.n
  c2 : c 2 = .string ⟨r.s.toArray⟩
  c3 : R (worldMap W) (rawsP r.nl r.l) (c 3) ∧ (c 3).oneCell' = true
theorem rawAt_cell {W : World} {r : RawT} {c : Nat → Value} (h : RawAt W r c) {j : Nat} {p : PV} (hp : r.pv.cellsD[j]? = some p) : R (worldMap W) p (c j) ∧ (c j).oneCell' = true ∧ p.clean = true := by
  rw [pv_eq] at hp
  match j, hp with
  | 0, hp => cases hp; rw [h.c0]; exact ⟨.int _ _, rfl, rfl⟩
  | 1, hp => cases hp; rw [h.c1]; exact ⟨.int _ _, rfl, rfl⟩
  | 2, hp => cases hp; rw [h.c2]; exact ⟨.str ⟨r.s.toArray⟩, rfl, rfl⟩
  | 3, hp => cases hp; exact ⟨h.c3.1, h.c3.2, (raws_good _ _).1⟩
theorem oks_of : ∀ {l : List RawT}, (∀ r ∈ l, r.ok) → RawT.oks l
  | [], _ => trivial
  | r :: l, h => ⟨h r (by simp), oks_of fun q hq => h q (by simp [hq])⟩
theorem raws_trod {H : Type} {enc : TypeId × Value → H} {W : World} : ∀ (fuel : Nat) (cs : List Value) (x : DataW H × List MemPlace), DataW.trod enc PG W 0 (fun _ => true) true fuel ty_sl_l3_Raw cs = some x →
    ∃ nl l v, cs = [v] ∧ nlOk nl l ∧ RawT.oks l ∧ R (worldMap W) (rawsP nl l) v ∧ v.oneCell' = true := by
  intro fuel
  induction fuel using Nat.strongRecOn with
  | _ fuel ih =>
    intro cs x h
    rcases DataW.trod_slice u_slRaw h with ⟨rfl, _⟩ | ⟨a, len, cap, elems, rest, n, hfuel, rfl, rfl, _, hl, hm, hlen, hel, hsp, _⟩
    · exact ⟨0, [], _, rfl, fun _ => rfl, trivial, .nilslice, rfl⟩
    · by_cases hcap : cap = 0
      · have : len = 0 := by omega
        subst this hcap
        exact ⟨1, [], _, rfl, fun _ => rfl, trivial, .eslice a, rfl⟩
      · have hspot : a.spot = none := by
          by_cases h0 : 0 < len
          · have h1 := hel 0 h0
            rw [List.getElem?_eq_getElem (by omega), Option.bind_eq_some_iff] at h1
            obtain ⟨c4, hc4, _⟩ := h1
            rw [c_Raw] at hc4
            obtain ⟨_, _, _, _, _, hc, _⟩ := cells4 hc4
            have := cell_spot hc
            simpa [Addr.add] using this
          · obtain ⟨hr, h1⟩ := hsp rfl
            have h1 := h1 0 (by omega)
            rw [List.getElem?_eq_getElem (by omega), Option.bind_eq_some_iff] at h1
            obtain ⟨c4, hc4, _⟩ := h1
            rw [c_Raw] at hc4
            obtain ⟨_, _, _, _, _, hc, _⟩ := cells4 hc4
            have := cell_spot hc
            have e : len = 0 := by omega
            subst e
            simpa [Addr.add] using this
        obtain ⟨b, o, sp⟩ := a
        simp only at hspot
        subst hspot
        obtain ⟨f0, f1, f2, f3, hu, ⟨t0, o0⟩, ⟨t1, o1⟩, ⟨t2, o2⟩, t3, o3⟩ := rawUnd
        have each : ∀ i, ∃ (q : RawT × (Nat → Value)), i < len → RawAt W q.1 q.2 ∧ ∀ j, j < 4 → W.cell? ⟨b, o + (i * 4 + j), none⟩ = some (q.2 j) := fun i => by
          by_cases hi : i < len
          · have h1 := hel i hi
            rw [List.getElem?_eq_getElem (by omega), Option.bind_eq_some_iff] at h1
            obtain ⟨c4, hc4, ht⟩ := h1
            rw [c_Raw] at hc4
            obtain ⟨c0, c1, c2, c3, rfl, k0, k1, k2, k3⟩ := cells4 hc4
            obtain ⟨ys, m, hm', _, _, _, hfx⟩ := DataW.trod_struct hu ht
            have s0 := hfx 0 f0 rfl
            have s1 := hfx 1 f1 rfl
            have s2 := hfx 2 f2 rfl
            have s3 := hfx 3 f3 rfl
            rename_i hys
            have hy : ys.length = 4 := hys
            rw [t0, o0, c_int, List.getElem?_eq_getElem (by omega)] at s0
            rw [t1, o1, c_int, List.getElem?_eq_getElem (by omega)] at s1
            rw [t2, o2, c_string, List.getElem?_eq_getElem (by omega)] at s2
            rw [t3, o3, c_slRaw, List.getElem?_eq_getElem (by omega)] at s3
            obtain ⟨kk, e0, _, w0⟩ := DataW.trod_int u_int s0
            obtain ⟨nn, e1, _, w1⟩ := DataW.trod_int u_int s1
            obtain ⟨ss, e2, _, _⟩ := DataW.trod_string u_string s2
            have hmf : m < fuel := by omega
            obtain ⟨nl, l, v, e3, g1, g2, g3, g4⟩ := ih m hmf _ _ s3
            simp at e0 e1 e2 e3
            subst e0 e1 e2 e3
            refine ⟨(.mk kk nn ss.data.toList nl l, fun j => [Value.int .i64 kk, .int .i64 nn, .string ss, c3].getD j Go.undef), fun _ => ⟨⟨⟨⟨wf64 w0, wf64 w1⟩, g1, g2⟩, rfl, rfl, rfl, g3, g4⟩, fun j hj => ?_⟩⟩
            have hj4 : j = 0 ∨ j = 1 ∨ j = 2 ∨ j = 3 := by omega
            rw [add_plain] at k0 k1 k2 k3
            rcases hj4 with rfl | rfl | rfl | rfl
            · exact k0
            · exact k1
            · exact k2
            · exact k3
          · exact ⟨(.mk 0 0 [] 0 [], fun _ => Go.undef), fun h => absurd h hi⟩
        obtain ⟨q, hq⟩ := Classical.axiomOfChoice each
        have hlen' : ((List.range len).map fun i => (q i).1).length = len := by simp
        refine ⟨2, (List.range len).map (fun i => (q i).1), _, rfl, fun h => absurd h (by decide), oks_of fun r hr => ?_, ?_, rfl⟩
        · obtain ⟨i, hi, rfl⟩ := List.mem_map.1 hr
          rw [List.mem_range] at hi
          exact (hq i hi).1.ok
        · have hget : ∀ j p, ((RawT.pvs ((List.range len).map fun i => (q i).1)).flatMap PV.cellsD)[j]? = some p → j / 4 < len ∧ (q (j / 4)).1.pv.cellsD[j % 4]? = some p := fun j p hp => by
            rw [pvs_map, flat4_get PV.cellsD _ (fun a ha => by
              obtain ⟨r, _, rfl⟩ := List.mem_map.1 ha
              rw [pv_eq]; rfl)] at hp
            rw [List.getElem?_map, List.getElem?_map] at hp
            by_cases hj : j / 4 < len
            · rw [List.getElem?_range hj] at hp
              exact ⟨hj, hp⟩
            · rw [List.getElem?_eq_none (by simp; omega)] at hp
              cases hp
          have := R.slice (X := worldMap W) 4 (RawT.pvs ((List.range len).map fun i => (q i).1)) b o cap (fun j => (q (j / 4)).2 (j % 4)) (fun p hp => by
            rw [pvs_map] at hp
            obtain ⟨r, _, rfl⟩ := List.mem_map.1 hp
            rw [pv_eq]; rfl) (by decide) (by rw [pvs_map]; simp; exact hl)
            (fun j p hp => by
              obtain ⟨hj, _⟩ := hget j p hp
              have := (hq (j / 4) hj).2 (j % 4) (by omega)
              rw [show j / 4 * 4 + j % 4 = j by omega] at this
              exact this)
            (fun j p hp => by
              obtain ⟨hj, hp'⟩ := hget j p hp
              exact (rawAt_cell (hq (j / 4) hj).1 hp').1)
            (fun j p hp => by
              obtain ⟨hj, hp'⟩ := hget j p hp
              exact (rawAt_cell (hq (j / 4) hj).1 hp').2)
          rw [pvs_map, List.length_map, hlen'] at this
          show R (worldMap W) (.slice 4 (RawT.pvs _)) _
          rw [pvs_map]
          exact this
set_option maxRecDepth 20000 in
theorem raws_arg {H : Type} {enc : TypeId × Value → H} {W : World} {base : Nat} {v : Value} {d : DataW H} {p : List MemPlace} (hv : Value.okWide PG W .any base ty_sl_l3_Raw v) (h : DataW.Trod enc PG W 0 (fun _ => true) true ty_sl_l3_Raw v d p) :
    ∃ nl l, nlOk nl l ∧ RawT.oks l ∧ R (worldMap W) (rawsP nl l) v := by
  obtain ⟨a0, len0, cap0, rfl⟩ := okWide_slice u_slRaw hv
  obtain ⟨fuel, hf⟩ := h
  obtain ⟨nl, l, v, e, h1, h2, h3, _⟩ := raws_trod fuel _ _ hf
  simp [Value.cells] at e
  subst e
  exact ⟨nl, l, h1, h2, h3⟩
end Go.Proofs.Ytglffgneikoeaaa.Den
namespace Go.Proofs.Ytglffgneikoeaaa.Den
open Go Go.RowKit
open Go.Proofs.Ytglffgneikoeaaa.M
def eqG4 (b0 b1 b2 b3 : Bool) : Option PV := match (match b0 with | true => (match b1 with | true => (match b2 with | true => (match b3 with | true => some true | false => some false) | false => some false) | false => some false) | false => some false : Option Bool) with | some b => some (PV.bool b) | none => none
theorem eqV_k (a b c a' b' c' : Int) (s s' : List UInt8) : binP PG .eql ty_api_Value (.agg [nI a, nI b, nI c, .str s]) (.agg [nI a', nI b', nI c', .str s']) = eqG4 (a == a') (b == b') (c == c') (s == s') := by kernel_rfl
theorem eqV_self (v : V4) : binP PG .eql ty_api_Value (.agg (vcells v)) (.agg (vcells v)) = some (.bool true) := by
  unfold vcells
  rw [eqV_k]
  simp [eqG4]
def litV : List PV := mk4 40
def lFacts (k : Nat) : List Fact :=
  [.prim f_l4_known [] (.bool true), .prim f_l3_Few [.atom 19] (.bool true), .op (.len ty_sl_l3_Raw) [.atom 19] (.atom 36), .op (.bin .eql ty_int) [.atom 36, nI 0] (.bool false), .prim f_l3_Table [.atom 15, .atom 16, .nilslice] (tabA5 k),
   .op (.ix ty_sl_l3_Raw) [.atom 19, nI 0] (.ref [.atom 44, .atom 37, .atom 38, .atom 45]), oI .quo (.atom 37) (nI 7) (.atom 39), .prim f_l1_Make [.atom 37, .atom 39, .atom 38] (.agg litV),
   .row f_l4_Row [tabA5 k, .atom 0, .str [115]] ty_api_Value 4 k (cellsA k), oI .eql (.atom 40) (.atom 40) (.bool true), .op (.bin .eql ty_api_Value) [.agg litV, .agg litV] (.bool true)]
theorem lits_k : ((List.range 5).all fun k => Nat.beq k 0 || okR (.bool true) (callF PG (fOrc noOwn (lFacts k)) 60 f_l4_EvalLits [.atom 15, .atom 16, .atom 0, .atom 19] [])) = true := by kernel_rfl
theorem lits_k0 : okR (.bool true) (callF PG (fOrc noOwn [.prim f_l4_known [] (.bool true), .prim f_l3_Few [.atom 19] (.bool false)]) 60 f_l4_EvalLits [.atom 15, .atom 16, .atom 0, .atom 19] []) = true := by kernel_rfl
theorem lits_k1 : okR (.bool true) (callF PG (fOrc noOwn [.prim f_l4_known [] (.bool true), .prim f_l3_Few [.atom 19] (.bool true), .op (.len ty_sl_l3_Raw) [.atom 19] (.atom 36), .op (.bin .eql ty_int) [.atom 36, nI 0] (.bool true)]) 60 f_l4_EvalLits [.atom 15, .atom 16, .atom 0, .atom 19] []) = true := by kernel_rfl
theorem few_k (b : Bool) : callF PG (fOrc noOwn [.prim f_l3_size [.atom 0, nI 0] (.atom 1), oI .leq (.atom 1) (nI 16) (.bool b)]) 5 f_l3_Few [.atom 0] [] = some (.bool b, []) := by cases b <;> kernel_rfl
def fewB (l : List RawT) : Bool := decide (sizeM 7 l ≤ 16)
theorem few_ev (nl : Nat) (l : List RawT) (hn : nlOk nl l) (ho : RawT.oks l) : Ev PG f_l3_Few [rawsP nl l] (.bool (fewB l)) := by
  have hg := raws_good nl l
  have hs : Ev PG f_l3_size [rawsP nl l, nI 0] (nI (sizeM 7 l)) := size_ev 7 (by decide) nl l hn ho
  refine Ev.facts prog_ok (nuL_okB (l := [rawsP nl l, nI (sizeM 7 l)]) (by simp only [List.all_cons, hg.1, hg.2.1]; rfl)) (few_k (fewB l)) ⟨fprim hs rfl rfl rfl, fCmp rfl rfl rfl rfl (by decide) rfl, trivial⟩ ?_ rfl
  show (((rawsP nl l).pure && (rawsP nl l).one) && true && _) = true
  rw [hg.2.1, hg.2.2]; rfl
end Go.Proofs.Ytglffgneikoeaaa.Den
namespace Go.Proofs.Ytglffgneikoeaaa.Den
open Go Go.RowKit
open Go.Proofs.Ytglffgneikoeaaa.M
def lL (ms ns lp : PV) (n : Int) (nm : List UInt8) (ty : Nat → Int) (nn : Nat → Bool) (key : Nat) (uq lk : PV) (V : Nat → V4) (len : Nat) (r : RawT) (v : V4) : List PV :=
  [ms, nI 0, nI 0, .str nm, nI (ty 0), nI (ty 1), nI (ty 2), nI (ty 3), .bool (nn 0), .bool (nn 1), .bool (nn 2), .bool (nn 3), nI key, uq, lk, nI n, ns, nI 0, nI 0, lp] ++
  (vcells (V 0) ++ (vcells (V 1) ++ (vcells (V 2) ++ (vcells (V 3) ++ ([nI len, nI r.n, .str r.s, nI (w6' (r.n.tdiv 7))] ++ (vcells v ++ [nI r.k, rawsP r.nl r.l]))))))
theorem lL_ok {ms ns : PV} {xs ys : List Int} (hms : ms = .slice 1 (xs.map (.int .i64)) ∨ (ms = .nilslice ∧ xs = [])) (hns : ns = .slice 1 (ys.map (.int .i64)) ∨ (ns = .nilslice ∧ ys = [])) (nl : Nat) (l : List RawT) (n : Int) (nm : List UInt8) (ty : Nat → Int) (nn : Nat → Bool) (key : Nat) {uq lk : PV} (hu : goodB uq = true) (hl : goodB lk = true) (V : Nat → V4) (len : Nat) (r : RawT) (v : V4) :
    NuOk (nuL (lL ms ns (rawsP nl l) n nm ty nn key uq lk V len r v)) := by
  refine nuL_okB ?_
  have e1 : (uq.clean && uq.pure) = true := by simp only [goodB, Bool.and_eq_true] at hu ⊢; exact ⟨hu.1, hu.2.1⟩
  have e2 : (lk.clean && lk.pure) = true := by simp only [goodB, Bool.and_eq_true] at hl ⊢; exact ⟨hl.1, hl.2.1⟩
  have e3 : ((rawsP nl l).clean && (rawsP nl l).pure) = true := by have := raws_good nl l; simp [this.1, this.2.1]
  have e4 : ((rawsP r.nl r.l).clean && (rawsP r.nl r.l).pure) = true := by have := raws_good r.nl r.l; simp [this.1, this.2.1]
  unfold lL vcells
  simp only [List.cons_append, List.nil_append, List.all_cons, (ints_good hms).1, (ints_good hns).1, e1, e2, e3, e4]
  rfl
theorem few_head {l : List RawT} {x : RawT} (h : fewB l = true) (hx : l[0]? = some x) : x.s.length ≤ 100 := by
  cases l with
  | nil => simp at hx
  | cons y l =>
    simp at hx; subst hx
    simp only [fewB, decide_eq_true_eq] at h
    have e : sizeM 7 (y :: l) = (sizeO (sizeM 6) (y :: l) 0).getD 1000 := rfl
    rw [e] at h
    unfold sizeO at h
    rw [if_pos (by decide)] at h
    by_cases hc : 100 < y.s.length
    · rw [if_pos hc] at h
      simp at h
    · omega
set_option maxRecDepth 20000 in
theorem lits_ev {ms ns : PV} {xs ys : List Int} {nl : Nat} {l : List RawT} (hns : ns = .slice 1 (ys.map (.int .i64)) ∨ (ns = .nilslice ∧ ys = [])) (hms : ms = .slice 1 (xs.map (.int .i64)) ∨ (ms = .nilslice ∧ xs = [])) (hnl : nlOk nl l) (ho : RawT.oks l) (n : Int) : Ev PG f_l4_EvalLits [nI n, ns, ms, rawsP nl l] (.bool true) := by
  obtain ⟨k, key, nm, ty, nn, uq, lk, hk, hkey, hty, hu, hl, ht⟩ := table_ev n hns
  have gm := ints_good hms
  have gn := ints_good hns
  have gm' := gm.1
  have gn' := gn.1
  have gl := raws_good nl l
  simp only [Bool.and_eq_true] at gm' gn'
  have hargs : ∀ nu : Nat → PV, nu 15 = nI n → nu 16 = ns → nu 0 = ms → nu 19 = rawsP nl l → ([PV.atom 15, .atom 16, .atom 0, .atom 19].all fun p => argB nu p && p.shut) = true := fun nu e1 e2 e3 e4 => by
    simp only [List.all_cons, List.all_nil, argB, subD, oneB, e1, e2, e3, e4, gm'.2, gm.2, gn'.2, gn.2, gl.2.1, gl.2.2]
    rfl
  have hfew := few_ev nl l hnl ho
  cases hf : fewB l with
  | false =>
    rw [hf] at hfew
    exact Ev.facts prog_ok (lL_ok hms hns nl l n nm ty nn key hu hl (fun _ => (0, 0, 0, [])) 0 (.mk 0 0 [] 0 []) (0, 0, 0, [])) (okR_eq lits_k0) ⟨fprim known4_ev rfl rfl rfl, fprim hfew rfl rfl rfl, trivial⟩ (hargs _ rfl rfl rfl rfl) rfl
  | true =>
    rw [hf] at hfew
    cases hx : l[0]? with
    | none =>
      have h0 : l.length = 0 := by
        have := List.getElem?_eq_none_iff.1 hx
        omega
      refine Ev.facts prog_ok (lL_ok hms hns nl l n nm ty nn key hu hl (fun _ => (0, 0, 0, [])) l.length (.mk 0 0 [] 0 []) (0, 0, 0, [])) (okR_eq lits_k1) ⟨fprim known4_ev rfl rfl rfl, fprim hfew rfl rfl rfl, ⟨rawLen_ok hnl, rfl⟩, ?_, trivial⟩ (hargs _ rfl rfl rfl rfl) rfl
      exact fCmp (c := true) (a := l.length) (b := 0) rfl rfl rfl (by simp only [intP, h0]; rfl) (by decide) rfl
    | some r =>
      have hlen : l.length ≠ 0 := by
        have := (List.getElem?_eq_some_iff.1 hx).1
        omega
      have hrok := oks_get ho hx
      have hs := few_head hf hx
      have hr64 : In64 r.n := by cases r; exact hrok.1.2
      obtain ⟨V, hV, hrow⟩ := row5_ev hms [115] nm (by simp) k hk ty nn hty key hu hl
      have h7 := I64_tdiv r.n 7 hr64 (by decide)
      have hq : I64 (w6' (r.n.tdiv 7)) := by
        have h8 := h7.1
        rw [h7.2] at h8
        rw [w6_id h8.1 h8.2]; exact h8
      obtain ⟨N, S, st, _, hmk⟩ := makeM_ev r.n (w6' (r.n.tdiv 7)) r.s hr64 hq (by omega)
      have hnu := lL_ok hms hns nl l n nm ty nn key hu hl V l.length r (r.n % 6, N, (S : Int), st.data.toList)
      have hkk := List.all_eq_true.1 lits_k k (by rw [List.mem_range]; omega)
      have hk0 : Nat.beq k 0 = false := by
        have : k ≠ 0 := by omega
        cases k with
        | zero => exact absurd rfl this
        | succ k => rfl
      rw [hk0, Bool.false_or] at hkk
      have hgen : ∀ nu, nu = nuL (lL ms ns (rawsP nl l) n nm ty nn key uq lk V l.length r (r.n % 6, N, (S : Int), st.data.toList)) → subD nu (tabA5 k) = tabP nm k ty nn key uq lk ∧ (cellsA k).map (subD nu) = ((List.range k).flatMap fun i => vcells (V i)) ∧ (cellsA k).all (fun c => fnB nu [c]) = true := fun nu hnu => by
        subst hnu
        refine ⟨?_, ?_, ?_⟩
        · show tabC _ (.slice 3 (subDL _ ((List.range k).map colA5))) _ _ _ = _
          have : subDL (nuL (lL ms ns (rawsP nl l) n nm ty nn key uq lk V l.length r (r.n % 6, N, (S : Int), st.data.toList))) ((List.range k).map colA5) = (List.range k).map (colP5 ty nn) := by
            rw [subDL_map, List.map_map]
            refine List.map_congr_left fun i hi => ?_
            rw [List.mem_range] at hi
            have h4 : i = 0 ∨ i = 1 ∨ i = 2 ∨ i = 3 := by omega
            rcases h4 with rfl | rfl | rfl | rfl <;> rfl
          rw [this]; rfl
        · unfold cellsA
          rw [map_flat]
          refine flat_congr fun i hi => ?_
          rw [List.mem_range] at hi
          have h4 : i = 0 ∨ i = 1 ∨ i = 2 ∨ i = 3 := by omega
          rcases h4 with rfl | rfl | rfl | rfl <;> rfl
        · have : k = 1 ∨ k = 2 ∨ k = 3 ∨ k = 4 := by omega
          rcases this with rfl | rfl | rfl | rfl <;> rfl
      obtain ⟨htab, hcells, hfn⟩ := hgen _ rfl
      refine Ev.facts prog_ok hnu (okR_eq hkk) ⟨fprim known4_ev rfl rfl rfl, fprim hfew rfl rfl rfl, ⟨rawLen_ok hnl, rfl⟩, ?_, fprim ht rfl htab rfl, ⟨rawIx_ok hnl hx, rfl⟩, ?_, fprim hmk rfl rfl rfl, ⟨?_, hfn⟩, ?_, ⟨eqV_self _, rfl⟩, trivial⟩ (hargs _ rfl rfl rfl rfl) rfl
      · exact fCmp (c := false) (a := l.length) (b := 0) rfl rfl rfl (by simp only [intP]; simp [hlen]) (by decide) rfl
      · exact fInt rfl rfl rfl rfl (by decide) rfl
      · rw [hcells]
        have e : [tabA5 k, PV.atom 0, .str [115]].map (subD (nuL (lL ms ns (rawsP nl l) n nm ty nn key uq lk V l.length r (r.n % 6, N, (S : Int), st.data.toList)))) = [tabP nm k ty nn key uq lk, ms, .str [115]] := by
          simp only [List.map_cons, List.map_nil, htab]; rfl
        rw [e]; exact hrow
      · exact fCmp (c := true) (a := r.n % 6) (b := r.n % 6) rfl rfl rfl (by simp only [intP]; simp) (by decide) rfl
end Go.Proofs.Ytglffgneikoeaaa.Den
