-- Written by drive.py and pack.py (programs of this proof's own) through the kit's printer; not trusted: Lean checks it.
import Derived.Test.YtdlkibeljkapeaaGreatDoorCSqlNumbers6
import Derived.Test.YtdlkibeljkapeaaGreatDoorCSqlNumbers7
import Derived.Lib.Strings
import Derived.Test.YtdlkibeljkapeaaGreatDoorCSqlNumbers4
import Derived.Test.YtdlkibeljkapeaaGreatDoorCSqlNumbers3
namespace Go.Proofs.YtdlkibeljkapeaaGreatDoor.B
open Go.RowKit Go.Proofs.YtdlkibeljkapeaaGreatDoorW.PrintWords Go.Proofs.YtdlkibeljkapeaaGreatDoorW.PrintLast Go.Proofs.YtdlkibeljkapeaaGreatDoorW.PrintMore
attribute [local go_sem] max2_int min2_int max_two min_two max_three min_three max_four min_four
attribute [local go_sem high] own_gtr own_leq own_geq own_cell_set Option.map_some
set_option linter.unusedVariables false
set_option linter.unusedSimpArgs false
theorem wrap64_of {x : Int} (h0 : -9223372036854775808 ≤ x) (h1 : x ≤ 9223372036854775807) : wrap64 x = x := by
  unfold wrap64; omega
def red : Int → Nat → Int × Nat
  | n, 0 => (n, 0)
  | n, s + 1 => if n % 10 = 0 then red (n / 10) s else (n, s + 1)
theorem red_zero : ∀ s, red 0 s = (0, 0)
  | 0 => rfl
  | s + 1 => by simp only [red]; rw [if_pos (by decide)]; exact red_zero s
theorem red_scale : ∀ (s : Nat) (n : Int), (red n s).2 ≤ s
  | 0, _ => Nat.le_refl _
  | s + 1, n => by
    simp only [red]
    split
    · exact Nat.le_succ_of_le (red_scale s _)
    · exact Nat.le_refl _
theorem red_done : ∀ (s : Nat) (n : Int), (red n s).2 = 0 ∨ (red n s).1 % 10 ≠ 0
  | 0, _ => Or.inl rfl
  | s + 1, n => by
    simp only [red]
    split
    · exact red_done s _
    · rename_i h; exact Or.inr h
theorem red_abs : ∀ (s : Nat) (n : Int), (red n s).1.natAbs ≤ n.natAbs
  | 0, _ => Nat.le_refl _
  | s + 1, n => by
    simp only [red]
    split
    · exact Nat.le_trans (red_abs s _) (by omega)
    · exact Nat.le_refl _
theorem tmod10 (n : Int) : (Int.tmod n 10 = 0) ↔ n % 10 = 0 := by
  constructor
  · intro h; have := Int.dvd_of_tmod_eq_zero h; omega
  · intro h; exact Int.tmod_eq_zero_of_dvd (by omega)
theorem tdiv10 (n : Int) (h : n % 10 = 0) : Int.tdiv n 10 = n / 10 := by
  rw [Int.tdiv_eq_ediv]; split <;> omega
theorem ref_Norm_l0 (st : ByteArray) : ∀ (s k : Nat) (n : Int), s < k → s ≤ 9223372036854775807 → -9223372036854775808 ≤ n → n ≤ 9223372036854775807 → federationref1_Norm.l0 k 3 n (s : Int) st = some (3, (red n s).1, ((red n s).2 : Int), st)
  | 0, k, n, hk, _, _, _ => by
    obtain ⟨k, rfl⟩ : ∃ m, k = m + 1 := ⟨k - 1, by omega⟩
    simp only [federationref1_Norm.l0]; rw [if_pos trivial, if_neg (by omega)]; rfl
  | s + 1, k, n, hk, hs, h0, h1 => by
    obtain ⟨k, rfl⟩ : ∃ m, k = m + 1 := ⟨k - 1, by omega⟩
    simp only [federationref1_Norm.l0]; rw [if_pos trivial, if_pos (by omega)]
    simp only [red]
    by_cases h : n % 10 = 0
    · rw [if_pos ((tmod10 n).2 h), if_pos h, tdiv10 n h, wrap64_of (by omega) (by omega), wrap64_of (by omega) (by omega), show ((s + 1 : Nat) : Int) - 1 = (s : Int) by omega]
      exact ref_Norm_l0 st s k (n / 10) (by omega) (by omega) (by omega) (by omega)
    · rw [if_neg (fun e => h ((tmod10 n).1 e)), if_neg h]
theorem ref_Norm_eq (k s : Nat) (n : Int) (st : ByteArray) (hk : s + 2 < k) (hs : s ≤ 9223372036854775807) (h0 : -9223372036854775808 ≤ n) (h1 : n ≤ 9223372036854775807) : federationref1_Norm.f k 3 n (s : Int) st = some (3, (red n s).1, ((red n s).2 : Int), st) := by
  obtain ⟨k, rfl⟩ : ∃ m, k = m + 2 := ⟨k - 2, by omega⟩
  unfold federationref1_Norm.f
  rw [if_pos rfl]
  simp only [federationref1_Norm.j0, federationref1_Norm.j1]
  by_cases h : n = 0
  · subst h
    rw [red_zero]
    by_cases hs0 : (s : Int) > 0
    · rw [if_pos hs0]
      simp only [beq_self_eq_true, if_true]
      exact ref_Norm_l0 st 0 k 0 (by omega) (by omega) (by omega) (by omega)
    · rw [if_neg hs0, show (s : Int) = ((0 : Nat) : Int) by omega]
      simp only [Bool.false_eq_true, if_false]
      exact ref_Norm_l0 st 0 k 0 (by omega) (by omega) (by omega) (by omega)
  · have hl := ref_Norm_l0 st s k n (by omega) hs h0 h1
    by_cases hs0 : (s : Int) > 0
    · rw [if_pos hs0, if_neg (by simpa using h)]; exact hl
    · rw [if_neg hs0]; simp only [Bool.false_eq_true, if_false]; exact hl
end Go.Proofs.YtdlkibeljkapeaaGreatDoor.B
namespace Go.Proofs.YtdlkibeljkapeaaGreatDoor.B
open Go.RowKit Go.Proofs.YtdlkibeljkapeaaGreatDoorW.PrintWords Go.Proofs.YtdlkibeljkapeaaGreatDoorW.PrintLast Go.Proofs.YtdlkibeljkapeaaGreatDoorW.PrintMore
attribute [local go_sem] max2_int min2_int max_two min_two max_three min_three max_four min_four
attribute [local go_sem high] own_gtr own_leq own_geq own_cell_set Option.map_some
set_option linter.unusedVariables false
set_option linter.unusedSimpArgs false
theorem eqA28 (d : Nat) (w : World) (x0 y0 : Int) (x1 y1 : Int) (x2 y2 : Int) (x3 y3 : ByteArray) :
    (Op.equalIn (d + 2) 28 (.agg #[.int .i64 x0, .int .i64 x1, .int .i64 x2, .string x3]) (.agg #[.int .i64 y0, .int .i64 y1, .int .i64 y2, .string y3])).run Tryz.prog w = .ok (x0 == y0 && (x1 == y1 && (x2 == y2 && (x3.toList == y3.toList)))) w := by
  refine eqA_of Tryz.underlying28 (by kernel_rfl) ?_
  refine eqf_cons (by rfl) (by go_simp; rfl) (by go_simp; rfl) (by go_simp) ?_
  refine eqf_cons (by rfl) (by go_simp; rfl) (by go_simp; rfl) (by go_simp) ?_
  refine eqf_cons (by rfl) (by go_simp; rfl) (by go_simp; rfl) (by go_simp) ?_
  exact eqf_last (by rfl) (by go_simp; rfl) (by go_simp; rfl) (by go_simp)
end Go.Proofs.YtdlkibeljkapeaaGreatDoor.B
namespace Go.Proofs.YtdlkibeljkapeaaGreatDoor.B
open Go.RowKit Go.Proofs.YtdlkibeljkapeaaGreatDoorW.PrintWords Go.Proofs.YtdlkibeljkapeaaGreatDoorW.PrintLast Go.Proofs.YtdlkibeljkapeaaGreatDoorW.PrintMore
attribute [local go_sem] max2_int min2_int max_two min_two max_three min_three max_four min_four
attribute [local go_sem high] own_gtr own_leq own_geq own_cell_set Option.map_some
set_option linter.unusedVariables false
set_option linter.unusedSimpArgs false
def okB (st : ByteArray) : Bool := st.data.toList.all fun b => decide (32 ≤ b.toNat ∧ b.toNat ≤ 126)
def noS (st : ByteArray) : Bool := st.toList == ([] : List UInt8)
def rightB (kd n sc : Int) (st : ByteArray) : Bool :=
  if kd = 0 then n == 0 && (sc == 0 && noS st)
  else if kd = 1 then decide (0 ≤ n ∧ n ≤ 1) && (sc == 0 && noS st)
  else if kd = 2 then sc == 0 && noS st
  else if kd = 3 then decide (-1000000000000000 < n ∧ n < 1000000000000000 ∧ 0 ≤ sc ∧ sc ≤ 6 ∧ (sc = 0 ∨ n % 10 ≠ 0)) && noS st
  else if kd = 4 then decide (n = 0 ∧ sc = 0 ∧ st.data.size ≤ 40) && okB st
  else if kd = 5 then decide (n = 0 ∧ sc = 0 ∧ st.data.size ≤ 40)
  else false
end Go.Proofs.YtdlkibeljkapeaaGreatDoor.B
namespace Go.Proofs.YtdlkibeljkapeaaGreatDoor.B
open Go.RowKit Go.Proofs.YtdlkibeljkapeaaGreatDoorW.PrintWords Go.Proofs.YtdlkibeljkapeaaGreatDoorW.PrintLast Go.Proofs.YtdlkibeljkapeaaGreatDoorW.PrintMore
attribute [local go_sem] max2_int min2_int max_two min_two max_three min_three max_four min_four
attribute [local go_sem high] own_gtr own_leq own_geq own_cell_set Option.map_some
set_option linter.unusedVariables false
set_option linter.unusedSimpArgs false
def I64 (x : Int) : Prop := -9223372036854775808 ≤ x ∧ x ≤ 9223372036854775807
end Go.Proofs.YtdlkibeljkapeaaGreatDoor.B
namespace Go.Proofs.YtdlkibeljkapeaaGreatDoor.B
open Go.RowKit Go.Proofs.YtdlkibeljkapeaaGreatDoorW.PrintWords Go.Proofs.YtdlkibeljkapeaaGreatDoorW.PrintLast Go.Proofs.YtdlkibeljkapeaaGreatDoorW.PrintMore
attribute [local go_sem] max2_int min2_int max_two min_two max_three min_three max_four min_four
attribute [local go_sem high] own_gtr own_leq own_geq own_cell_set Option.map_some
set_option linter.unusedVariables false
set_option linter.unusedSimpArgs false
structure RD (n : Int) (s : Nat) : Prop where
  lo : -1000000000000000 < n
  hi : n < 1000000000000000
  sc : s ≤ 6
  nm : s = 0 ∨ n % 10 ≠ 0
structure RV (kd n : Int) (s : Nat) : Prop where
  i : I64 n
  d : kd = 3 → RD n s
end Go.Proofs.YtdlkibeljkapeaaGreatDoor.B
namespace Go.Proofs.YtdlkibeljkapeaaGreatDoor.B
open Go.RowKit Go.Proofs.YtdlkibeljkapeaaGreatDoorW.PrintWords Go.Proofs.YtdlkibeljkapeaaGreatDoorW.PrintLast Go.Proofs.YtdlkibeljkapeaaGreatDoorW.PrintMore
attribute [local go_sem] max2_int min2_int max_two min_two max_three min_three max_four min_four
attribute [local go_sem high] own_gtr own_leq own_geq own_cell_set Option.map_some
set_option linter.unusedVariables false
set_option linter.unusedSimpArgs false
theorem within_eq (a n : Int) (ha : I64 a) (h0 : 0 < n) (h1 : n ≤ 4611686018427387904) : federationlaw1_within.f a n = some (a % n) := by
  unfold federationlaw1_within.f I64 at *
  rw [if_neg (by omega)]
  have e1 := Int.mul_tdiv_add_tmod a n
  have e2 := Int.mul_ediv_add_emod a n
  have e3 := Int.emod_lt_of_pos a h0
  have e4 := Int.emod_nonneg a (show n ≠ 0 by omega)
  have e5 := Int.tmod_lt_of_pos a h0
  have e6 := Int.tmod_lt_of_pos (-a) h0
  rw [Int.neg_tmod] at e6
  by_cases c : a.tmod n < 0
  · rw [if_pos c, wrap64_of (by omega) (by omega)]
    have := ((Int.ediv_emod_unique (a := a) (r := a.tmod n + n) (q := a.tdiv n - 1) h0).2 ⟨by rw [Int.mul_sub, Int.mul_one]; omega, by omega, by omega⟩).2
    rw [this]
  · rw [if_neg c]
    have := ((Int.ediv_emod_unique (a := a) (r := a.tmod n) (q := a.tdiv n) h0).2 ⟨by omega, by omega, by omega⟩).2
    rw [this]
theorem emod_bd (a n : Int) (h0 : 0 < n) : 0 ≤ a % n ∧ a % n < n := ⟨Int.emod_nonneg a (by omega), Int.emod_lt_of_pos a h0⟩
theorem RV_right {kd n : Int} {s : Nat} {st : ByteArray} (hn : I64 n) (h : rightB kd n (s : Int) st = true) : RV kd n s := by
  refine ⟨hn, fun e => ?_⟩
  subst e
  unfold rightB at h
  rw [if_neg (by decide), if_neg (by decide), if_neg (by decide), if_pos rfl, Bool.and_eq_true, decide_eq_true_eq] at h
  obtain ⟨⟨a, b, c, d, e⟩, _⟩ := h
  exact ⟨a, b, by omega, by omega⟩
theorem noS_empty : noS (⟨#[]⟩ : ByteArray) = true := by decide +kernel
theorem right_RD {n : Int} {s : Nat} (h : RD n s) : rightB 3 n (s : Int) (⟨#[]⟩ : ByteArray) = true := by
  unfold rightB
  rw [if_neg (by decide), if_neg (by decide), if_neg (by decide), if_pos rfl, noS_empty, Bool.and_true, decide_eq_true_eq]
  exact ⟨h.lo, h.hi, by omega, by have := h.sc; omega, by have := h.nm; omega⟩
theorem RD_red (n : Int) (s : Nat) (h0 : -1000000000000000 < n) (h1 : n < 1000000000000000) (hs : s ≤ 6) : RD (red n s).1 (red n s).2 := by
  have a := red_abs s n
  have b := red_scale s n
  have c := red_done s n
  exact ⟨by omega, by omega, by omega, c⟩
theorem mkText_size (st : ByteArray) : (mkText st).data.size ≤ 40 := by
  unfold mkText strOfNums
  simp [conv8L_length]
  omega
theorem mkText_ok (st : ByteArray) : okB (mkText st) = true := by
  unfold okB mkText strOfNums
  simp only [List.all_eq_true, decide_eq_true_eq, List.map_toArray, List.mem_map, conv8L]
  rintro b ⟨x, hx, rfl⟩
  obtain ⟨c, _, rfl⟩ := List.mem_map.1 (List.mem_of_mem_take hx)
  unfold conv8
  have h1 := emod_bd (c.toNat : Int) 95 (by decide)
  generalize (c.toNat : Int) % 95 = z at *
  have : ((32 + z).toNat % 256) = (32 + z).toNat := Nat.mod_eq_of_lt (by omega)
  simp only [UInt8.toNat_ofNat']
  omega
theorem extract_size (st : ByteArray) (j : Nat) : (st.extract 0 j).data.size = min j st.data.size := by
  rw [← Array.length_toList, Lib.extract_data]
  simp
structure Made (kd n : Int) (s : Nat) (st : ByteArray) : Prop where
  r : rightB kd n (s : Int) st = true
  v : RV kd n s
  sz : st.data.size ≤ 40
  k0 : 0 ≤ kd
  k5 : kd ≤ 5
  z : kd ≠ 3 → s = 0
theorem rd6 (a b c d e f : Int) (i : Int) (h0 : 0 ≤ i) (h1 : i < 6) : rd [a, b, c, d, e, f] i = a ∨ rd [a, b, c, d, e, f] i = b ∨ rd [a, b, c, d, e, f] i = c ∨ rd [a, b, c, d, e, f] i = d ∨ rd [a, b, c, d, e, f] i = e ∨ rd [a, b, c, d, e, f] i = f := by
  have : i = 0 ∨ i = 1 ∨ i = 2 ∨ i = 3 ∨ i = 4 ∨ i = 5 := by omega
  rcases this with rfl | rfl | rfl | rfl | rfl | rfl
  · exact Or.inl rfl
  · exact Or.inr (Or.inl rfl)
  · exact Or.inr (Or.inr (Or.inl rfl))
  · exact Or.inr (Or.inr (Or.inr (Or.inl rfl)))
  · exact Or.inr (Or.inr (Or.inr (Or.inr (Or.inl rfl))))
  · exact Or.inr (Or.inr (Or.inr (Or.inr (Or.inr rfl))))
theorem rd8 (a b c d e f g h : Int) (P : Int → Prop) (pa : P a) (pb : P b) (pc : P c) (pd : P d) (pe : P e) (pf : P f) (pg : P g) (ph : P h) (i : Int) (h0 : 0 ≤ i) (h1 : i < 8) : P (rd [a, b, c, d, e, f, g, h] i) := by
  have : i = 0 ∨ i = 1 ∨ i = 2 ∨ i = 3 ∨ i = 4 ∨ i = 5 ∨ i = 6 ∨ i = 7 := by omega
  rcases this with rfl | rfl | rfl | rfl | rfl | rfl | rfl | rfl
  · exact pa
  · exact pb
  · exact pc
  · exact pd
  · exact pe
  · exact pf
  · exact pg
  · exact ph
theorem I64_tdiv (a b : Int) (ha : I64 a) (hb : 2 ≤ b) : I64 (wrap64 (a.tdiv b)) ∧ wrap64 (a.tdiv b) = a.tdiv b := by
  have h := Int.natAbs_tdiv_le_natAbs a b
  have h2 : (a.tdiv b).natAbs ≤ 4611686018427387904 := by
    rw [Int.natAbs_tdiv]
    have h1 : a.natAbs ≤ 9223372036854775808 := by unfold I64 at ha; omega
    exact Nat.le_trans (Nat.div_le_div_left (show 2 ≤ b.natAbs by omega) (by decide)) (by have := Nat.div_le_div_right (c := 2) h1; simpa using this)
  have e : wrap64 (a.tdiv b) = a.tdiv b := wrap64_of (by omega) (by omega)
  rw [e]
  exact ⟨⟨by omega, by omega⟩, rfl⟩
theorem Make_eq (kind n : Int) (st : ByteArray) (hk : I64 kind) (hn : I64 n) (hs : st.size ≤ 140737488351232) :
    ∃ n' s' st', (∀ k, 60 < k → federationlaw1_Make.f k kind n st = some (kind % 6, n', ((s' : Nat) : Int), st')) ∧ Made (kind % 6) n' s' st' := by
  have hk6 := within_eq kind 6 hk (by decide) (by decide)
  have hb := emod_bd kind 6 (by decide)
  have hd := I64_tdiv kind 6 hk (by decide)
  have hd2 := I64_tdiv kind 36 hk (by decide)
  have h0 : I64 0 := ⟨by decide, by decide⟩
  have em : (⟨#[]⟩ : ByteArray).data.size ≤ 40 := by decide
  have c : kind % 6 = 0 ∨ kind % 6 = 1 ∨ kind % 6 = 2 ∨ kind % 6 = 3 ∨ kind % 6 = 4 ∨ kind % 6 = 5 := by omega
  rcases c with c | c | c | c | c | c
  · have hr : rightB (kind % 6) 0 ((0 : Nat) : Int) (⟨#[]⟩ : ByteArray) = true := by rw [c]; decide +kernel
    refine ⟨0, 0, _, fun k _ => ?_, ⟨hr, RV_right h0 hr, em, hb.1, by omega, fun _ => rfl⟩⟩
    unfold federationlaw1_Make.f federationlaw1_Make_p.f
    rw [hk6, c, if_neg (by decide), Option.bind_some, if_neg (by decide), if_neg (by decide), if_neg (by decide), if_neg (by decide), if_neg (by decide)]
    rfl
  · have hw := within_eq n 2 hn (by decide) (by decide)
    have hm := emod_bd n 2 (by decide)
    have hr : rightB (kind % 6) (n % 2) ((0 : Nat) : Int) (⟨#[]⟩ : ByteArray) = true := by
      rw [c]; unfold rightB; rw [if_neg (by decide), if_pos rfl, noS_empty, decide_eq_true (by omega)]; rfl
    refine ⟨n % 2, 0, _, fun k _ => ?_, ⟨hr, RV_right ⟨by omega, by omega⟩ hr, em, hb.1, by omega, fun _ => rfl⟩⟩
    unfold federationlaw1_Make.f federationlaw1_Make_p.f
    rw [hk6, c, if_neg (by decide), Option.bind_some, if_pos rfl, hw, Option.bind_some]
    rfl
  · have hw := within_eq n 100 hn (by decide) (by decide)
    have hm := emod_bd n 100 (by decide)
    have hi := within_eq (wrap64 (Int.tdiv kind 6)) 8 hd.1 (by decide) (by decide)
    have hj := emod_bd (wrap64 (Int.tdiv kind 6)) 8 (by decide)
    generalize hz : wrap64 (Int.tdiv kind 6) % 8 = j at hi hj
    have hrd : I64 (rd [n, 0, 1, -1, 9223372036854775807, -9223372036854775808, wrap64 (n % 100 - 50), 7] j) := by
      rw [wrap64_of (by omega) (by omega)]
      exact rd8 _ _ _ _ _ _ _ _ I64 hn ⟨by decide, by decide⟩ ⟨by decide, by decide⟩ ⟨by decide, by decide⟩ ⟨by decide, by decide⟩ ⟨by decide, by decide⟩ ⟨by omega, by omega⟩ ⟨by decide, by decide⟩ j hj.1 hj.2
    have hr : rightB (kind % 6) (rd [n, 0, 1, -1, 9223372036854775807, -9223372036854775808, wrap64 (n % 100 - 50), 7] j) ((0 : Nat) : Int) (⟨#[]⟩ : ByteArray) = true := by
      rw [c]; unfold rightB; rw [if_neg (by decide), if_neg (by decide), if_pos rfl, noS_empty]; rfl
    refine ⟨_, 0, _, fun k _ => ?_, ⟨hr, RV_right hrd hr, em, hb.1, by omega, fun _ => rfl⟩⟩
    unfold federationlaw1_Make.f federationlaw1_Make_p.f
    rw [hk6, c, if_neg (by decide), Option.bind_some, if_neg (by decide), if_pos rfl, hw, Option.bind_some, Option.bind_some, hi, Option.bind_some, if_pos hj.1, if_pos (by simp; omega)]
    rfl
  · have hw := within_eq n 2000 hn (by decide) (by decide)
    have hm := emod_bd n 2000 (by decide)
    have hw2 := within_eq n 50 hn (by decide) (by decide)
    have hm2 := emod_bd n 50 (by decide)
    have hi := within_eq (wrap64 (Int.tdiv kind 6)) 6 hd.1 (by decide) (by decide)
    have hj := emod_bd (wrap64 (Int.tdiv kind 6)) 6 (by decide)
    have hi2 := within_eq (wrap64 (Int.tdiv kind 36)) 7 hd2.1 (by decide) (by decide)
    have hj2 := emod_bd (wrap64 (Int.tdiv kind 36)) 7 (by decide)
    generalize hz : wrap64 (Int.tdiv kind 6) % 6 = j at hi hj
    generalize hz2 : wrap64 (Int.tdiv kind 36) % 7 = j2 at hi2 hj2
    have ht1 := Int.tmod_lt_of_pos n (show (0 : Int) < 1000000000000000 by decide)
    have ht2 := Int.tmod_lt_of_pos (-n) (show (0 : Int) < 1000000000000000 by decide)
    rw [Int.neg_tmod] at ht2
    have hx : -1000000000000000 < rd [Int.tmod n 1000000000000000, wrap64 (n % 2000 - 1000), 999999999999999, -999999999999999, 1, wrap64 (wrap64 (n % 50 * 1000) - 20000)] j ∧ rd [Int.tmod n 1000000000000000, wrap64 (n % 2000 - 1000), 999999999999999, -999999999999999, 1, wrap64 (wrap64 (n % 50 * 1000) - 20000)] j < 1000000000000000 := by
      have e1 : wrap64 (n % 2000 - 1000) = n % 2000 - 1000 := wrap64_of (by omega) (by omega)
      have e2 : wrap64 (n % 50 * 1000) = n % 50 * 1000 := wrap64_of (by omega) (by omega)
      have e3 : wrap64 (n % 50 * 1000 - 20000) = n % 50 * 1000 - 20000 := wrap64_of (by omega) (by omega)
      rw [e1, e2, e3]
      rcases rd6 (Int.tmod n 1000000000000000) (n % 2000 - 1000) 999999999999999 (-999999999999999) 1 (n % 50 * 1000 - 20000) j hj.1 hj.2 with h | h | h | h | h | h <;> rw [h] <;> omega
    obtain ⟨t, rfl⟩ : ∃ t : Nat, j2 = (t : Int) := ⟨j2.toNat, by omega⟩
    generalize hy : rd [Int.tmod n 1000000000000000, wrap64 (n % 2000 - 1000), 999999999999999, -999999999999999, 1, wrap64 (wrap64 (n % 50 * 1000) - 20000)] j = y at hx
    have hrd := RD_red y t hx.1 hx.2 (by omega)
    have hr := right_RD hrd
    rw [← c] at hr
    refine ⟨(red y t).1, (red y t).2, _, fun k hk => ?_, ⟨hr, RV_right ⟨by have := hrd.lo; omega, by have := hrd.hi; omega⟩ hr, em, hb.1, by omega, fun e => absurd c e⟩⟩
    unfold federationlaw1_Make.f federationlaw1_Make_p.f
    rw [hk6, c, if_neg (by decide), Option.bind_some, if_neg (by decide), if_neg (by decide), if_pos rfl, hw, Option.bind_some, hw2, Option.bind_some, Option.bind_some, hi, Option.bind_some, if_pos hj.1, if_pos (by simp; omega), hi2, Option.bind_some, hy, ref_Norm_eq k t y _ (by omega) (by omega) (by omega) (by omega), Option.bind_some]
  · have hr : rightB (kind % 6) 0 ((0 : Nat) : Int) (mkText st) = true := by
      have h1 := mkText_size st
      have h2 := mkText_ok st
      rw [c]; unfold rightB; rw [if_neg (by decide), if_neg (by decide), if_neg (by decide), if_neg (by decide), if_pos rfl, h2, decide_eq_true (by omega)]; rfl
    refine ⟨0, 0, _, fun k _ => ?_, ⟨hr, RV_right h0 hr, mkText_size st, hb.1, by omega, fun _ => rfl⟩⟩
    unfold federationlaw1_Make.f
    rw [hk6, c, if_pos rfl, if_pos hs]
    rfl
  · have hz : (st.size : Int) = (st.data.size : Int) := rfl
    have hm : mn (st.size : Int) 40 = ((min 40 st.data.size : Nat) : Int) := by unfold mn; split <;> omega
    have hr : rightB (kind % 6) 0 ((0 : Nat) : Int) (st.extract 0 (min 40 st.data.size)) = true := by
      have h1 := extract_size st (min 40 st.data.size)
      rw [c]; unfold rightB; rw [if_neg (by decide), if_neg (by decide), if_neg (by decide), if_neg (by decide), if_neg (by decide), if_pos rfl, decide_eq_true (by omega)]
    refine ⟨0, 0, _, fun k _ => ?_, ⟨hr, RV_right h0 hr, by rw [extract_size]; omega, hb.1, by omega, fun _ => rfl⟩⟩
    unfold federationlaw1_Make.f federationlaw1_Make_p.f
    rw [hk6, c, if_neg (by decide), Option.bind_some, if_neg (by decide), if_neg (by decide), if_neg (by decide), if_neg (by decide), if_pos rfl, hm, if_pos (by omega), if_pos (by omega)]
    rfl
end Go.Proofs.YtdlkibeljkapeaaGreatDoor.B
namespace Go.Proofs.YtdlkibeljkapeaaGreatDoor.Den
open Go Go.RowKit
open Go.Proofs.YtdlkibeljkapeaaGreatDoor.B
theorem makeB_ev (c n : Int) (l : List UInt8) (hc : I64 c) (hn : I64 n) (hs : l.length ≤ 140737488351232) :
    ∃ N S st, Made (c % 6) N S st ∧ Ev PG f_l1_Make [.int .i64 c, .int .i64 n, .str l] (Den.vP (c % 6, N, (S : Nat), st.data.toList)) := by
  obtain ⟨N, S, st, h1, h2⟩ := Make_eq c n ⟨l.toArray⟩ hc hn (by show l.toArray.size ≤ _; simpa using hs)
  refine ⟨N, S, st, h2, Ev.ofCalls (fn_of _ (by kernel_rfl)) fun X w vs a1 a2 a3 => ?_⟩
  obtain ⟨u, v, t, rfl, r1, r2, r3⟩ := vs_three a1 a2
  rw [r1.int_inv, r2.int_inv, r3.str_inv]
  refine (federationlaw1_Make.calls 61 c n ⟨l.toArray⟩ _ _ _ _ w (h1 61 (by decide))).mono ?_
  rintro e w' ⟨he, bel⟩
  exact ⟨⟨_, he, R_val X _ _ _ _⟩, bel⟩
theorem makeDec_ev (c n : Int) (hc : I64 c) (h3 : c % 6 = 3) (hn : I64 n) : ∃ (N : Int) (k : Nat), (-1000000000000000 < N ∧ N < 1000000000000000) ∧ k ≤ 6 ∧ (k = 0 ∨ N.natAbs % 10 ≠ 0) ∧ Ev PG f_l1_Make [.int .i64 c, .int .i64 n, .str []] (Den.vP (3, N, k, [])) := by
  obtain ⟨N, S, st, hm, he⟩ := makeB_ev c n [] hc hn (by simp)
  have hr := hm.r
  rw [h3] at hr he
  unfold rightB at hr
  rw [if_neg (by decide), if_neg (by decide), if_neg (by decide), if_pos rfl] at hr
  simp only [Bool.and_eq_true, decide_eq_true_eq] at hr
  obtain ⟨⟨h1, h2, h4, h5, h6⟩, h7⟩ := hr
  have hst : st.data.toList = [] := by
    unfold noS at h7
    rw [Lib.toList_data] at h7
    exact eq_of_beq h7
  rw [hst] at he
  exact ⟨N, S, ⟨h1, h2⟩, by omega, by omega, he⟩
end Go.Proofs.YtdlkibeljkapeaaGreatDoor.Den
namespace Go.Proofs.YtdlkibeljkapeaaGreatDoor.Den
open Go Go.RowKit
def vB : List Res := [.box [nI 3, .atom 5, .atom 6, .str []]]
def naT : List (Nat × PV) := [(2, .atom 0), (3, .atom 1), (9, .box 0 0), (11, .atom 2), (10, .atom 3), (12, .atom 4)]
def naA (b : Bool) : List Fact := [.prim f_l3_within [.atom 0, nI 5] (.atom 7), oI .lss (.atom 4) (.atom 7) (.bool b)]
def naB : List Fact := [.op (.bin .add ty_string) [.str [48], .atom 3] (.atom 8), oI .add (.atom 4) (nI 1) (.atom 9)]
noncomputable abbrev naRun (fs : List Fact) : Option (Ex × St) := execN PG (fOrc noOwn fs) (callF PG (fOrc noOwn fs) 5) ((fOrc noOwn fs).loop f_l3_SqlNumbers) 5 3 (loopAt PG f_l3_SqlNumbers 9) ⟨naT, vB⟩
theorem na_lone : loneB PG f_l3_SqlNumbers 9 = true := by kernel_rfl
theorem na_a : runsB (naRun (naA false)) (.exit 0) [(3, .atom 1), (9, .box 0 0), (11, .atom 2), (10, .atom 3)] vB = true := by kernel_rfl
theorem na_b : runsB (naRun (naA true ++ naB)) .normal [(2, .atom 0), (3, .atom 1), (9, .box 0 0), (11, .atom 2), (10, .atom 8), (12, .atom 9)] vB = true := by kernel_rfl
def nbT : List (Nat × PV) := [(3, .atom 0), (9, .box 0 0), (11, .atom 2), (10, .atom 3), (13, .atom 4)]
def nbA (b : Bool) : List Fact := [.prim f_l3_within [.atom 0, nI 30] (.atom 7), oI .lss (.atom 4) (.atom 7) (.bool b)]
def nbB : List Fact := [.op (.bin .add ty_string) [.atom 3, .str [48]] (.atom 8), oI .add (.atom 4) (nI 1) (.atom 9)]
noncomputable abbrev nbRun (fs : List Fact) : Option (Ex × St) := execN PG (fOrc noOwn fs) (callF PG (fOrc noOwn fs) 5) ((fOrc noOwn fs).loop f_l3_SqlNumbers) 5 3 (loopAt PG f_l3_SqlNumbers 13) ⟨nbT, vB⟩
theorem nb_lone : loneB PG f_l3_SqlNumbers 13 = true := by kernel_rfl
theorem nb_a : runsB (nbRun (nbA false)) (.exit 2) [(9, .box 0 0), (11, .atom 2), (10, .atom 3)] vB = true := by kernel_rfl
theorem nb_b : runsB (nbRun (nbA true ++ nbB)) .normal [(3, .atom 0), (9, .box 0 0), (11, .atom 2), (10, .atom 8), (13, .atom 9)] vB = true := by kernel_rfl
def snF : List Fact := [.prim f_l3_known [] (.bool true), .prim f_l3_within [.atom 1, nI 36] (.atom 4), oI .mul (nI 6) (.atom 4) (.atom 7), oI .add (nI 3) (.atom 7) (.atom 8), .prim f_l1_Make [.atom 8, .atom 0, .str []] (.agg [nI 3, .atom 5, .atom 6, .str []]), .prim f_r3_Lit [.agg [nI 3, .atom 5, .atom 6, .str []]] (.atom 9),
  .op (.len ty_string) [.atom 9] (.atom 10), oI .gtr (.atom 10) (nI 0) (.bool true), .op (.index ty_string) [.atom 9, nI 0] (.atom 11)]
def snG : Bool → List Fact
  | true => [bI .eql (.atom 11) 45 true, .op (.slice ty_string true false) [.atom 9, nI 1] (.atom 12)]
  | false => [bI .eql (.atom 11) 45 false]
def snS (q : Bool) : PV := .str (if q then [45] else [])
def snT (q : Bool) : PV := if q then .atom 12 else .atom 9
def snL (q : Bool) : List Fact := [.loop f_l3_SqlNumbers 9 [(2, .atom 2), (3, .atom 3), (9, .box 0 0), (11, snS q), (10, snT q), (12, nI 0)] vB (.exit 0) [(3, .atom 3), (9, .box 0 0), (11, snS q), (10, .atom 13)] vB,
  .loop f_l3_SqlNumbers 13 [(3, .atom 3), (9, .box 0 0), (11, snS q), (10, .atom 13), (13, nI 0)] vB (.exit 2) [(9, .box 0 0), (11, snS q), (10, .atom 14)] vB]
def snE (q : Bool) : List Fact := [.op (.bin .add ty_string) [.str (insB ++ (if q then [45] else []) ++ [32]), .atom 14] (.atom 17), .op (.bin .add ty_string) [.atom 17, .str [41]] (.atom 18),
  .prim f_sql_Parse [.atom 18] (.tup [stmtP (nI 4) tableZ (.str [116]) (.str []) (.str []) (.slice 4 [.agg [nI 3, .atom 5, .atom 6, .str []]]) E7.zero.L E7.zero.L, nI 0, nI 0]),
  .op (.bin .eql ty_api_Value) [.agg [nI 3, .atom 5, .atom 6, .str []], .agg [nI 3, .atom 5, .atom 6, .str []]] (.bool true)]
theorem sn_k : bl (fun q => okR (.bool true) (callF PG (fOrc noOwn (snF ++ (snG q ++ (snL q ++ snE q)))) 20 f_l3_SqlNumbers [.atom 0, .atom 1, .atom 2, .atom 3] [])) = true := by kernel_rfl
def vBL (N : Int) (k : Nat) : List Res := [.box [nI 3, nI N, nI k, .str []]]
def naNu (a b : Int) (s t : List UInt8) (i : Nat) (N : Int) (k w : Nat) (t' : List UInt8) : List PV := [nI a, nI b, .str s, .str t, nI i, nI N, nI k, nI w, .str t', nI (i + 1 : Nat)]
section
variable {N : Int} {k : Nat} {a b : Int} {s : List UInt8}
theorem na_loop {A : Nat} (hA : wthn a 5 = A) (hA5 : A ≤ 100) : ∀ (d i : Nat) (t : List UInt8), i + d = A → t.length + d ≤ 1000 →
    RunsR PG (ntOf PG f_l3_SqlNumbers) (loopAt PG f_l3_SqlNumbers 9) [(2, nI a), (3, nI b), (9, .box 0 0), (11, .str s), (10, .str t), (12, nI i)] (vBL N k) (.exit 0) [(3, nI b), (9, .box 0 0), (11, .str s), (10, .str (zer d ++ t))] (vBL N k) := by
  have hw := within3_ev a 5 (by decide)
  rw [hA] at hw
  intro d
  induction d with
  | zero =>
    intro i t hi _
    refine RunsR.leave ?_ (fun h => by cases h)
    exact RunsP.chk (nu := nuL (naNu a b s t i N k A [])) prog_ok (nuL_okB rfl) (T := naT) (s := vB) (T' := [(3, .atom 1), (9, .box 0 0), (11, .atom 2), (10, .atom 3)]) (s' := vB) na_lone na_a
      ⟨fprim hw rfl rfl rfl, fCmp (a := i) (b := A) (c := false) rfl rfl rfl (by simp only [intP]; rw [decide_eq_false (by omega)]) (by decide) rfl, trivial⟩ rfl rfl rfl
  | succ d ih =>
    intro i t hi hl
    have e4 : IntKind.i64.wrap ((i : Int) + 1) = ((i + 1 : Nat) : Int) := by rw [w6_id (by omega) (by omega)]; omega
    have h := ih (i + 1) ([48] ++ t) (by omega) (by simp; omega)
    have e : zer d ++ ([48] ++ t) = zer (d + 1) ++ t := by
      unfold zer
      rw [List.replicate_succ', List.append_assoc]
    rw [e] at h
    refine RunsR.round ?_ h
    exact RunsP.chk (nu := nuL (naNu a b s t i N k A ([48] ++ t))) prog_ok (nuL_okB rfl) (T := naT) (s := vB) (T' := [(2, .atom 0), (3, .atom 1), (9, .box 0 0), (11, .atom 2), (10, .atom 8), (12, .atom 9)]) (s' := vB) na_lone na_b
      ⟨fprim hw rfl rfl rfl, fCmp (a := i) (b := A) (c := true) rfl rfl rfl (by simp only [intP]; rw [decide_eq_true (by omega)]) (by decide) rfl, fStrAdd (l := [48]) (m := t) rfl rfl (by simp; omega) rfl rfl, fInt (a := i) (b := 1) rfl rfl rfl (by simp only [intP]; rw [e4]) (by decide) rfl, trivial⟩ rfl rfl rfl
theorem nb_loop {A : Nat} (hA : wthn b 30 = A) (hA5 : A ≤ 100) : ∀ (d i : Nat) (t : List UInt8), i + d = A → t.length + d ≤ 1000 →
    RunsR PG (ntOf PG f_l3_SqlNumbers) (loopAt PG f_l3_SqlNumbers 13) [(3, nI b), (9, .box 0 0), (11, .str s), (10, .str t), (13, nI i)] (vBL N k) (.exit 2) [(9, .box 0 0), (11, .str s), (10, .str (t ++ zer d))] (vBL N k) := by
  have hw := within3_ev b 30 (by decide)
  rw [hA] at hw
  intro d
  induction d with
  | zero =>
    intro i t hi _
    have e : t ++ zer 0 = t := List.append_nil t
    rw [e]
    refine RunsR.leave ?_ (fun h => by cases h)
    exact RunsP.chk (nu := nuL (naNu b b s t i N k A [])) prog_ok (nuL_okB rfl) (T := nbT) (s := vB) (T' := [(9, .box 0 0), (11, .atom 2), (10, .atom 3)]) (s' := vB) nb_lone nb_a
      ⟨fprim hw rfl rfl rfl, fCmp (a := i) (b := A) (c := false) rfl rfl rfl (by simp only [intP]; rw [decide_eq_false (by omega)]) (by decide) rfl, trivial⟩ rfl rfl rfl
  | succ d ih =>
    intro i t hi hl
    have e4 : IntKind.i64.wrap ((i : Int) + 1) = ((i + 1 : Nat) : Int) := by rw [w6_id (by omega) (by omega)]; omega
    have h := ih (i + 1) (t ++ [48]) (by omega) (by simp; omega)
    have e : (t ++ [48]) ++ zer d = t ++ zer (d + 1) := by
      unfold zer
      rw [List.append_assoc, List.replicate_succ]; rfl
    rw [e] at h
    refine RunsR.round ?_ h
    exact RunsP.chk (nu := nuL (naNu b b s t i N k A (t ++ [48]))) prog_ok (nuL_okB rfl) (T := nbT) (s := vB) (T' := [(3, .atom 0), (9, .box 0 0), (11, .atom 2), (10, .atom 8), (13, .atom 9)]) (s' := vB) nb_lone nb_b
      ⟨fprim hw rfl rfl rfl, fCmp (a := i) (b := A) (c := true) rfl rfl rfl (by simp only [intP]; rw [decide_eq_true (by omega)]) (by decide) rfl, fStrAdd (l := t) (m := [48]) rfl rfl (by simp; omega) rfl rfl, fInt (a := i) (b := 1) rfl rfl rfl (by simp only [intP]; rw [e4]) (by decide) rfl, trivial⟩ rfl rfl rfl
end
open Go.Proofs.YtdlkibeljkapeaaGreatDoor.B in
theorem numbers_ev (n sc a b : Int) (hn : (Lit.int .i64 n).wf = true) : Ev PG f_l3_SqlNumbers [nI n, nI sc, nI a, nI b] (.bool true) := by
  have hn64 : I64 n := by
    simp only [Lit.wf] at hn
    have e1 : IntKind.i64.min = -9223372036854775808 := rfl
    have e2 : IntKind.i64.max = 9223372036854775807 := rfl
    simp only [e1, e2, Bool.and_eq_true, decide_eq_true_eq] at hn
    unfold I64
    omega
  obtain ⟨A, hA, hA5⟩ := wthn_nat a 5 (by decide) (by decide)
  obtain ⟨B, hB, hB30⟩ := wthn_nat b 30 (by decide) (by decide)
  obtain ⟨S, hS, hS36⟩ := wthn_nat sc 36 (by decide) (by decide)
  have hsw := within3_ev sc 36 (by decide)
  rw [show wthn sc 36 = S from hS] at hsw
  obtain ⟨N, k, hN, hk, hm, hmk⟩ := makeDec_ev (3 + 6 * (S : Int)) n (by unfold I64; omega) (by omega) hn64
  have hlit := rlit_dec hN hk
  have hp := sn_parse (a := A) (b := B) (by omega) (by omega) hN hk hm
  have hN' : -9223372036854775808 ≤ N ∧ N ≤ 9223372036854775807 := by omega
  obtain ⟨hd1, _⟩ := wh_digit hN' hk
  obtain ⟨hl1, hl⟩ := dgN_len hN' hk
  have hptl : (ptT N k).length ≤ 100 := by
    unfold ptT
    split
    · simp
    · rw [ptN_len hN' hk]; omega
  have hwl : 1 ≤ (whN N k).length ∧ (whN N k).length ≤ 100 := by unfold whN; rw [List.length_take]; omega
  have e6 : IntKind.i64.wrap (6 * (S : Int)) = 6 * (S : Int) := w6_id (by omega) (by omega)
  have e7 : IntKind.i64.wrap (3 + 6 * (S : Int)) = 3 + 6 * (S : Int) := w6_id (by omega) (by omega)
  have hbody : ∀ q : Bool, (if q then [45] else []) = sgnL N → (insB ++ (if q then [45] else []) ++ [32] ++ (zer A ++ (whN N k ++ 46 :: ptT N k) ++ zer B)) ++ [41] = snText A B N k := fun q hq => by
    rw [hq]
    unfold snText decW
    simp
  have hfin : ∀ q : Bool, (if q then [45] else []) = sgnL N → ∀ (lit : List UInt8) (c : UInt8), lit = (if q then [45] else []) ++ (whN N k ++ 46 :: ptT N k) → lit[0]? = some c → (c == 45) = q → Ev PG f_r3_Lit [vP (3, N, k, [])] (.str lit) →
      Ev PG f_l3_SqlNumbers [nI n, nI sc, nI a, nI b] (.bool true) := fun q hq lit c hlit hc hc45 hev => by
    have hll : lit.length = (if q then [45] else [] : List UInt8).length + ((whN N k).length + ((ptT N k).length + 1)) := by rw [hlit]; simp
    have hq1 : (if q then [45] else [] : List UInt8).length ≤ 1 := by cases q <;> simp
    have hbl : (whN N k ++ 46 :: ptT N k).length ≤ 201 := by simp; omega
    have hp' := hp
    rw [← hbody q hq] at hp'
    have hna := na_loop (N := N) (k := k) (a := a) (b := b) (s := if q then [45] else []) hA (by omega) A 0 (whN N k ++ 46 :: ptT N k) (by omega) (by omega)
    have hzl : (zer A).length = A := by simp [zer]
    have hzb : (zer B).length = B := by simp [zer]
    have hnb := nb_loop (N := N) (k := k) (b := b) (s := if q then [45] else []) hB (by omega) B 0 (zer A ++ (whN N k ++ 46 :: ptT N k)) (by omega) (by rw [List.length_append]; omega)
    have hbl2 : (zer A ++ (whN N k ++ 46 :: ptT N k) ++ zer B).length ≤ 400 := by rw [List.length_append, List.length_append]; omega
    have hib : insB.length = 22 := rfl
    let nus : List PV := [nI n, nI sc, nI a, nI b, nI S, nI N, nI k, nI (6 * (S : Int)), nI (3 + 6 * (S : Int)), .str lit, nI lit.length, nB c, .str (whN N k ++ 46 :: ptT N k), .str (zer A ++ (whN N k ++ 46 :: ptT N k)), .str (zer A ++ (whN N k ++ 46 :: ptT N k) ++ zer B), nI 0, nI 0,
      .str (insB ++ (if q then [45] else []) ++ [32] ++ (zer A ++ (whN N k ++ 46 :: ptT N k) ++ zer B)), .str ((insB ++ (if q then [45] else []) ++ [32] ++ (zer A ++ (whN N k ++ 46 :: ptT N k) ++ zer B)) ++ [41])]
    have hF : FactsOk PG (nuL nus) snF := ⟨fprim known_ev rfl rfl rfl, fprim hsw rfl rfl rfl, fInt (a := 6) (b := S) rfl rfl rfl (by simp only [intP]; rw [e6]) (by decide) rfl, fInt (a := 3) (b := 6 * (S : Int)) rfl rfl rfl (by simp only [intP]; rw [e7]) (by decide) rfl,
      fprim hmk rfl rfl rfl, fprim hev rfl rfl rfl, fStrLen rfl rfl rfl, fCmp (a := lit.length) (b := 0) (c := true) rfl rfl rfl (by simp only [intP]; rw [decide_eq_true (by omega)]) (by decide) rfl, fStrIx (n := 0) rfl rfl hc rfl rfl, trivial⟩
    have hG : FactsOk PG (nuL nus) (snG q) := by
      cases q with
      | true => exact ⟨fU8 (a := (c.toNat : Nat)) (b := (45 : Nat)) rfl rfl (u8eq (c := c) (n := 45) (b := true) (by decide) hc45) rfl (by decide) rfl, fSliceTo (i := 1) rfl rfl (by omega) (by rw [hlit]; rfl) rfl rfl, trivial⟩
      | false => exact ⟨fU8 (a := (c.toNat : Nat)) (b := (45 : Nat)) rfl rfl (u8eq (c := c) (n := 45) (b := false) (by decide) hc45) rfl (by decide) rfl, trivial⟩
    have hL : FactsOk PG (nuL nus) (snL q) := by
      cases q with
      | true => exact ⟨fLoopOk na_lone (Nat.le_refl _) hna rfl, fLoopOk nb_lone (Nat.le_refl _) hnb rfl, trivial⟩
      | false =>
        have hlit' : lit = whN N k ++ 46 :: ptT N k := hlit
        subst hlit'
        exact ⟨fLoopOk na_lone (Nat.le_refl _) hna rfl, fLoopOk nb_lone (Nat.le_refl _) hnb rfl, trivial⟩
    have hE : FactsOk PG (nuL nus) (snE q) := ⟨fStrAdd (l := insB ++ (if q then [45] else []) ++ [32]) (m := zer A ++ (whN N k ++ 46 :: ptT N k) ++ zer B) rfl rfl (by rw [List.length_append, List.length_append, hib]; simp only [List.length_cons, List.length_nil]; omega) rfl rfl,
      fStrAdd (m := [41]) rfl rfl (by rw [List.length_append, List.length_append, List.length_append, hib]; simp only [List.length_cons, List.length_nil]; omega) rfl rfl, fprim hp' rfl rfl rfl, ⟨eqV_self (3, N, k, []), rfl⟩, trivial⟩
    exact Ev.facts (nu := nuL nus) (args := [.atom 0, .atom 1, .atom 2, .atom 3]) prog_ok (nuL_okB rfl) (okR_eq (bl_all sn_k q)) (FactsOk.append hF (FactsOk.append hG (FactsOk.append hL hE))) rfl rfl
  by_cases h0 : N ≥ 0
  · have hs : sgnL N = [] := if_pos h0
    rw [hs] at hlit
    obtain ⟨c, w, hw⟩ : ∃ c w, whN N k = c :: w := by
      cases hw : whN N k with
      | nil => rw [hw] at hwl; simp at hwl
      | cons c w => exact ⟨c, w, rfl⟩
    have hcd : isDigit c = true := by
      rw [hw, List.all_cons, Bool.and_eq_true] at hd1
      exact hd1.1
    refine hfin false hs.symm (whN N k ++ 46 :: ptT N k) c rfl (by rw [hw]; rfl) (beq_eq_false_iff_ne.2 fun e => by subst e; cases hcd) hlit
  · have hs : sgnL N = [45] := if_neg h0
    rw [hs] at hlit
    exact hfin true hs.symm ([45] ++ (whN N k ++ 46 :: ptT N k)) 45 rfl rfl rfl hlit
end Go.Proofs.YtdlkibeljkapeaaGreatDoor.Den
