-- Written by drive.py and pack.py (programs of this proof's own) through the kit's printer; not trusted: Lean checks it.
import Derived.Test.YtjacflmgbmfhcaaCKeyOrder1
import Derived.Test.YtjacflmgbmfhcaaCKeyOrder3
import Derived.Test.YtjacflmgbmfhcaaCKeyOrder4
import Derived.Test.YtjacflmgbmfhcaaCKeyOrder10
import Derived.Test.YtjacflmgbmfhcaaCKeyOrder9
import Derived.Test.YtjacflmgbmfhcaaCKeyOrder8
import Derived.Test.YtjacflmgbmfhcaaCKeyOrder7
import Derived.Lib.Strings
import Derived.Test.YtjacflmgbmfhcaaCKeyOrder2
import Derived.Test.YtjacflmgbmfhcaaCKeyOrder6
namespace Go.Proofs.Ytjacflmgbmfhcaa.K
open Go.RowKit Go.Proofs.YtjacflmgbmfhcaaW.PrintWords Go.Proofs.YtjacflmgbmfhcaaW.PrintLast Go.Proofs.YtjacflmgbmfhcaaW.PrintMore
attribute [local go_sem] max2_int min2_int max_two min_two max_three min_three max_four min_four
attribute [local go_sem high] own_gtr own_leq own_geq own_cell_set Option.map_some fld24_3
set_option linter.unusedVariables false
set_option linter.unusedSimpArgs false
def I64 (x : Int) : Prop := -9223372036854775808 ≤ x ∧ x ≤ 9223372036854775807
end Go.Proofs.Ytjacflmgbmfhcaa.K
namespace Go.Proofs.Ytjacflmgbmfhcaa.K
open Go.RowKit Go.Proofs.YtjacflmgbmfhcaaW.PrintWords Go.Proofs.YtjacflmgbmfhcaaW.PrintLast Go.Proofs.YtjacflmgbmfhcaaW.PrintMore
attribute [local go_sem] max2_int min2_int max_two min_two max_three min_three max_four min_four
attribute [local go_sem high] own_gtr own_leq own_geq own_cell_set Option.map_some fld24_3
set_option linter.unusedVariables false
set_option linter.unusedSimpArgs false
structure RD (n : Int) (s : Nat) : Prop where
  lo : -1000000000000000 < n
  hi : n < 1000000000000000
  sc : s ≤ 6
  nm : s = 0 ∨ n % 10 ≠ 0
theorem ediv_small {n p : Int} (hp : 0 < p) (h0 : -1000000000000000 < n) (h1 : n < 1000000000000000) : -1000000000000000 ≤ n / p ∧ n / p ≤ 1000000000000000 := by
  have e := Int.mul_ediv_add_emod n p
  have e1 := Int.emod_lt_of_pos n hp
  have e2 := Int.emod_nonneg n (show p ≠ 0 by omega)
  have e3 := Int.natAbs_ediv_le_natAbs n p
  omega
structure RV (kd n : Int) (s : Nat) : Prop where
  i : I64 n
  d : kd = 3 → RD n s
end Go.Proofs.Ytjacflmgbmfhcaa.K
namespace Go.Proofs.Ytjacflmgbmfhcaa.K
open Go.RowKit Go.Proofs.YtjacflmgbmfhcaaW.PrintWords Go.Proofs.YtjacflmgbmfhcaaW.PrintLast Go.Proofs.YtjacflmgbmfhcaaW.PrintMore
attribute [local go_sem] max2_int min2_int max_two min_two max_three min_three max_four min_four
attribute [local go_sem high] own_gtr own_leq own_geq own_cell_set Option.map_some fld24_3
set_option linter.unusedVariables false
set_option linter.unusedSimpArgs false
theorem within_eq (a n : Int) (ha : I64 a) (h0 : 0 < n) (h1 : n ≤ 4611686018427387904) : federationlaw1_within.f a n = some (a % n) := by
  unfold federationlaw1_within.f I64 at *
  rw [if_neg (by omega)]
  have e1 := Int.mul_tdiv_add_tmod a n
  have e2 := Int.mul_ediv_add_emod a n
  have e3 := Int.emod_lt_of_pos a h0
  have e4 := Int.emod_nonneg a (show n ≠ 0 by omega)
  have e5 := Int.tmod_lt_of_pos a h0
  have e6 := Int.tmod_lt_of_pos (-a) h0
  rw [Int.neg_tmod] at e6
  by_cases c : a.tmod n < 0
  · rw [if_pos c, wrap64_of (by omega) (by omega)]
    have := ((Int.ediv_emod_unique (a := a) (r := a.tmod n + n) (q := a.tdiv n - 1) h0).2 ⟨by rw [Int.mul_sub, Int.mul_one]; omega, by omega, by omega⟩).2
    rw [this]
  · rw [if_neg c]
    have := ((Int.ediv_emod_unique (a := a) (r := a.tmod n) (q := a.tdiv n) h0).2 ⟨by omega, by omega, by omega⟩).2
    rw [this]
theorem emod_bd (a n : Int) (h0 : 0 < n) : 0 ≤ a % n ∧ a % n < n := ⟨Int.emod_nonneg a (by omega), Int.emod_lt_of_pos a h0⟩
theorem RV_right {kd n : Int} {s : Nat} {st : ByteArray} (hn : I64 n) (h : rightB kd n (s : Int) st = true) : RV kd n s := by
  refine ⟨hn, fun e => ?_⟩
  subst e
  unfold rightB at h
  rw [if_neg (by decide), if_neg (by decide), if_neg (by decide), if_pos rfl, Bool.and_eq_true, decide_eq_true_eq] at h
  obtain ⟨⟨a, b, c, d, e⟩, _⟩ := h
  exact ⟨a, b, by omega, by omega⟩
theorem noS_empty : noS (⟨#[]⟩ : ByteArray) = true := by decide +kernel
theorem right_RD {n : Int} {s : Nat} (h : RD n s) : rightB 3 n (s : Int) (⟨#[]⟩ : ByteArray) = true := by
  unfold rightB
  rw [if_neg (by decide), if_neg (by decide), if_neg (by decide), if_pos rfl, noS_empty, Bool.and_true, decide_eq_true_eq]
  exact ⟨h.lo, h.hi, by omega, by have := h.sc; omega, by have := h.nm; omega⟩
theorem RD_red (n : Int) (s : Nat) (h0 : -1000000000000000 < n) (h1 : n < 1000000000000000) (hs : s ≤ 6) : RD (red n s).1 (red n s).2 := by
  have a := red_abs s n
  have b := red_scale s n
  have c := red_done s n
  exact ⟨by omega, by omega, by omega, c⟩
theorem mkText_size (st : ByteArray) : (mkText st).data.size ≤ 40 := by
  unfold mkText strOfNums
  simp [conv8L_length]
  omega
theorem mkText_ok (st : ByteArray) : okB (mkText st) = true := by
  unfold okB mkText strOfNums
  simp only [List.all_eq_true, decide_eq_true_eq, List.map_toArray, List.mem_map, conv8L]
  rintro b ⟨x, hx, rfl⟩
  obtain ⟨c, _, rfl⟩ := List.mem_map.1 (List.mem_of_mem_take hx)
  unfold conv8
  have h1 := emod_bd (c.toNat : Int) 95 (by decide)
  generalize (c.toNat : Int) % 95 = z at *
  have : ((32 + z).toNat % 256) = (32 + z).toNat := Nat.mod_eq_of_lt (by omega)
  simp only [UInt8.toNat_ofNat']
  omega
theorem extract_size (st : ByteArray) (j : Nat) : (st.extract 0 j).data.size = min j st.data.size := by
  rw [← Array.length_toList, Lib.extract_data]
  simp
structure Made (kd n : Int) (s : Nat) (st : ByteArray) : Prop where
  r : rightB kd n (s : Int) st = true
  v : RV kd n s
  sz : st.data.size ≤ 40
  k0 : 0 ≤ kd
  k5 : kd ≤ 5
  z : kd ≠ 3 → s = 0
theorem rd6 (a b c d e f : Int) (i : Int) (h0 : 0 ≤ i) (h1 : i < 6) : rd [a, b, c, d, e, f] i = a ∨ rd [a, b, c, d, e, f] i = b ∨ rd [a, b, c, d, e, f] i = c ∨ rd [a, b, c, d, e, f] i = d ∨ rd [a, b, c, d, e, f] i = e ∨ rd [a, b, c, d, e, f] i = f := by
  have : i = 0 ∨ i = 1 ∨ i = 2 ∨ i = 3 ∨ i = 4 ∨ i = 5 := by omega
  rcases this with rfl | rfl | rfl | rfl | rfl | rfl
  · exact Or.inl rfl
  · exact Or.inr (Or.inl rfl)
  · exact Or.inr (Or.inr (Or.inl rfl))
  · exact Or.inr (Or.inr (Or.inr (Or.inl rfl)))
  · exact Or.inr (Or.inr (Or.inr (Or.inr (Or.inl rfl))))
  · exact Or.inr (Or.inr (Or.inr (Or.inr (Or.inr rfl))))
theorem rd8 (a b c d e f g h : Int) (P : Int → Prop) (pa : P a) (pb : P b) (pc : P c) (pd : P d) (pe : P e) (pf : P f) (pg : P g) (ph : P h) (i : Int) (h0 : 0 ≤ i) (h1 : i < 8) : P (rd [a, b, c, d, e, f, g, h] i) := by
  have : i = 0 ∨ i = 1 ∨ i = 2 ∨ i = 3 ∨ i = 4 ∨ i = 5 ∨ i = 6 ∨ i = 7 := by omega
  rcases this with rfl | rfl | rfl | rfl | rfl | rfl | rfl | rfl
  · exact pa
  · exact pb
  · exact pc
  · exact pd
  · exact pe
  · exact pf
  · exact pg
  · exact ph
theorem I64_tdiv (a b : Int) (ha : I64 a) (hb : 2 ≤ b) : I64 (wrap64 (a.tdiv b)) ∧ wrap64 (a.tdiv b) = a.tdiv b := by
  have h := Int.natAbs_tdiv_le_natAbs a b
  have h2 : (a.tdiv b).natAbs ≤ 4611686018427387904 := by
    rw [Int.natAbs_tdiv]
    have h1 : a.natAbs ≤ 9223372036854775808 := by unfold I64 at ha; omega
    exact Nat.le_trans (Nat.div_le_div_left (show 2 ≤ b.natAbs by omega) (by decide)) (by have := Nat.div_le_div_right (c := 2) h1; simpa using this)
  have e : wrap64 (a.tdiv b) = a.tdiv b := wrap64_of (by omega) (by omega)
  rw [e]
  exact ⟨⟨by omega, by omega⟩, rfl⟩
theorem Make_eq (kind n : Int) (st : ByteArray) (hk : I64 kind) (hn : I64 n) (hs : st.size ≤ 140737488351232) :
    ∃ n' s' st', (∀ k, 60 < k → federationlaw1_Make.f k kind n st = some (kind % 6, n', ((s' : Nat) : Int), st')) ∧ Made (kind % 6) n' s' st' := by
  have hk6 := within_eq kind 6 hk (by decide) (by decide)
  have hb := emod_bd kind 6 (by decide)
  have hd := I64_tdiv kind 6 hk (by decide)
  have hd2 := I64_tdiv kind 36 hk (by decide)
  have h0 : I64 0 := ⟨by decide, by decide⟩
  have em : (⟨#[]⟩ : ByteArray).data.size ≤ 40 := by decide
  have c : kind % 6 = 0 ∨ kind % 6 = 1 ∨ kind % 6 = 2 ∨ kind % 6 = 3 ∨ kind % 6 = 4 ∨ kind % 6 = 5 := by omega
  rcases c with c | c | c | c | c | c
  · have hr : rightB (kind % 6) 0 ((0 : Nat) : Int) (⟨#[]⟩ : ByteArray) = true := by rw [c]; decide +kernel
    refine ⟨0, 0, _, fun k _ => ?_, ⟨hr, RV_right h0 hr, em, hb.1, by omega, fun _ => rfl⟩⟩
    unfold federationlaw1_Make.f federationlaw1_Make_p.f
    rw [hk6, c, if_neg (by decide), Option.bind_some, if_neg (by decide), if_neg (by decide), if_neg (by decide), if_neg (by decide), if_neg (by decide)]
    rfl
  · have hw := within_eq n 2 hn (by decide) (by decide)
    have hm := emod_bd n 2 (by decide)
    have hr : rightB (kind % 6) (n % 2) ((0 : Nat) : Int) (⟨#[]⟩ : ByteArray) = true := by
      rw [c]; unfold rightB; rw [if_neg (by decide), if_pos rfl, noS_empty, decide_eq_true (by omega)]; rfl
    refine ⟨n % 2, 0, _, fun k _ => ?_, ⟨hr, RV_right ⟨by omega, by omega⟩ hr, em, hb.1, by omega, fun _ => rfl⟩⟩
    unfold federationlaw1_Make.f federationlaw1_Make_p.f
    rw [hk6, c, if_neg (by decide), Option.bind_some, if_pos rfl, hw, Option.bind_some]
    rfl
  · have hw := within_eq n 100 hn (by decide) (by decide)
    have hm := emod_bd n 100 (by decide)
    have hi := within_eq (wrap64 (Int.tdiv kind 6)) 8 hd.1 (by decide) (by decide)
    have hj := emod_bd (wrap64 (Int.tdiv kind 6)) 8 (by decide)
    generalize hz : wrap64 (Int.tdiv kind 6) % 8 = j at hi hj
    have hrd : I64 (rd [n, 0, 1, -1, 9223372036854775807, -9223372036854775808, wrap64 (n % 100 - 50), 7] j) := by
      rw [wrap64_of (by omega) (by omega)]
      exact rd8 _ _ _ _ _ _ _ _ I64 hn ⟨by decide, by decide⟩ ⟨by decide, by decide⟩ ⟨by decide, by decide⟩ ⟨by decide, by decide⟩ ⟨by decide, by decide⟩ ⟨by omega, by omega⟩ ⟨by decide, by decide⟩ j hj.1 hj.2
    have hr : rightB (kind % 6) (rd [n, 0, 1, -1, 9223372036854775807, -9223372036854775808, wrap64 (n % 100 - 50), 7] j) ((0 : Nat) : Int) (⟨#[]⟩ : ByteArray) = true := by
      rw [c]; unfold rightB; rw [if_neg (by decide), if_neg (by decide), if_pos rfl, noS_empty]; rfl
    refine ⟨_, 0, _, fun k _ => ?_, ⟨hr, RV_right hrd hr, em, hb.1, by omega, fun _ => rfl⟩⟩
    unfold federationlaw1_Make.f federationlaw1_Make_p.f
    rw [hk6, c, if_neg (by decide), Option.bind_some, if_neg (by decide), if_pos rfl, hw, Option.bind_some, Option.bind_some, hi, Option.bind_some, if_pos hj.1, if_pos (by simp; omega)]
    rfl
  · have hw := within_eq n 2000 hn (by decide) (by decide)
    have hm := emod_bd n 2000 (by decide)
    have hw2 := within_eq n 50 hn (by decide) (by decide)
    have hm2 := emod_bd n 50 (by decide)
    have hi := within_eq (wrap64 (Int.tdiv kind 6)) 6 hd.1 (by decide) (by decide)
    have hj := emod_bd (wrap64 (Int.tdiv kind 6)) 6 (by decide)
    have hi2 := within_eq (wrap64 (Int.tdiv kind 36)) 7 hd2.1 (by decide) (by decide)
    have hj2 := emod_bd (wrap64 (Int.tdiv kind 36)) 7 (by decide)
    generalize hz : wrap64 (Int.tdiv kind 6) % 6 = j at hi hj
    generalize hz2 : wrap64 (Int.tdiv kind 36) % 7 = j2 at hi2 hj2
    have ht1 := Int.tmod_lt_of_pos n (show (0 : Int) < 1000000000000000 by decide)
    have ht2 := Int.tmod_lt_of_pos (-n) (show (0 : Int) < 1000000000000000 by decide)
    rw [Int.neg_tmod] at ht2
    have hx : -1000000000000000 < rd [Int.tmod n 1000000000000000, wrap64 (n % 2000 - 1000), 999999999999999, -999999999999999, 1, wrap64 (wrap64 (n % 50 * 1000) - 20000)] j ∧ rd [Int.tmod n 1000000000000000, wrap64 (n % 2000 - 1000), 999999999999999, -999999999999999, 1, wrap64 (wrap64 (n % 50 * 1000) - 20000)] j < 1000000000000000 := by
      have e1 : wrap64 (n % 2000 - 1000) = n % 2000 - 1000 := wrap64_of (by omega) (by omega)
      have e2 : wrap64 (n % 50 * 1000) = n % 50 * 1000 := wrap64_of (by omega) (by omega)
      have e3 : wrap64 (n % 50 * 1000 - 20000) = n % 50 * 1000 - 20000 := wrap64_of (by omega) (by omega)
      rw [e1, e2, e3]
      rcases rd6 (Int.tmod n 1000000000000000) (n % 2000 - 1000) 999999999999999 (-999999999999999) 1 (n % 50 * 1000 - 20000) j hj.1 hj.2 with h | h | h | h | h | h <;> rw [h] <;> omega
    obtain ⟨t, rfl⟩ : ∃ t : Nat, j2 = (t : Int) := ⟨j2.toNat, by omega⟩
    generalize hy : rd [Int.tmod n 1000000000000000, wrap64 (n % 2000 - 1000), 999999999999999, -999999999999999, 1, wrap64 (wrap64 (n % 50 * 1000) - 20000)] j = y at hx
    have hrd := RD_red y t hx.1 hx.2 (by omega)
    have hr := right_RD hrd
    rw [← c] at hr
    refine ⟨(red y t).1, (red y t).2, _, fun k hk => ?_, ⟨hr, RV_right ⟨by have := hrd.lo; omega, by have := hrd.hi; omega⟩ hr, em, hb.1, by omega, fun e => absurd c e⟩⟩
    unfold federationlaw1_Make.f federationlaw1_Make_p.f
    rw [hk6, c, if_neg (by decide), Option.bind_some, if_neg (by decide), if_neg (by decide), if_pos rfl, hw, Option.bind_some, hw2, Option.bind_some, Option.bind_some, hi, Option.bind_some, if_pos hj.1, if_pos (by simp; omega), hi2, Option.bind_some, hy, ref_Norm_eq k t y _ (by omega) (by omega) (by omega) (by omega), Option.bind_some]
  · have hr : rightB (kind % 6) 0 ((0 : Nat) : Int) (mkText st) = true := by
      have h1 := mkText_size st
      have h2 := mkText_ok st
      rw [c]; unfold rightB; rw [if_neg (by decide), if_neg (by decide), if_neg (by decide), if_neg (by decide), if_pos rfl, h2, decide_eq_true (by omega)]; rfl
    refine ⟨0, 0, _, fun k _ => ?_, ⟨hr, RV_right h0 hr, mkText_size st, hb.1, by omega, fun _ => rfl⟩⟩
    unfold federationlaw1_Make.f
    rw [hk6, c, if_pos rfl, if_pos hs]
    rfl
  · have hz : (st.size : Int) = (st.data.size : Int) := rfl
    have hm : mn (st.size : Int) 40 = ((min 40 st.data.size : Nat) : Int) := by unfold mn; split <;> omega
    have hr : rightB (kind % 6) 0 ((0 : Nat) : Int) (st.extract 0 (min 40 st.data.size)) = true := by
      have h1 := extract_size st (min 40 st.data.size)
      rw [c]; unfold rightB; rw [if_neg (by decide), if_neg (by decide), if_neg (by decide), if_neg (by decide), if_neg (by decide), if_pos rfl, decide_eq_true (by omega)]
    refine ⟨0, 0, _, fun k _ => ?_, ⟨hr, RV_right h0 hr, by rw [extract_size]; omega, hb.1, by omega, fun _ => rfl⟩⟩
    unfold federationlaw1_Make.f federationlaw1_Make_p.f
    rw [hk6, c, if_neg (by decide), Option.bind_some, if_neg (by decide), if_neg (by decide), if_neg (by decide), if_neg (by decide), if_pos rfl, hm, if_pos (by omega), if_pos (by omega)]
    rfl
end Go.Proofs.Ytjacflmgbmfhcaa.K
namespace Go.Proofs.Ytjacflmgbmfhcaa.K
open Go.RowKit Go.Proofs.YtjacflmgbmfhcaaW.PrintWords Go.Proofs.YtjacflmgbmfhcaaW.PrintLast Go.Proofs.YtjacflmgbmfhcaaW.PrintMore
attribute [local go_sem] max2_int min2_int max_two min_two max_three min_three max_four min_four
attribute [local go_sem high] own_gtr own_leq own_geq own_cell_set Option.map_some fld24_3
set_option linter.unusedVariables false
set_option linter.unusedSimpArgs false
def escL (xs : List Int) : List Int := xs.flatMap escOne ++ [0, 1]
theorem escAll_eq (s : ByteArray) : escAll s = escL (byteL s) := rfl
theorem escL_nil : escL [] = [0, 1] := rfl
theorem escL_cons (x : Int) (xs : List Int) : escL (x :: xs) = escOne x ++ escL xs := by simp [escL]
theorem escOne_isB {x : Int} (h : 0 ≤ x ∧ x < 256) : isB (escOne x) := by
  unfold escOne
  split
  · exact isB_cons (by omega) (isB_cons (by omega) isB_nil)
  · exact isB_cons h isB_nil
theorem escL_isB : ∀ {xs : List Int}, isB xs → isB (escL xs)
  | [], _ => isB_cons (by omega) (isB_cons (by omega) isB_nil)
  | x :: xs, h => by rw [escL_cons]; exact isB_append (escOne_isB (isB_head h)) (escL_isB (isB_tail h))
theorem escL_len : ∀ xs : List Int, 2 ≤ (escL xs).length ∧ (escL xs).length ≤ 2 * xs.length + 2
  | [] => by simp [escL_nil]
  | x :: xs => by
    have := escL_len xs
    have h := escOne_len x
    rw [escL_cons, List.length_append, List.length_cons]
    omega
theorem esc_less (u v : List Int) : ∀ xs ys : List Int, isB xs → isB ys → xs ≠ ys → lessL (escL xs ++ u) (escL ys ++ v) = lessL xs ys
  | [], [], _, _, h => absurd rfl h
  | [], y :: ys, _, hy, _ => by
    have := isB_head hy
    rw [escL_nil, escL_cons]
    unfold escOne
    split
    · simp [lessL]
    · have : 0 < y := by omega
      simp [lessL, this]
  | x :: xs, [], hx, _, _ => by
    have := isB_head hx
    rw [escL_nil, escL_cons]
    unfold escOne
    split
    · simp [lessL]
    · rename_i h
      have h2 : ¬ x < 0 := by omega
      simp [lessL, h, h2]
  | x :: xs, y :: ys, hx, hy, h => by
    have h1 := isB_head hx
    have h2 := isB_head hy
    rw [escL_cons, escL_cons, List.append_assoc, List.append_assoc]
    by_cases e : x = y
    · subst e
      rw [lessL_same, esc_less u v xs ys (isB_tail hx) (isB_tail hy) (fun h' => h (by rw [h']))]
      simp [lessL]
    · have e2 : (x == y) = false := by simpa using e
      unfold escOne
      by_cases a : x = 0
      · subst a
        rw [if_pos rfl, if_neg (fun h' => e h'.symm)]
        have : 0 < y := by omega
        simp [lessL, this]
      · rw [if_neg a]
        by_cases b : y = 0
        · subst b
          rw [if_pos rfl]
          simp [lessL, e2]
        · rw [if_neg b]
          simp [lessL, e2]
def txt : List Int → Option (List Int × Nat)
  | [] => none
  | [_] => none
  | x :: y :: m => if x = 0 then (if y = 255 then (txt m).map (fun p => (0 :: p.1, p.2 + 2)) else if y = 1 then some ([], 2) else none) else (txt (y :: m)).map (fun p => (x :: p.1, p.2 + 1))
theorem txt_cons {x : Int} (h : x ≠ 0) (l : List Int) : txt (x :: l) = (txt l).map (fun p => (x :: p.1, p.2 + 1)) := by
  cases l with
  | nil => rfl
  | cons y m => rw [txt, if_neg h]
theorem txt_esc (more : List Int) : ∀ xs : List Int, txt (escL xs ++ more) = some (xs, (escL xs).length)
  | [] => by
    rw [escL_nil, List.cons_append, List.cons_append, txt, if_pos rfl, if_neg (by decide), if_pos rfl]; rfl
  | x :: xs => by
    have ih := txt_esc more xs
    rw [escL_cons, List.append_assoc]
    unfold escOne
    by_cases h : x = 0
    · subst h
      rw [if_pos rfl, List.cons_append, List.cons_append, List.nil_append, txt, if_pos rfl, if_pos rfl, ih]
      simp
    · rw [if_neg h, List.cons_append, List.nil_append, txt_cons h, ih]
      simp
def txtRes (acc : List Int) (i : Nat) : Option (List Int × Nat) → ByteArray × Int × Bool
  | none => ((⟨#[]⟩ : ByteArray), 0, false)
  | some p => (strOfNums (acc ++ p.1), ((i + p.2 : Nat) : Int), true)
theorem txtRes_map1 (acc : List Int) (i : Nat) (x : Int) (r : Option (List Int × Nat)) : txtRes acc i (r.map (fun p => (x :: p.1, p.2 + 1))) = txtRes (acc ++ [x]) (i + 1) r := by
  cases r with
  | none => rfl
  | some p => simp only [Option.map_some, txtRes]; rw [List.append_assoc, show i + (p.2 + 1) = i + 1 + p.2 by omega]; rfl
theorem txtRes_map2 (acc : List Int) (i : Nat) (x : Int) (r : Option (List Int × Nat)) : txtRes acc i (r.map (fun p => (x :: p.1, p.2 + 2))) = txtRes (acc ++ [x]) (i + 2) r := by
  cases r with
  | none => rfl
  | some p => simp only [Option.map_some, txtRes]; rw [List.append_assoc, show i + (p.2 + 2) = i + 2 + p.2 by omega]; rfl
theorem key_text_l0 (L : List Int) (hL : isB L) (hlen : L.length ≤ 100000) : ∀ (d k i : Nat) (acc : List Int), 2 * d + 2 < k → i + d = L.length → acc.length + d ≤ 100000 → key_text.l0 k (strOfNums L) acc (i : Int) = some (txtRes acc i (txt (L.drop i))) := by
  intro d
  induction d using Nat.strongRecOn with
  | _ d ih =>
    intro k i acc hk hd ha
    have hz := son_size L
    obtain ⟨k, rfl⟩ : ∃ m, k = m + 1 := ⟨k - 1, by omega⟩
    simp only [key_text.l0]
    by_cases h : i < L.length
    · rw [if_pos (by omega), if_pos (by omega), bt_son hL i h, List.drop_eq_getElem_cons h]
      by_cases h0 : L[i] = 0
      · rw [if_pos h0, h0, wrap64_of (by omega) (by omega)]
        obtain ⟨k, rfl⟩ : ∃ m, k = m + 1 := ⟨k - 1, by omega⟩
        by_cases h1 : i + 1 < L.length
        · rw [if_pos (by omega), if_pos (by omega), show (i : Int) + 1 = ((i + 1 : Nat) : Int) by omega, bt_son hL (i + 1) h1, List.drop_eq_getElem_cons h1]
          simp only [key_text.j1]
          rw [txt, if_pos rfl]
          by_cases h2 : L[i + 1] = 255
          · rw [if_pos (by simpa using h2), if_pos (by omega), if_pos h2, txtRes_map2, wrap64_of (by omega) (by omega), show ((i + 1 : Nat) : Int) + 1 = ((i + 2 : Nat) : Int) by omega]
            exact ih (d - 2) (by omega) k (i + 2) (acc ++ [0]) (by omega) (by omega) (by simp; omega)
          · rw [if_neg (by simpa using h2), if_neg h2, if_pos (by omega), if_pos (by omega), bt_son hL (i + 1) h1]
            by_cases h3 : L[i + 1] = 1
            · rw [if_pos h3, if_pos h3, wrap64_of (by omega) (by omega)]
              simp only [txtRes, List.append_nil]
              rw [show ((i + 1 : Nat) : Int) + 1 = ((i + 2 : Nat) : Int) by omega]
            · rw [if_neg h3, if_neg h3]; rfl
        · rw [if_neg (by omega), List.drop_of_length_le (by omega)]
          simp only [key_text.j1]
          rw [if_neg (by decide), if_neg (by omega)]; rfl
      · rw [if_neg h0, if_pos (by omega), txt_cons h0, txtRes_map1, wrap64_of (by omega) (by omega), show (i : Int) + 1 = ((i + 1 : Nat) : Int) by omega]
        exact ih (d - 1) (by omega) k (i + 1) (acc ++ [L[i]]) (by omega) (by omega) (by simp; omega)
    · rw [if_neg (by omega), List.drop_of_length_le (by omega)]; rfl
theorem key_text_eq (L : List Int) (hL : isB L) (hlen : L.length ≤ 100000) (k : Nat) (hk : 2 * L.length + 2 < k) : key_text.f k (strOfNums L) = some (txtRes [] 0 (txt L)) := by
  have := key_text_l0 L hL hlen L.length k 0 [] hk (by omega) (by simpa using hlen)
  exact this
theorem tdm (n p : Int) (hp : 0 < p) : (n.tmod p < 0 ∧ n / p = n.tdiv p - 1 ∧ n % p = n.tmod p + p) ∨ (¬ n.tmod p < 0 ∧ n / p = n.tdiv p ∧ n % p = n.tmod p) := by
  have e1 := Int.mul_tdiv_add_tmod n p
  have e5 := Int.tmod_lt_of_pos n hp
  have e6 := Int.tmod_lt_of_pos (-n) hp
  rw [Int.neg_tmod] at e6
  by_cases c : n.tmod p < 0
  · have := (Int.ediv_emod_unique (a := n) (r := n.tmod p + p) (q := n.tdiv p - 1) hp).2 ⟨by rw [Int.mul_sub, Int.mul_one]; omega, by omega, by omega⟩
    exact Or.inl ⟨c, this.1, this.2⟩
  · have := (Int.ediv_emod_unique (a := n) (r := n.tmod p) (q := n.tdiv p) hp).2 ⟨by omega, by omega, by omega⟩
    exact Or.inr ⟨c, this.1, this.2⟩
theorem key_scaled_l0 (kd n : Int) (s : Nat) (st : ByteArray) (hs : s ≤ 6) (h0 : -1000000000000000 < n) (h1 : n < 1000000000000000) : ∀ (d k i : Nat), d < k → i + d = s → key_scaled.l0 k (p10 i) (s : Int) (i : Int) kd n (s : Int) st = some (n / p10 s, n % p10 s * p10 (6 - s))
  | 0, k, i, hk, hd => by
    obtain ⟨k, rfl⟩ : ∃ m, k = m + 1 := ⟨k - 1, by omega⟩
    obtain rfl : i = s := by omega
    have hp := p10_pos i
    have hp6 := p10_mono (m := i) (n := 6) hs
    have e6 := p10_six
    have hq := p10_six_sub i hs
    have hq0 := p10_pos (6 - i)
    have ht := tdiv_pows i hs
    rw [e6] at ht
    have hq1 := p10_mono (m := 6 - i) (n := 6) (by omega)
    have hd := ediv_small hp h0 h1
    have hm0 := Int.emod_nonneg n (show p10 i ≠ 0 by omega)
    have hm1 := Int.emod_lt_of_pos n hp
    have hmul : n % p10 i * p10 (6 - i) ≤ p10 i * p10 (6 - i) := Int.mul_le_mul_of_nonneg_right (by omega) (by omega)
    have hmul0 : 0 ≤ n % p10 i * p10 (6 - i) := Int.mul_nonneg hm0 (by omega)
    simp only [key_scaled.l0]
    rw [if_neg (by omega), if_neg (by omega), ht, wrap64_of (x := p10 (6 - i)) (by omega) (by omega)]
    rcases tdm n (p10 i) hp with ⟨c, e1, e2⟩ | ⟨c, e1, e2⟩
    · rw [if_pos c, wrap64_of (x := n.tdiv (p10 i)) (by omega) (by omega), wrap64_of (x := n.tdiv (p10 i) - 1) (by omega) (by omega), wrap64_of (x := n.tmod (p10 i) + p10 i) (by omega) (by omega), ← e1, ← e2, wrap64_of (by omega) (by omega)]
    · rw [if_neg c, wrap64_of (x := n.tdiv (p10 i)) (by omega) (by omega), ← e1, ← e2, wrap64_of (by omega) (by omega)]
  | d + 1, k, i, hk, hd => by
    obtain ⟨k, rfl⟩ : ∃ m, k = m + 1 := ⟨k - 1, by omega⟩
    have hp := p10_le (i + 1) (by omega)
    have hp0 := p10_pos (i + 1)
    simp only [key_scaled.l0]
    rw [if_pos (by omega), ← p10_succ, wrap64_of (by omega) (by omega), wrap64_of (by omega) (by omega), show (i : Int) + 1 = ((i + 1 : Nat) : Int) by omega]
    exact key_scaled_l0 kd n s st hs h0 h1 d k (i + 1) (by omega) (by omega)
theorem key_scaled_eq (k : Nat) (kd n : Int) (s : Nat) (st : ByteArray) (hk : 6 < k) (h : RD n s) : key_scaled.f k kd n (s : Int) st = some (n / p10 s, n % p10 s * p10 (6 - s)) := by
  have hs := h.sc
  exact key_scaled_l0 kd n s st hs h.lo h.hi s k 0 (by omega) (by omega)
def keyB (kd n : Int) (s : Nat) (st : ByteArray) : List Int :=
  if kd = 1 then [n] else if kd = 2 then be (n + 9223372036854775808) 8
  else if kd = 3 then be (n / p10 s + 9223372036854775808) 8 ++ be (n % p10 s * p10 (6 - s)) 4
  else if kd = 4 ∨ kd = 5 then escL (byteL st) else []
def keyL (kd n : Int) (s : Nat) (st : ByteArray) : List Int := kd :: keyB kd n s st
theorem right_bool {n sc : Int} {st : ByteArray} (h : rightB 1 n sc st = true) : 0 ≤ n ∧ n ≤ 1 := by
  unfold rightB at h
  rw [if_neg (by decide), if_pos rfl] at h
  simp only [Bool.and_eq_true, decide_eq_true_eq] at h
  exact h.1
theorem keyB_isB {kd n : Int} {s : Nat} {st : ByteArray} (m : Made kd n s st) : isB (keyB kd n s st) := by
  unfold keyB
  by_cases h1 : kd = 1
  · subst h1
    have := right_bool m.r
    rw [if_pos rfl]
    exact isB_cons (by omega) isB_nil
  rw [if_neg h1]
  by_cases h2 : kd = 2
  · rw [if_pos h2]; exact be_isB _ _
  rw [if_neg h2]
  by_cases h3 : kd = 3
  · rw [if_pos h3]; exact isB_append (be_isB _ _) (be_isB _ _)
  rw [if_neg h3]
  split
  · exact escL_isB (byteL_isB st)
  · exact isB_nil
theorem keyL_isB {kd n : Int} {s : Nat} {st : ByteArray} (m : Made kd n s st) : isB (keyL kd n s st) :=
  isB_cons (by have := m.k0; have := m.k5; omega) (keyB_isB m)
theorem keyB_len {kd n : Int} {s : Nat} {st : ByteArray} (m : Made kd n s st) : (keyB kd n s st).length ≤ 82 := by
  have h := escL_len (byteL st)
  rw [byteL_len] at h
  have hz : st.size = st.data.size := rfl
  have := m.sz
  unfold keyB
  split
  · simp
  split
  · rw [be_len]; omega
  split
  · rw [List.length_append, be_len, be_len]; omega
  split
  · omega
  · simp
theorem key_Key_eq {kd n : Int} {s : Nat} {st : ByteArray} (m : Made kd n s st) (k : Nat) (hk : 20 < k) : key_Key.f k kd n (s : Int) st = some (strOfNums (keyL kd n s st)) := by
  have hz : st.size = st.data.size := rfl
  have hsz := m.sz
  have he := escL_len (byteL st)
  rw [byteL_len] at he
  have k0 := m.k0
  have k5 := m.k5
  have hm : kd % 256 = kd := by omega
  unfold key_Key.f keyL keyB
  by_cases h4 : kd = 4
  · subst h4
    rw [if_pos rfl, if_pos (by omega), escAll_eq, if_pos (by omega), if_neg (by decide), if_neg (by decide), if_neg (by decide), if_pos (Or.inl rfl)]
  rw [if_neg h4]
  by_cases h5 : kd = 5
  · subst h5
    rw [if_pos rfl, if_pos (by omega), escAll_eq, if_pos (by omega), if_neg (by decide), if_neg (by decide), if_neg (by decide), if_pos (Or.inr rfl)]
  rw [if_neg h5]
  unfold key_Key_p.f
  rw [Option.bind_some, hm]
  by_cases h1 : kd = 1
  · subst h1
    have := right_bool m.r
    rw [if_pos rfl, if_pos rfl, if_pos (by simp), show n % 256 = n by omega]; rfl
  rw [if_neg h1, if_neg h1]
  by_cases h2 : kd = 2
  · rw [if_pos h2, if_pos h2, key_signed_eq k n (by omega), Option.bind_some, if_pos (by rw [be_len]; simp)]; rfl
  rw [if_neg h2, if_neg h2]
  by_cases h3 : kd = 3
  · have hd := m.v.d h3
    have hs := hd.sc
    obtain ⟨k, rfl⟩ : ∃ j, k = j + 1 := ⟨k - 1, by omega⟩
    rw [if_pos h3, if_pos h3, if_neg (by omega), decide_eq_false (by omega)]
    simp only [key_Key_p.j0]
    have e4 := key_number_eq (n % p10 s * p10 (6 - s)) 4 k (by omega) (by decide) (by decide)
    rw [if_neg (by decide), key_scaled_eq k kd n s st (by omega) hd, Option.bind_some]
    dsimp only
    rw [key_signed_eq k _ (by omega), Option.bind_some, if_pos (by rw [be_len]; simp), Option.bind_some, show (4 : Int) = ((4 : Nat) : Int) from rfl, e4, Option.bind_some, if_pos (by simp [be_len]), List.append_assoc]
    rfl
  · rw [if_neg h3, if_neg h3, if_neg h4, if_neg h5, if_neg (by omega)]
end Go.Proofs.Ytjacflmgbmfhcaa.K
namespace Go.Proofs.Ytjacflmgbmfhcaa.K
open Go.RowKit Go.Proofs.YtjacflmgbmfhcaaW.PrintWords Go.Proofs.YtjacflmgbmfhcaaW.PrintLast Go.Proofs.YtjacflmgbmfhcaaW.PrintMore
attribute [local go_sem] max2_int min2_int max_two min_two max_three min_three max_four min_four
attribute [local go_sem high] own_gtr own_leq own_geq own_cell_set Option.map_some fld24_3
set_option linter.unusedVariables false
set_option linter.unusedSimpArgs false
theorem cmpT_lt (a b : ByteArray) : decide (cmpT a b < 0) = Op.bytesLess a.toList b.toList := by
  unfold cmpT
  cases h : Op.bytesLess a.toList b.toList with
  | true => simp
  | false => cases Op.bytesLess b.toList a.toList <;> simp
theorem cmpT_zero (a b : ByteArray) : (cmpT a b == 0) = (a.toList == b.toList) := by
  unfold cmpT
  rcases bytesLess_total a.toList b.toList with h | h | h
  · have : a.toList ≠ b.toList := by intro e; rw [e, bytesLess_irrefl] at h; cases h
    rw [if_pos h]; simp [this]
  · rw [h, bytesLess_irrefl]; simp
  · have h2 := bytesLess_asymm _ _ h
    have : a.toList ≠ b.toList := by intro e; rw [e, bytesLess_irrefl] at h; cases h
    rw [h2, h]; simp [this]
theorem right_empty {kd n sc : Int} {st : ByteArray} (h : rightB kd n sc st = true) (h0 : 0 ≤ kd) (h3 : kd ≤ 3) : st.toList = [] := by
  have e : noS st = true := by
    unfold rightB at h
    have c : kd = 0 ∨ kd = 1 ∨ kd = 2 ∨ kd = 3 := by omega
    rcases c with rfl | rfl | rfl | rfl
    · simp only [if_true, Bool.and_eq_true] at h; exact h.2.2
    · rw [if_neg (by decide), if_pos rfl] at h; simp only [Bool.and_eq_true] at h; exact h.2.2
    · rw [if_neg (by decide), if_neg (by decide), if_pos rfl] at h; simp only [Bool.and_eq_true] at h; exact h.2
    · rw [if_neg (by decide), if_neg (by decide), if_neg (by decide), if_pos rfl] at h; simp only [Bool.and_eq_true] at h; exact h.2
  simpa [noS] using e
theorem right_null {n sc : Int} {st : ByteArray} (h : rightB 0 n sc st = true) : n = 0 ∧ sc = 0 := by
  unfold rightB at h
  simp only [if_true, Bool.and_eq_true, beq_iff_eq] at h
  exact ⟨h.1, h.2.1⟩
theorem mic_inj {n1 n2 : Int} {s1 s2 : Nat} (h1 : RD n1 s1) (h2 : RD n2 s2) (h : n1 * p10 (6 - s1) = n2 * p10 (6 - s2)) : n1 = n2 ∧ s1 = s2 := by
  have a := red_same n1 s1 h1.nm
  have b := red_same n2 s2 h2.nm
  have c := red_tens n1 (6 - s1) s1
  have d := red_tens n2 (6 - s2) s2
  have e1 : s1 + (6 - s1) = 6 := by have := h1.sc; omega
  have e2 : s2 + (6 - s2) = 6 := by have := h2.sc; omega
  rw [e1, a] at c
  rw [e2, b, ← h, c] at d
  simpa using d
end Go.Proofs.Ytjacflmgbmfhcaa.K
namespace Go.Proofs.Ytjacflmgbmfhcaa.K
open Go.RowKit Go.Proofs.YtjacflmgbmfhcaaW.PrintWords Go.Proofs.YtjacflmgbmfhcaaW.PrintLast Go.Proofs.YtjacflmgbmfhcaaW.PrintMore
attribute [local go_sem] max2_int min2_int max_two min_two max_three min_three max_four min_four
attribute [local go_sem high] own_gtr own_leq own_geq own_cell_set Option.map_some fld24_3
set_option linter.unusedVariables false
set_option linter.unusedSimpArgs false
theorem orLow (x b : Int) (h0 : 0 ≤ b) (h1 : b < 256) : Go.bits .or .i64 (wrap64 (x * 256)) b = wrap64 (x * 256 + b) := by
  have a1 := toNat_ofInt (wrap64 (x * 256))
  have b1 := toNat_ofInt b
  show IntKind.i64.wrap ((BitVec.ofInt 64 (wrap64 (x * 256)) ||| BitVec.ofInt 64 b).toNat : Int) = _
  rw [BitVec.toNat_or, i64_wrap]
  generalize (BitVec.ofInt 64 (wrap64 (x * 256))).toNat = r at *
  generalize (BitVec.ofInt 64 b).toNat = t at *
  have a2 : (r : Int) = (x * 256) % 18446744073709551616 := by rw [a1]; unfold wrap64; omega
  have b2 : (t : Int) = b := by rw [b1]; omega
  obtain ⟨q, rfl⟩ : ∃ q, r = 2 ^ 8 * q := ⟨r / 256, by omega⟩
  rw [← Nat.two_pow_add_eq_or_of_lt (show t < 2 ^ 8 by omega) q]
  have : ((2 ^ 8 * q + t : Nat) : Int) = (x * 256) % 18446744073709551616 + b := by
    rw [← a2, ← b2]; omega
  rw [this]
  unfold wrap64
  omega
theorem wrap64_congr {a b : Int} (h : a % 18446744073709551616 = b % 18446744073709551616) : wrap64 a = wrap64 b := by
  unfold wrap64; omega
theorem wrap64_emod (a : Int) : wrap64 a % 18446744073709551616 = a % 18446744073709551616 := by unfold wrap64; omega
theorem key_unsigned_l0 (L : List Int) (hL : isB L) (hlen : L.length ≤ 100000) : ∀ (d k i : Nat) (a : Int), d < k → i + d = L.length → key_unsigned.l0 k (strOfNums L) (wrap64 a) (i : Int) = some (wrap64 ((L.drop i).foldl (fun a b => a * 256 + b) a))
  | 0, k, i, a, hk, hd => by
    obtain ⟨k, rfl⟩ : ∃ m, k = m + 1 := ⟨k - 1, by omega⟩
    have hz := son_size L
    simp only [key_unsigned.l0]
    rw [if_neg (by omega), List.drop_of_length_le (by omega)]; rfl
  | d + 1, k, i, a, hk, hd => by
    obtain ⟨k, rfl⟩ : ∃ m, k = m + 1 := ⟨k - 1, by omega⟩
    have hz := son_size L
    have hi : i < L.length := by omega
    have hb := hL _ (List.getElem_mem hi)
    simp only [key_unsigned.l0]
    rw [if_pos (by omega), if_pos (by omega), bt_son hL i hi, wrap64_of (x := L[i]) (by omega) (by omega), orLow _ _ hb.1 hb.2, wrap64_of (x := (i : Int) + 1) (by omega) (by omega), show (i : Int) + 1 = ((i + 1 : Nat) : Int) by omega,
      wrap64_congr (a := wrap64 a * 256 + L[i]) (b := a * 256 + L[i]) (by have := wrap64_emod a; omega), key_unsigned_l0 L hL hlen d k (i + 1) _ (by omega) (by omega), List.drop_eq_getElem_cons hi, List.foldl_cons]
theorem key_unsigned_eq (L : List Int) (hL : isB L) (hlen : L.length ≤ 100000) (k : Nat) (hk : L.length < k) : key_unsigned.f k (strOfNums L) = some (wrap64 (num256 L)) := by
  have := key_unsigned_l0 L hL hlen L.length k 0 0 hk (by omega)
  rw [show wrap64 0 = 0 by unfold wrap64; omega] at this
  unfold key_unsigned.f
  exact this
theorem key_front_eq (L : List Int) (n : Nat) : key_front.f (strOfNums L) (n : Int) = some (if L.length < n then ((⟨#[]⟩ : ByteArray), false) else (strOfNums (L.take n), true)) := by
  have hz := son_size L
  unfold key_front.f
  by_cases h : L.length < n
  · rw [if_pos (by omega), if_pos h]
  · rw [if_neg (by omega), if_neg h, if_pos (by omega), if_pos (by omega), Int.toNat_natCast, son_take]
def decOut (w f : Int) (s : Nat) (x : Int) : Int × Int × Int × ByteArray × Int × Bool :=
  if w < -(1000000000000000 / p10 s) then (0, 0, 0, (⟨#[]⟩ : ByteArray), 0, false) else if w > 1000000000000000 / p10 s then (0, 0, 0, (⟨#[]⟩ : ByteArray), 0, false) else (3, w * p10 s + f, (s : Int), (⟨#[]⟩ : ByteArray), x, true)
theorem most_div (s : Nat) (hs : s ≤ 6) : Int.tdiv (1000000000000000 : Int) (p10 s) = 1000000000000000 / p10 s ∧ Int.tdiv (-1000000000000000 : Int) (p10 s) = -(1000000000000000 / p10 s) ∧ 1000000000000000 / p10 s * p10 s = 1000000000000000 := by
  have : s = 0 ∨ s = 1 ∨ s = 2 ∨ s = 3 ∨ s = 4 ∨ s = 5 ∨ s = 6 := by omega
  rcases this with rfl | rfl | rfl | rfl | rfl | rfl | rfl <;> exact ⟨by decide, by decide, by decide⟩
theorem dec_end (w f : Int) (s : Nat) (x : Int) (hs : s ≤ 6) (h0 : 0 ≤ f) (h1 : f < p10 s) :
    (if p10 s = 0 then none else (if w < (wrap64 (Int.tdiv (-1000000000000000) (p10 s))) then (some (0, 0, 0, (⟨#[]⟩ : ByteArray), 0, false)) else (if w > (wrap64 (Int.tdiv (1000000000000000 : Int) (p10 s))) then (some (0, 0, 0, (⟨#[]⟩ : ByteArray), 0, false)) else (some (3, wrap64 ((wrap64 (w * (p10 s))) + f), (s : Int), (⟨#[]⟩ : ByteArray), x, true))))) = some (decOut w f s x) := by
  have hp := p10_pos s
  have hp6 := p10_mono (m := s) (n := 6) hs
  have e6 := p10_six
  obtain ⟨a1, a2, a3⟩ := most_div s hs
  have b0 : 0 ≤ 1000000000000000 / p10 s := Int.ediv_nonneg (by decide) (by omega)
  have b1 : 1000000000000000 / p10 s ≤ 1000000000000000 := Int.ediv_le_self _ (by decide)
  rw [if_neg (by omega), a1, a2, wrap64_of (x := -(1000000000000000 / p10 s)) (by omega) (by omega), wrap64_of (x := 1000000000000000 / p10 s) (by omega) (by omega)]
  unfold decOut
  by_cases c1 : w < -(1000000000000000 / p10 s)
  · rw [if_pos c1, if_pos c1]
  rw [if_neg c1, if_neg c1]
  by_cases c2 : w > 1000000000000000 / p10 s
  · rw [if_pos c2, if_pos c2]
  rw [if_neg c2, if_neg c2]
  have m1 : w * p10 s ≤ 1000000000000000 / p10 s * p10 s := Int.mul_le_mul_of_nonneg_right (by omega) (by omega)
  have m2 : -(1000000000000000 / p10 s) * p10 s ≤ w * p10 s := Int.mul_le_mul_of_nonneg_right (by omega) (by omega)
  rw [Int.neg_mul] at m2
  rw [wrap64_of (x := w * p10 s) (by omega) (by omega), wrap64_of (by omega) (by omega)]
theorem key_decimal_l0 (w x : Int) : ∀ (s k : Nat) (f : Int), s < k → s ≤ 6 → 0 ≤ f → f < p10 s → key_decimal.l0 k w f x (p10 s) (s : Int) = some (decOut w (red f s).1 (red f s).2 x)
  | 0, k, f, hk, hs, h0, h1 => by
    obtain ⟨k, rfl⟩ : ∃ m, k = m + 1 := ⟨k - 1, by omega⟩
    simp only [key_decimal.l0]
    rw [if_neg (by omega)]
    exact dec_end w f 0 x hs h0 h1
  | s + 1, k, f, hk, hs, h0, h1 => by
    obtain ⟨k, rfl⟩ : ∃ m, k = m + 1 := ⟨k - 1, by omega⟩
    have hp := p10_pos s
    have hp6 := p10_mono (m := s + 1) (n := 6) hs
    have e6 := p10_six
    have e := p10_succ s
    simp only [key_decimal.l0]
    rw [if_pos (by omega)]
    simp only [red]
    by_cases h : f % 10 = 0
    · rw [if_pos ((tmod10 f).2 h), if_pos h, tdiv10 f h, tdiv10 (p10 (s + 1)) (by omega), show p10 (s + 1) / 10 = p10 s by omega, wrap64_of (by omega) (by omega), wrap64_of (by omega) (by omega), wrap64_of (by omega) (by omega), show ((s + 1 : Nat) : Int) - 1 = (s : Int) by omega]
      exact key_decimal_l0 w x s k (f / 10) (by omega) (by omega) (by omega) (by omega)
    · rw [if_neg (fun e => h ((tmod10 f).1 e)), if_neg h]
      exact dec_end w f (s + 1) x hs h0 h1
theorem red_parts (n : Int) (s : Nat) (h : RD n s) : n / p10 s * p10 (red (n % p10 s * p10 (6 - s)) 6).2 + (red (n % p10 s * p10 (6 - s)) 6).1 = n ∧ (red (n % p10 s * p10 (6 - s)) 6).2 = s := by
  have hs := h.sc
  have hp := p10_pos s
  have e1 : red (n % p10 s * p10 (6 - s)) 6 = red (n % p10 s) s := by
    have := red_tens (n % p10 s) (6 - s) s
    rw [show s + (6 - s) = 6 by omega] at this
    exact this
  have hm := Int.mul_ediv_add_emod n (p10 s)
  have e2 : red (n % p10 s) s = (n % p10 s, s) := by
    apply red_same
    rcases h.nm with h' | h'
    · exact Or.inl h'
    · cases s with
      | zero => exact Or.inl rfl
      | succ s =>
        right
        rw [p10_succ] at hm ⊢
        rw [Int.mul_assoc, Int.mul_comm (p10 s), Int.mul_assoc] at hm
        omega
  rw [e1, e2]
  exact ⟨by dsimp only; rw [Int.mul_comm]; exact hm, rfl⟩
theorem whole_bounds (n : Int) (s : Nat) (h : RD n s) : -(1000000000000000 / p10 s) ≤ n / p10 s ∧ n / p10 s ≤ 1000000000000000 / p10 s := by
  have hs := h.sc
  have hp := p10_pos s
  obtain ⟨_, _, a3⟩ := most_div s hs
  have h0 := h.lo
  have h1 := h.hi
  constructor
  · rw [Int.le_ediv_iff_mul_le hp, Int.neg_mul]; omega
  · exact Int.ediv_le_ediv hp (by omega)
theorem decimal_back (n : Int) (s : Nat) (x : Int) (k : Nat) (hk : 6 < k) (h : RD n s) : key_decimal.f k (n / p10 s) (n % p10 s * p10 (6 - s)) x = some (3, n, (s : Int), (⟨#[]⟩ : ByteArray), x, true) := by
  have hs := h.sc
  have hp := p10_pos s
  have hq := p10_six_sub s hs
  have hq0 := p10_pos (6 - s)
  have e6 := p10_six
  have hm0 := Int.emod_nonneg n (show p10 s ≠ 0 by omega)
  have hm1 := Int.emod_lt_of_pos n hp
  have hmul : n % p10 s * p10 (6 - s) ≤ (p10 s - 1) * p10 (6 - s) := Int.mul_le_mul_of_nonneg_right (by omega) (by omega)
  rw [Int.sub_mul, Int.one_mul] at hmul
  have hmul0 : 0 ≤ n % p10 s * p10 (6 - s) := Int.mul_nonneg hm0 (by omega)
  unfold key_decimal.f
  rw [if_neg (by omega)]
  have := key_decimal_l0 (n / p10 s) x 6 k (n % p10 s * p10 (6 - s)) hk (by decide) hmul0 (by omega)
  rw [p10_six] at this
  obtain ⟨r1, r2⟩ := red_parts n s h
  have hw := whole_bounds n s h
  rw [show ((6 : Nat) : Int) = 6 from rfl] at this
  rw [this]
  unfold decOut
  rw [r1, r2, if_neg (by omega), if_neg (by omega)]
theorem num_back (a : Int) (h : I64 a) : Go.bits .xor .i64 (wrap64 (num256 (be (a + 9223372036854775808) 8))) (-9223372036854775808) = a := by
  rw [xorMin, num256_be, p256_8]
  unfold I64 at h
  unfold wrap64
  omega
theorem I64_ediv {n : Int} {s : Nat} (h : RD n s) : I64 (n / p10 s) := by
  have := ediv_small (p10_pos s) h.lo h.hi
  unfold I64; omega
theorem st_empty {st : ByteArray} (h : st.toList = []) : st = ⟨#[]⟩ := toList_inj.1 (h.trans (show [] = (⟨#[]⟩ : ByteArray).toList by decide +kernel))
theorem key_read_eq {kd n : Int} {s : Nat} {st : ByteArray} (m : Made kd n s st) (more : List Int) (hm : isB more) (hl : more.length ≤ 5000) (k : Nat) (hk : 12000 < k) :
    key_read.f k kd 0 0 (⟨#[]⟩ : ByteArray) (strOfNums (keyB kd n s st ++ more)) = some (kd, n, (s : Int), st, ((keyB kd n s st).length : Int), true) := by
  obtain ⟨k, rfl⟩ : ∃ j, k = j + 1 := ⟨k - 1, by omega⟩
  have hb := keyB_isB m
  have hlen := keyB_len m
  have k0 := m.k0
  have k5 := m.k5
  have hr := m.r
  have hB := isB_append hb hm
  unfold key_read.f
  by_cases h1 : kd = 1
  · subst h1
    have hn := right_bool m.r
    have hs := m.z (by decide)
    have hst := right_empty m.r (by decide) (by decide)
    obtain rfl : st = ⟨#[]⟩ := st_empty hst
    subst hs
    have eB : keyB 1 n 0 (⟨#[]⟩ : ByteArray) = [n] := rfl
    rw [eB] at hB ⊢
    have hf := key_front_eq ([n] ++ more) 1
    rw [if_neg (by simp)] at hf
    rw [if_pos rfl]
    simp only [key_read.j0]
    rw [show ((1 : Nat) : Int) = 1 from rfl] at hf
    rw [hf, Option.bind_some]
    simp only [reduceIte, Int.reduceEq]
    rw [key_unsigned_eq _ (isB_take hB 1) (by simp) k (by simp; omega), Option.bind_some]
    have : num256 ([n] ++ more |>.take 1) = n := by simp [num256]
    rw [this, wrap64_of (by omega) (by omega)]; rfl
  rw [if_neg h1]
  by_cases h2 : kd = 2
  · subst h2
    have hn := m.v.i
    have hs := m.z (by decide)
    have hst := right_empty m.r (by decide) (by decide)
    obtain rfl : st = ⟨#[]⟩ := st_empty hst
    subst hs
    have eB : keyB 2 n 0 (⟨#[]⟩ : ByteArray) = be (n + 9223372036854775808) 8 := rfl
    rw [eB] at hB ⊢
    have hf := key_front_eq (be (n + 9223372036854775808) 8 ++ more) 8
    rw [if_neg (by rw [List.length_append, be_len]; omega), List.take_append_of_le_length (by rw [be_len]; decide), List.take_of_length_le (by rw [be_len]; decide)] at hf
    rw [if_pos rfl]
    simp only [key_read.j0]
    rw [show ((8 : Nat) : Int) = 8 from rfl] at hf
    rw [hf, Option.bind_some]
    simp only [reduceIte, Int.reduceEq]
    rw [key_unsigned_eq _ (be_isB _ 8) (by rw [be_len]; decide) k (by rw [be_len]; omega), Option.bind_some, num_back n hn, be_len]
    rfl
  rw [if_neg h2]
  by_cases h3 : kd = 3
  · subst h3
    have hd := m.v.d rfl
    have hst := right_empty m.r (by decide) (by decide)
    obtain rfl : st = ⟨#[]⟩ := st_empty hst
    have eB : keyB 3 n s (⟨#[]⟩ : ByteArray) = be (n / p10 s + 9223372036854775808) 8 ++ be (n % p10 s * p10 (6 - s)) 4 := rfl
    have hl12 : (keyB 3 n s (⟨#[]⟩ : ByteArray)).length = 12 := by rw [eB, List.length_append, be_len, be_len]
    have hf := key_front_eq (keyB 3 n s (⟨#[]⟩ : ByteArray) ++ more) 12
    rw [if_neg (by rw [List.length_append]; omega), List.take_append_of_le_length (by omega), List.take_of_length_le (by omega)] at hf
    rw [hl12, if_pos rfl]
    simp only [key_read.j0]
    rw [show ((12 : Nat) : Int) = 12 from rfl] at hf
    rw [hf, Option.bind_some]
    simp only [reduceIte, Int.reduceEq]
    have hz := son_size (keyB 3 n s (⟨#[]⟩ : ByteArray))
    rw [if_pos (by decide), if_pos (by omega), son_take, son_drop, eB,
      List.take_append_of_le_length (by rw [be_len]; decide), List.take_of_length_le (by rw [be_len]; decide), List.drop_append_of_le_length (by rw [be_len]; decide), List.drop_of_length_le (by rw [be_len]; decide), List.nil_append,
      key_unsigned_eq _ (be_isB _ 8) (by rw [be_len]; decide) k (by rw [be_len]; omega), Option.bind_some, key_unsigned_eq _ (be_isB _ 4) (by rw [be_len]; decide) k (by rw [be_len]; omega), Option.bind_some, num_back _ (I64_ediv hd), num256_be, p256_4]
    have hs := hd.sc
    have hp := p10_pos s
    have hq := p10_six_sub s hs
    have hq0 := p10_pos (6 - s)
    have hm0 := Int.emod_nonneg n (show p10 s ≠ 0 by omega)
    have hm1 := Int.emod_lt_of_pos n hp
    have hmul : n % p10 s * p10 (6 - s) ≤ (p10 s - 1) * p10 (6 - s) := Int.mul_le_mul_of_nonneg_right (by omega) (by omega)
    rw [Int.sub_mul, Int.one_mul] at hmul
    have hmul0 : 0 ≤ n % p10 s * p10 (6 - s) := Int.mul_nonneg hm0 (by omega)
    rw [Int.emod_eq_of_lt hmul0 (by omega), wrap64_of (by omega) (by omega), decimal_back n s _ k (by omega) hd, Option.bind_some]
    rfl
  rw [if_neg h3]
  have hz : st.size = st.data.size := rfl
  have hsz := m.sz
  by_cases h4 : kd = 4
  · subst h4
    have hs := m.z (by decide)
    subst hs
    have hn : n = 0 := by
      unfold rightB at hr
      rw [if_neg (by decide), if_neg (by decide), if_neg (by decide), if_neg (by decide), if_pos rfl] at hr
      simp only [Bool.and_eq_true, decide_eq_true_eq] at hr
      exact hr.1.1
    subst hn
    have eB : keyB 4 0 0 st = escL (byteL st) := rfl
    rw [eB] at hB hlen ⊢
    have := key_text_eq _ hB (by rw [List.length_append]; omega) (k + 1) (by rw [List.length_append]; omega)
    rw [if_pos rfl, this, txt_esc, Option.bind_some]
    simp only [txtRes, List.nil_append, Nat.zero_add, son_byteL]
    rfl
  rw [if_neg h4]
  by_cases h5 : kd = 5
  · subst h5
    have hs := m.z (by decide)
    subst hs
    have hn : n = 0 := by
      unfold rightB at hr
      rw [if_neg (by decide), if_neg (by decide), if_neg (by decide), if_neg (by decide), if_neg (by decide), if_pos rfl] at hr
      simp only [decide_eq_true_eq] at hr
      exact hr.1
    subst hn
    have eB : keyB 5 0 0 st = escL (byteL st) := rfl
    rw [eB] at hB hlen ⊢
    have := key_text_eq _ hB (by rw [List.length_append]; omega) (k + 1) (by rw [List.length_append]; omega)
    rw [if_pos rfl, this, txt_esc, Option.bind_some]
    simp only [txtRes, List.nil_append, Nat.zero_add, son_byteL]
    rfl
  rw [if_neg h5]
  obtain rfl : kd = 0 := by omega
  have hn := right_null m.r
  have hst := right_empty m.r (by decide) (by decide)
  obtain rfl : st = ⟨#[]⟩ := st_empty hst
  have hs := m.z (by decide)
  subst hs
  obtain rfl := hn.1
  have eB : keyB 0 0 0 (⟨#[]⟩ : ByteArray) = [] := rfl
  rw [eB]
  have hf := key_front_eq ([] ++ more) 0
  rw [if_neg (by omega)] at hf
  simp only [key_read.j0]
  rw [show ((0 : Nat) : Int) = 0 from rfl] at hf
  rw [hf, Option.bind_some]
  simp only [reduceIte, Int.reduceEq]
  rfl
theorem ReadKey_eq {kd n : Int} {s : Nat} {st : ByteArray} (m : Made kd n s st) (more : List Int) (hm : isB more) (hl : more.length ≤ 5000) (k : Nat) (hk : 12000 < k) :
    key_ReadKey.f k (strOfNums (keyL kd n s st ++ more)) = some (kd, n, (s : Int), st, ((keyL kd n s st).length : Int), true) := by
  have hB := isB_append (keyL_isB m) hm
  have k0 := m.k0
  have k5 := m.k5
  have hlen := keyB_len m
  have hz := son_size (keyL kd n s st ++ more)
  have hL : (keyL kd n s st).length = (keyB kd n s st).length + 1 := rfl
  have hA : (keyL kd n s st ++ more).length = (keyB kd n s st).length + 1 + more.length := by rw [List.length_append, hL]
  have b0 := bt_son hB 0 (by omega)
  have e0 : (keyL kd n s st ++ more)[0]'(by omega) = kd := rfl
  unfold key_ReadKey.f
  rw [if_neg (by rw [son_nil]; intro h; rw [h, List.length_nil] at hA; omega), if_pos (by omega), if_pos (by omega), show (0 : Int) = ((0 : Nat) : Int) from rfl, b0, e0, wrap64_of (by omega) (by omega), son_drop]
  have hd : (keyL kd n s st ++ more).drop 1 = keyB kd n s st ++ more := rfl
  have hr := key_read_eq m more hm hl k hk
  rw [hd]
  rw [show ((0 : Nat) : Int) = 0 from rfl, hr, Option.bind_some]
  dsimp only
  rw [if_pos rfl, val_Right_eq k kd n (s : Int) st (by omega), Option.bind_some, if_pos m.r, key_Key_eq m k (by omega), Option.bind_some, wrap64_of (by omega) (by omega), if_pos (by omega), if_pos (by omega)]
  rw [show (((keyB kd n s st).length : Int) + 1).toNat = (keyL kd n s st).length by omega, son_take, List.take_append_of_le_length (Nat.le_refl _), List.take_length, if_pos rfl, hL]
  rfl
end Go.Proofs.Ytjacflmgbmfhcaa.K
namespace Go.Proofs.Ytjacflmgbmfhcaa.K
open Go.RowKit Go.Proofs.YtjacflmgbmfhcaaW.PrintWords Go.Proofs.YtjacflmgbmfhcaaW.PrintLast Go.Proofs.YtjacflmgbmfhcaaW.PrintMore
attribute [local go_sem] max2_int min2_int max_two min_two max_three min_three max_four min_four
attribute [local go_sem high] own_gtr own_leq own_geq own_cell_set Option.map_some fld24_3
set_option linter.unusedVariables false
set_option linter.unusedSimpArgs false
theorem keyL_inj {k1 n1 k2 n2 : Int} {s1 s2 : Nat} {t1 t2 : ByteArray} (m1 : Made k1 n1 s1 t1) (m2 : Made k2 n2 s2 t2) (a b : List Int) (ha : isB a) (hb : isB b) (la : a.length ≤ 5000) (lb : b.length ≤ 5000)
    (h : keyL k1 n1 s1 t1 ++ a = keyL k2 n2 s2 t2 ++ b) : k1 = k2 ∧ n1 = n2 ∧ s1 = s2 ∧ t1 = t2 := by
  have e1 := ReadKey_eq m1 a ha la 12001 (by decide)
  have e2 := ReadKey_eq m2 b hb lb 12001 (by decide)
  rw [h, e2] at e1
  have e3 := Option.some.inj e1
  simp only [Prod.mk.injEq] at e3
  exact ⟨e3.1.symm, e3.2.1.symm, by omega, e3.2.2.2.1.symm⟩
theorem right_text {kd n sc : Int} {st : ByteArray} (h : rightB kd n sc st = true) (h4 : kd = 4 ∨ kd = 5) : n = 0 := by
  unfold rightB at h
  rcases h4 with rfl | rfl
  · rw [if_neg (by decide), if_neg (by decide), if_neg (by decide), if_neg (by decide), if_pos rfl] at h
    simp only [Bool.and_eq_true, decide_eq_true_eq] at h
    exact h.1.1
  · rw [if_neg (by decide), if_neg (by decide), if_neg (by decide), if_neg (by decide), if_neg (by decide), if_pos rfl] at h
    simp only [decide_eq_true_eq] at h
    exact h.1
theorem cmpI_eq_zero {a b : Int} : cmpI a b = 0 ↔ a = b := by
  unfold cmpI; split <;> (try split) <;> omega
theorem cmpI_lt' {a b : Int} : cmpI a b < 0 ↔ a < b := by
  unfold cmpI; split <;> (try split) <;> omega
theorem cmpT_eq_zero {a b : ByteArray} : cmpT a b = 0 ↔ a = b := by
  have h := cmpT_zero a b
  rw [Bool.eq_iff_iff, beq_iff_eq, beq_iff_eq, toList_inj] at h
  exact h
theorem ord_self (kd n sc : Int) (st : ByteArray) : ordB kd n sc st kd n sc st = 0 := by
  unfold ordB
  rw [if_pos rfl]
  split
  · exact cmpI_eq_zero.2 rfl
  split
  · exact cmpI_eq_zero.2 rfl
  · exact cmpT_eq_zero.2 rfl
theorem ord_zero {k1 n1 k2 n2 : Int} {s1 s2 : Nat} {t1 t2 : ByteArray} (m1 : Made k1 n1 s1 t1) (m2 : Made k2 n2 s2 t2) (h : ordB k1 n1 (s1 : Int) t1 k2 n2 (s2 : Int) t2 = 0) : k1 = k2 ∧ n1 = n2 ∧ s1 = s2 ∧ t1 = t2 := by
  unfold ordB at h
  by_cases e : k1 = k2
  · subst e
    rw [if_pos rfl] at h
    have k0 := m1.k0
    have k5 := m1.k5
    by_cases c : k1 = 1 ∨ k1 = 2
    · rw [if_pos c] at h
      have z1 := m1.z (by omega)
      have z2 := m2.z (by omega)
      have g1 := st_empty (right_empty m1.r k0 (by omega))
      have g2 := st_empty (right_empty m2.r k0 (by omega))
      exact ⟨rfl, cmpI_eq_zero.1 h, by omega, by rw [g1, g2]⟩
    rw [if_neg c] at h
    by_cases c3 : k1 = 3
    · rw [if_pos c3] at h
      have g1 := st_empty (right_empty m1.r k0 (by omega))
      have g2 := st_empty (right_empty m2.r k0 (by omega))
      have h' := cmpI_eq_zero.1 h
      unfold mic at h'
      rw [Int.toNat_natCast, Int.toNat_natCast] at h'
      have := mic_inj (m1.v.d c3) (m2.v.d c3) h'
      exact ⟨rfl, this.1, this.2, by rw [g1, g2]⟩
    rw [if_neg c3] at h
    have z1 := m1.z c3
    have z2 := m2.z c3
    refine ⟨rfl, ?_, by omega, cmpT_eq_zero.1 h⟩
    by_cases c0 : k1 = 0
    · subst c0
      rw [(right_null m1.r).1, (right_null m2.r).1]
    · rw [right_text m1.r (by omega), right_text m2.r (by omega)]
  · rw [if_neg e] at h
    exact absurd (cmpI_eq_zero.1 h) e
theorem keyL_less {k1 n1 k2 n2 : Int} {s1 s2 : Nat} {t1 t2 : ByteArray} (m1 : Made k1 n1 s1 t1) (m2 : Made k2 n2 s2 t2) :
    lessL (keyL k1 n1 s1 t1) (keyL k2 n2 s2 t2) = decide (ordB k1 n1 (s1 : Int) t1 k2 n2 (s2 : Int) t2 < 0) := by
  unfold keyL ordB
  rw [lessL]
  by_cases e : k1 = k2
  · subst e
    have k0 := m1.k0
    have k5 := m1.k5
    rw [decide_eq_false (Int.lt_irrefl k1), beq_self_eq_true, Bool.false_or, Bool.true_and, if_pos rfl]
    by_cases c1 : k1 = 1
    · subst c1
      rw [if_pos (Or.inl rfl)]
      have : lessL (keyB 1 n1 s1 t1) (keyB 1 n2 s2 t2) = decide (n1 < n2) := by
        show lessL [n1] [n2] = _
        simp [lessL]
      rw [this, decide_eq_decide, cmpI_lt']
    by_cases c2 : k1 = 2
    · subst c2
      rw [if_pos (Or.inr rfl)]
      have h1 := m1.v.i
      have h2 := m2.v.i
      unfold I64 at h1 h2
      have : lessL (keyB 2 n1 s1 t1) (keyB 2 n2 s2 t2) = decide (n1 < n2) := by
        show lessL (be _ 8) (be _ 8) = _
        rw [be_lt 8 _ _ (by omega) (by rw [p256_8]; omega) (by omega) (by rw [p256_8]; omega), decide_eq_decide]
        omega
      rw [this, decide_eq_decide, cmpI_lt']
    rw [if_neg (by omega)]
    by_cases c3 : k1 = 3
    · subst c3
      rw [if_pos rfl]
      have d1 := m1.v.d rfl
      have d2 := m2.v.d rfl
      have i1 := I64_ediv d1
      have i2 := I64_ediv d2
      unfold I64 at i1 i2
      have part : ∀ (n : Int) (s : Nat), RD n s → 0 ≤ n % p10 s * p10 (6 - s) ∧ n % p10 s * p10 (6 - s) < 1000000 := fun n s d => by
        have hs := d.sc
        have hp := p10_pos s
        have hq := p10_six_sub s hs
        have hq0 := p10_pos (6 - s)
        have hm0 := Int.emod_nonneg n (show p10 s ≠ 0 by omega)
        have hm1 := Int.emod_lt_of_pos n hp
        have hmul : n % p10 s * p10 (6 - s) ≤ (p10 s - 1) * p10 (6 - s) := Int.mul_le_mul_of_nonneg_right (by omega) (by omega)
        rw [Int.sub_mul, Int.one_mul] at hmul
        exact ⟨Int.mul_nonneg hm0 (by omega), by omega⟩
      have q1 := part n1 s1 d1
      have q2 := part n2 s2 d2
      have : lessL (keyB 3 n1 s1 t1) (keyB 3 n2 s2 t2) = decide (cmpI (mic n1 (s1 : Int)) (mic n2 (s2 : Int)) < 0) := by
        show lessL (be _ 8 ++ be _ 4) (be _ 8 ++ be _ 4) = _
        rw [lessL_len _ _ _ _ (by rw [be_len, be_len]), be_lt 4 _ _ q1.1 (by rw [p256_4]; omega) q2.1 (by rw [p256_4]; omega), be_lt 8 _ _ (by omega) (by rw [p256_8]; omega) (by omega) (by rw [p256_8]; omega)]
        have hP := parts_order' (a := n1 * p10 (6 - s1)) (b := n2 * p10 (6 - s2)) 1000000 (by decide)
        rw [mic_ediv n1 s1 d1.sc, mic_ediv n2 s2 d2.sc, mic_emod n1 s1 d1.sc, mic_emod n2 s2 d2.sc] at hP
        unfold mic
        rw [Int.toNat_natCast, Int.toNat_natCast, ← hP]
        by_cases c : n1 / p10 s1 = n2 / p10 s2
        · rw [c, if_pos rfl, if_pos (cmpI_eq_zero.2 rfl), decide_eq_decide, cmpI_lt']
        · rw [if_neg (fun h => c (by have := be_inj (k := 8) (by omega) (by rw [p256_8]; omega) (by omega) (by rw [p256_8]; omega) h; omega)), if_neg (fun h => c (cmpI_eq_zero.1 h)), decide_eq_decide, cmpI_lt']
          omega
      rw [this]
    rw [if_neg c3]
    by_cases c0 : k1 = 0
    · subst c0
      have g1 := st_empty (right_empty m1.r (by decide) (by decide))
      have g2 := st_empty (right_empty m2.r (by decide) (by decide))
      rw [g1, g2, cmpT_eq_zero.2 rfl]
      rfl
    have h45 : k1 = 4 ∨ k1 = 5 := by omega
    have eB : ∀ n s t, keyB k1 n s t = escL (byteL t) := fun n s t => by
      unfold keyB
      rw [if_neg c1, if_neg c2, if_neg c3, if_pos h45]
    rw [eB, eB, cmpT_lt, less_bytes]
    by_cases c : byteL t1 = byteL t2
    · rw [c, lessL_irrefl, lessL_irrefl]
    · have := esc_less [] [] (byteL t1) (byteL t2) (byteL_isB _) (byteL_isB _) c
      rw [List.append_nil, List.append_nil] at this
      exact this
  · have e2 : (k1 == k2) = false := by simpa using e
    rw [if_neg e, e2, Bool.false_and, Bool.or_false, decide_eq_decide, cmpI_lt']
theorem keyL_eq_iff {k1 n1 k2 n2 : Int} {s1 s2 : Nat} {t1 t2 : ByteArray} (m1 : Made k1 n1 s1 t1) (m2 : Made k2 n2 s2 t2) : keyL k1 n1 s1 t1 = keyL k2 n2 s2 t2 ↔ ordB k1 n1 (s1 : Int) t1 k2 n2 (s2 : Int) t2 = 0 := by
  constructor
  · intro h
    obtain ⟨rfl, rfl, rfl, rfl⟩ := keyL_inj m1 m2 [] [] isB_nil isB_nil (by simp) (by simp) (by rw [h])
    exact ord_self _ _ _ _
  · intro h
    obtain ⟨rfl, rfl, rfl, rfl⟩ := ord_zero m1 m2 h
    rfl
end Go.Proofs.Ytjacflmgbmfhcaa.K
namespace Go.Proofs.Ytjacflmgbmfhcaa.K
open Go.RowKit Go.Proofs.YtjacflmgbmfhcaaW.PrintWords Go.Proofs.YtjacflmgbmfhcaaW.PrintLast Go.Proofs.YtjacflmgbmfhcaaW.PrintMore
attribute [local go_sem] max2_int min2_int max_two min_two max_three min_three max_four min_four
attribute [local go_sem high] own_gtr own_leq own_geq own_cell_set Option.map_some fld24_3
set_option linter.unusedVariables false
set_option linter.unusedSimpArgs false
theorem known2_three : federationlaw2_known.f 300 = some true := by decide +kernel
theorem known2_ge {k : Nat} (h : 300 ≤ k) : federationlaw2_known.f k = some true := at_rounds federationlaw2_known.mono h known2_three
theorem within2_eq (a n : Int) (ha : I64 a) (h0 : 0 < n) (h1 : n ≤ 4611686018427387904) : federationlaw2_within.f a n = some (a % n) := by
  unfold federationlaw2_within.f I64 at *
  rw [if_neg (by omega)]
  have e3 := Int.emod_lt_of_pos a h0
  have e4 := Int.emod_nonneg a (show n ≠ 0 by omega)
  rcases tdm a n h0 with ⟨c, e1, e2⟩ | ⟨c, e1, e2⟩
  · rw [if_pos c, wrap64_of (by omega) (by omega), e2]
  · rw [if_neg c, e2]
structure MadeS (v : S24) : Prop where
  s : v.f2 = ((v.f2.toNat : Nat) : Int)
  m : Made v.f0 v.f1 v.f2.toNat v.f3
def keyS (v : S24) : List Int := keyL v.f0 v.f1 v.f2.toNat v.f3
theorem keyS_isB {v : S24} (h : MadeS v) : isB (keyS v) := keyL_isB h.m
theorem keyS_len {v : S24} (h : MadeS v) : 1 ≤ (keyS v).length ∧ (keyS v).length ≤ 83 := by
  have := keyB_len h.m
  show 1 ≤ (keyB _ _ _ _).length + 1 ∧ (keyB _ _ _ _).length + 1 ≤ 83
  omega
theorem keyS_eq {v : S24} (h : MadeS v) (k : Nat) (hk : 20 < k) : key_Key.f k v.f0 v.f1 v.f2 v.f3 = some (strOfNums (keyS v)) := by
  have := key_Key_eq h.m k hk
  rw [← h.s] at this
  exact this
theorem rd24 (l : List S24) (i : Nat) (h : i < l.length) : rd_T24 l (i : Int) = l[i] := by
  unfold rd_T24
  rw [Int.toNat_natCast, List.getD_eq_getElem?_getD, List.getElem?_eq_getElem h]; rfl
theorem sizes_oc (c : Int) {a b : ByteArray} (f : Bool → Option Bool) (h1 : f true = some true) (h2 : (a.size : Int) ≤ c → (b.size : Int) ≤ c → f false = some true) : (if (a.size : Int) > c then f true else f (decide ((b.size : Int) > c))) = some true := by
  by_cases h : (a.size : Int) > c
  · rw [if_pos h, h1]
  · rw [if_neg h]
    by_cases h' : (b.size : Int) > c
    · rw [decide_eq_true h', h1]
    · rw [decide_eq_false h']; exact h2 (by omega) (by omega)
end Go.Proofs.Ytjacflmgbmfhcaa.K
namespace Go.Proofs.Ytjacflmgbmfhcaa.K
open Go.RowKit Go.Proofs.YtjacflmgbmfhcaaW.PrintWords Go.Proofs.YtjacflmgbmfhcaaW.PrintLast Go.Proofs.YtjacflmgbmfhcaaW.PrintMore
attribute [local go_sem] max2_int min2_int max_two min_two max_three min_three max_four min_four
attribute [local go_sem high] own_gtr own_leq own_geq own_cell_set Option.map_some fld24_3
set_option linter.unusedVariables false
set_option linter.unusedSimpArgs false
theorem I64_of {x : Int} (h : (Lit.int .i64 x).wf = true) : I64 x := by
  have h1 : IntKind.i64.min = -9223372036854775808 := by decide
  have h2 : IntKind.i64.max = 9223372036854775807 := by decide
  simp only [Lit.wf, Bool.and_eq_true, decide_eq_true_eq, h1, h2] at h
  exact h
end Go.Proofs.Ytjacflmgbmfhcaa.K
namespace Go.Proofs.Ytjacflmgbmfhcaa.Pure
open Go.RowKit Go.Proofs.Ytjacflmgbmfhcaa.K Go.Proofs.YtjacflmgbmfhcaaW.PrintWords Go.Proofs.YtjacflmgbmfhcaaW.PrintLast Go.Proofs.YtjacflmgbmfhcaaW.PrintMore
theorem order_l0 {k1 n1 : Int} {s1 : Nat} {t1 : ByteArray} (m1 : Made k1 n1 s1 t1) (l : List S24) (hl : ∀ v ∈ l, MadeS v) (h2 : l.length = 2) : ∀ (d k i : Nat), 2 * d + 100 < k → i + d = 2 → federationlaw2_KeyOrder.l0 k l (i : Int) k1 n1 (s1 : Int) t1 = some true
  | 0, k, i, hk, hd => by
    obtain ⟨k, rfl⟩ : ∃ m, k = m + 1 := ⟨k - 1, by omega⟩
    simp only [federationlaw2_KeyOrder.l0]
    rw [if_neg (by omega)]
  | d + 1, k, i, hk, hd => by
    obtain ⟨k, rfl⟩ : ∃ m, k = m + 2 := ⟨k - 2, by omega⟩
    have hi : i < l.length := by omega
    have a1 : (i : Int) < 2 := by omega
    have a2 : 0 ≤ (i : Int) := Int.natCast_nonneg _
    have a3 : (i : Int) < (l.length : Int) := by omega
    have a4 : 20 < k + 1 := by omega
    have a5 : 42 < k + 1 := by omega
    have w1 : wrap64 ((i : Int) + 1) = ((i + 1 : Nat) : Int) := by rw [wrap64_of (by omega) (by omega)]; omega
    have ih := order_l0 m1 l hl h2 d k (i + 1) (by omega) (by omega)
    have hv := hl _ (List.getElem_mem hi)
    have m2 := hv.m
    have a6 : ∀ n, ((keyS l[i]).drop n).length ≤ 5000 := fun n => by
      have := (keyS_len hv).2
      rw [List.length_drop]
      exact Nat.le_trans (Nat.sub_le _ _) (Nat.le_trans this (by decide))
    have hz1 := son_size (keyL k1 n1 s1 t1)
    have hz2 := son_size (keyS l[i])
    have B1 := keyL_isB m1
    have B2 := keyS_isB hv
    have ho := ref_Order_eq (k + 1) k1 n1 s1 t1 l[i].f0 l[i].f1 l[i].f2.toNat l[i].f3 a5 (fun e => ⟨(m1.v.d e).sc, (m1.v.d e).lo, (m1.v.d e).hi⟩) (fun e => ⟨(m2.v.d e).sc, (m2.v.d e).lo, (m2.v.d e).hi⟩)
    rw [← hv.s] at ho
    have hls := keyL_less m1 m2
    have heq := keyL_eq_iff m1 m2
    rw [← hv.s] at hls heq
    simp only [federationlaw2_KeyOrder.l0]
    rw [if_pos a1, key_Key_eq m1 (k + 1) a4, Option.bind_some, if_pos a2, if_pos a3, rd24 l i hi, keyS_eq hv (k + 1) a4, Option.bind_some, ho, Option.bind_some, less_son B1 B2]
    have e1 : lessL (keyL k1 n1 s1 t1) (keyS l[i]) = decide (ordB k1 n1 (s1 : Int) t1 l[i].f0 l[i].f1 l[i].f2 l[i].f3 < 0) := hls
    have e2 : ((strOfNums (keyL k1 n1 s1 t1)).toList == (strOfNums (keyS l[i])).toList) = (ordB k1 n1 (s1 : Int) t1 l[i].f0 l[i].f1 l[i].f2 l[i].f3 == 0) := by
      rw [Bool.eq_iff_iff, beq_iff_eq, beq_iff_eq, son_eq B1 B2]
      exact heq
    rw [e1, e2, if_neg (by simp), bne_self_eq_false]
    simp only [federationlaw2_KeyOrder.j2]
    rw [if_neg (by decide), w1]
    by_cases c0 : ordB k1 n1 (s1 : Int) t1 l[i].f0 l[i].f1 l[i].f2 l[i].f3 = 0
    · rw [if_pos c0]; exact ih
    rw [if_neg c0]
    by_cases c1 : ((strOfNums (keyL k1 n1 s1 t1)).size : Int) ≤ ((strOfNums (keyS l[i])).size : Int)
    · rw [if_pos c1, if_pos (Int.natCast_nonneg _)]
      rw [if_neg]
      · exact ih
      · rw [Int.toNat_natCast, son_take, hz1, son_eq (isB_take B2 _) B1]
        intro h
        apply c0
        apply heq.1
        have h3 : keyS l[i] = keyL k1 n1 s1 t1 ++ (keyS l[i]).drop (keyL k1 n1 s1 t1).length := by
          conv => lhs; rw [← List.take_append_drop (keyL k1 n1 s1 t1).length (keyS l[i]), h]
        obtain ⟨q1, q2, q3, q4⟩ := keyL_inj m1 m2 ((keyS l[i]).drop (keyL k1 n1 s1 t1).length) [] (isB_drop B2 _) isB_nil (a6 _) (by simp) (by rw [List.append_nil]; exact h3.symm)
        rw [q1, q2, q3, q4]
    · rw [if_neg c1]; exact ih
theorem KeyOrder : federationlaw2_KeyOrder.Pure := by
  intro a0 a1 a2 a3 a4 a5 w0 w1 w2 w3 z4 z5
  refine ⟨501, ?_⟩
  unfold federationlaw2_KeyOrder.f
  rw [known2_ge (by decide), Option.bind_some, if_pos rfl]
  have hT : federationlaw2_KeyOrder.j0 (500 + 1) a0 a1 a2 a3 a4 a5 true = some true := by
    simp only [federationlaw2_KeyOrder.j0]
    rw [if_pos trivial]
  refine sizes_oc 100 (fun b => federationlaw2_KeyOrder.j0 (500 + 1) a0 a1 a2 a3 a4 a5 b) hT fun y4 y5 => ?_
  show federationlaw2_KeyOrder.j0 (500 + 1) a0 a1 a2 a3 a4 a5 false = some true
  have i0 := I64_of w0; have i1 := I64_of w1; have i2 := I64_of w2; have i3 := I64_of w3
  have b2 := emod_bd a2 40 (by decide)
  have ht : -6 < a0.tmod 6 ∧ a0.tmod 6 < 6 := by
    have h1 := Int.tmod_lt_of_pos a0 (show (0 : Int) < 6 by decide)
    have h2 := Int.tmod_lt_of_pos (-a0) (show (0 : Int) < 6 by decide)
    rw [Int.neg_tmod] at h2
    omega
  obtain ⟨n1, s1, t1, hm1, m1⟩ := Make_eq a0 a1 a4 i0 i1 (by omega)
  obtain ⟨n2, s2, t2, hm2, m2⟩ := Make_eq a2 a3 a5 i2 i3 (by omega)
  obtain ⟨n3, s3, t3, hm3, m3⟩ := Make_eq (a0.tmod 6 + 6 * (a2 % 40)) a3 a5 (by unfold I64; omega) i3 (by omega)
  simp only [federationlaw2_KeyOrder.j0]
  rw [if_neg (by decide), hm1 500 (by decide), Option.bind_some, hm2 500 (by decide), Option.bind_some, within2_eq a2 40 i2 (by decide) (by decide), Option.bind_some, wrap64_of (x := 6 * (a2 % 40)) (by omega) (by omega), wrap64_of (x := a0.tmod 6 + 6 * (a2 % 40)) (by omega) (by omega), hm3 500 (by decide), Option.bind_some]
  dsimp only
  refine order_l0 m1 _ ?_ rfl 2 500 0 (by decide) (by decide)
  intro v hv
  rcases List.mem_cons.1 hv with rfl | hv
  · exact ⟨by simp, by simpa using m2⟩
  · rw [List.mem_singleton.1 hv]
    exact ⟨by simp, by simpa using m3⟩
end Go.Proofs.Ytjacflmgbmfhcaa.Pure
