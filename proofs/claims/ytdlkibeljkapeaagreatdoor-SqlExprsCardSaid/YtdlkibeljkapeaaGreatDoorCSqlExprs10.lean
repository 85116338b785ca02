-- Written by drive.py and pack.py (programs of this proof's own) through the kit's printer; not trusted: Lean checks it.
import Derived.Test.YtdlkibeljkapeaaGreatDoorCSqlExprs6
import Derived.Test.YtdlkibeljkapeaaGreatDoorCSqlExprs9
import Derived.Test.YtdlkibeljkapeaaGreatDoorCSqlExprs8
import Derived.Test.YtdlkibeljkapeaaGreatDoorCSqlExprs7
import Derived.Lib.Strings
import Derived.Test.YtdlkibeljkapeaaGreatDoorCSqlExprs4
import Derived.Test.YtdlkibeljkapeaaGreatDoorCSqlExprs3
namespace Go.Proofs.YtdlkibeljkapeaaGreatDoor.B
open Go.RowKit Go.Proofs.YtdlkibeljkapeaaGreatDoorW.PrintWords Go.Proofs.YtdlkibeljkapeaaGreatDoorW.PrintLast Go.Proofs.YtdlkibeljkapeaaGreatDoorW.PrintMore
attribute [local go_sem] max2_int min2_int max_two min_two max_three min_three max_four min_four
attribute [local go_sem high] own_gtr own_leq own_geq own_cell_set Option.map_some
set_option linter.unusedVariables false
set_option linter.unusedSimpArgs false
def okB (st : ByteArray) : Bool := st.data.toList.all fun b => decide (32 ≤ b.toNat ∧ b.toNat ≤ 126)
theorem bt_data (st : ByteArray) (i : Nat) (h : i < st.data.size) : bt st (i : Int) = ((st.data[i]).toNat : Int) := by
  rw [← bt_at st (i : Int) (by simpa using h)]
  rfl
theorem all_drop (st : ByteArray) (i : Nat) (h : i < st.data.size) : (st.data.toList.drop i).all (fun b => decide (32 ≤ b.toNat ∧ b.toNat ≤ 126)) = (decide (32 ≤ (st.data[i]).toNat ∧ (st.data[i]).toNat ≤ 126) && (st.data.toList.drop (i + 1)).all fun b => decide (32 ≤ b.toNat ∧ b.toNat ≤ 126)) := by
  rw [List.drop_eq_getElem_cons (by simpa using h), List.all_cons]
  simp
theorem val_printable_l0 (st : ByteArray) (hs : st.data.size ≤ 140737488351232) : ∀ (d k i : Nat), d < k → i + d = st.data.size → val_printable.l0 k st (i : Int) = some ((st.data.toList.drop i).all fun b => decide (32 ≤ b.toNat ∧ b.toNat ≤ 126))
  | 0, k, i, hk, h => by
    obtain ⟨k, rfl⟩ : ∃ m, k = m + 1 := ⟨k - 1, by omega⟩
    simp only [val_printable.l0]; rw [if_neg (by have hz : st.size = st.data.size := rfl; omega), List.drop_of_length_le (by have hz : st.data.toList.length = st.data.size := rfl; omega)]; rfl
  | d + 1, k, i, hk, h => by
    obtain ⟨k, rfl⟩ : ∃ m, k = m + 1 := ⟨k - 1, by omega⟩
    simp only [val_printable.l0]
    rw [if_pos (by have hz : st.size = st.data.size := rfl; omega), if_pos (by omega), bt_data st i (by omega), all_drop st i (by omega)]
    by_cases h1 : ((st.data[i]'(by omega)).toNat : Int) < 32
    · rw [if_pos h1, decide_eq_false (by omega)]; rfl
    · rw [if_neg h1]
      by_cases h2 : ((st.data[i]'(by omega)).toNat : Int) > 126
      · rw [if_pos h2, decide_eq_false (by omega)]; rfl
      · rw [if_neg h2, decide_eq_true (by omega), wrap64_of (by omega) (by omega), Bool.true_and]
        exact val_printable_l0 st hs d k (i + 1) (by omega) (by omega)
theorem val_printable_eq (st : ByteArray) (k : Nat) (hs : st.data.size ≤ 140737488351232) (hk : st.data.size < k) : val_printable.f k st = some (okB st) := val_printable_l0 st hs st.data.size k 0 hk (by omega)
def noS (st : ByteArray) : Bool := st.toList == ([] : List UInt8)
def rightB (kd n sc : Int) (st : ByteArray) : Bool :=
  if kd = 0 then n == 0 && (sc == 0 && noS st)
  else if kd = 1 then decide (0 ≤ n ∧ n ≤ 1) && (sc == 0 && noS st)
  else if kd = 2 then sc == 0 && noS st
  else if kd = 3 then decide (-1000000000000000 < n ∧ n < 1000000000000000 ∧ 0 ≤ sc ∧ sc ≤ 6 ∧ (sc = 0 ∨ n % 10 ≠ 0)) && noS st
  else if kd = 4 then decide (n = 0 ∧ sc = 0 ∧ st.data.size ≤ 40) && okB st
  else if kd = 5 then decide (n = 0 ∧ sc = 0 ∧ st.data.size ≤ 40)
  else false
theorem val_Right_eq (k : Nat) (kd n sc : Int) (st : ByteArray) (hk : 42 < k) : val_Right.f k kd n sc st = some (rightB kd n sc st) := by
  obtain ⟨k, rfl⟩ : ∃ m, k = m + 1 := ⟨k - 1, by omega⟩
  have hz : (st.size : Int) = (st.data.size : Int) := rfl
  unfold val_Right.f rightB
  by_cases h0 : kd = 0
  · rw [if_pos h0, if_pos h0]; rfl
  rw [if_neg h0, if_neg h0]
  by_cases h1 : kd = 1
  · rw [if_pos h1, if_pos h1]
    congr 2
    rw [Bool.eq_iff_iff]; simp only [beq_iff_eq, decide_eq_true_eq]; unfold mn mx
    constructor
    · intro h; split at h <;> (try split at h) <;> omega
    · intro h; split <;> (try split) <;> omega
  rw [if_neg h1, if_neg h1]
  by_cases h2 : kd = 2
  · rw [if_pos h2, if_pos h2]; rfl
  rw [if_neg h2, if_neg h2]
  by_cases h3 : kd = 3
  · rw [if_pos h3, if_pos h3]
    have ht := tmod10 n
    by_cases a1 : n ≤ -1000000000000000
    · rw [if_pos a1, decide_eq_false (by omega)]; rfl
    rw [if_neg a1]
    by_cases a2 : n ≥ 1000000000000000
    · rw [if_pos a2, decide_eq_false (by omega)]; rfl
    rw [if_neg a2]
    have hm : (sc == mn (mx sc 0) 6) = decide (0 ≤ sc ∧ sc ≤ 6) := by
      rw [Bool.eq_iff_iff]; simp only [beq_iff_eq, decide_eq_true_eq]; unfold mn mx
      constructor
      · intro h; split at h <;> (try split at h) <;> omega
      · intro h; split <;> (try split) <;> omega
    by_cases a3 : sc > 0
    · rw [if_pos a3]
      by_cases a4 : Int.tmod n 10 = 0
      · rw [if_pos a4, decide_eq_false (by have := ht.1 a4; omega)]; rfl
      · rw [if_neg a4, hm]
        have : n % 10 ≠ 0 := fun e => a4 (ht.2 e)
        by_cases a5 : sc ≤ 6
        · rw [decide_eq_true (by omega), decide_eq_true (by omega)]; rfl
        · rw [decide_eq_false (by omega), decide_eq_false (by omega)]; rfl
    · rw [if_neg a3, hm]
      by_cases a5 : 0 ≤ sc
      · rw [decide_eq_true (by omega), decide_eq_true (by omega)]; rfl
      · rw [decide_eq_false (by omega), decide_eq_false (by omega)]; rfl
  rw [if_neg h3, if_neg h3]
  by_cases h4 : kd = 4
  · rw [if_pos h4, if_pos h4]
    subst h4
    simp only [val_Right.j0, beq_self_eq_true, if_true, Bool.true_and]
    by_cases a1 : (st.size : Int) > 40
    · rw [if_pos a1, decide_eq_false (by omega)]; rfl
    · rw [if_neg a1, val_printable_eq st k (by omega) (by omega)]
      simp only [Option.bind_some]
      cases hb : okB st with
      | false => simp
      | true =>
        simp only [if_true, Bool.and_true]
        congr 1
        rw [Bool.eq_iff_iff]; simp only [Bool.and_eq_true, beq_iff_eq, decide_eq_true_eq]; omega
  rw [if_neg h4, if_neg h4]
  by_cases h5 : kd = 5
  · rw [if_pos h5]
    subst h5
    simp only [val_Right.j0, beq_self_eq_true, if_true, Bool.true_and]
    by_cases a1 : (st.size : Int) > 40
    · rw [if_pos a1, decide_eq_false (by omega)]
    · rw [if_neg a1, if_neg (by decide)]
      congr 1
      rw [Bool.eq_iff_iff]; simp only [Bool.and_eq_true, beq_iff_eq, decide_eq_true_eq]; omega
  · rw [if_neg h5]
    simp only [val_Right.j0, show (kd == 5) = false from by simpa using h5]
    simp
end Go.Proofs.YtdlkibeljkapeaaGreatDoor.B
namespace Go.Proofs.YtdlkibeljkapeaaGreatDoor.B
open Go.RowKit Go.Proofs.YtdlkibeljkapeaaGreatDoorW.PrintWords Go.Proofs.YtdlkibeljkapeaaGreatDoorW.PrintLast Go.Proofs.YtdlkibeljkapeaaGreatDoorW.PrintMore
attribute [local go_sem] max2_int min2_int max_two min_two max_three min_three max_four min_four
attribute [local go_sem high] own_gtr own_leq own_geq own_cell_set Option.map_some
set_option linter.unusedVariables false
set_option linter.unusedSimpArgs false
def I64 (x : Int) : Prop := -9223372036854775808 ≤ x ∧ x ≤ 9223372036854775807
end Go.Proofs.YtdlkibeljkapeaaGreatDoor.B
namespace Go.Proofs.YtdlkibeljkapeaaGreatDoor.B
open Go.RowKit Go.Proofs.YtdlkibeljkapeaaGreatDoorW.PrintWords Go.Proofs.YtdlkibeljkapeaaGreatDoorW.PrintLast Go.Proofs.YtdlkibeljkapeaaGreatDoorW.PrintMore
attribute [local go_sem] max2_int min2_int max_two min_two max_three min_three max_four min_four
attribute [local go_sem high] own_gtr own_leq own_geq own_cell_set Option.map_some
set_option linter.unusedVariables false
set_option linter.unusedSimpArgs false
structure RD (n : Int) (s : Nat) : Prop where
  lo : -1000000000000000 < n
  hi : n < 1000000000000000
  sc : s ≤ 6
  nm : s = 0 ∨ n % 10 ≠ 0
structure RV (kd n : Int) (s : Nat) : Prop where
  i : I64 n
  d : kd = 3 → RD n s
end Go.Proofs.YtdlkibeljkapeaaGreatDoor.B
namespace Go.Proofs.YtdlkibeljkapeaaGreatDoor.B
open Go.RowKit Go.Proofs.YtdlkibeljkapeaaGreatDoorW.PrintWords Go.Proofs.YtdlkibeljkapeaaGreatDoorW.PrintLast Go.Proofs.YtdlkibeljkapeaaGreatDoorW.PrintMore
attribute [local go_sem] max2_int min2_int max_two min_two max_three min_three max_four min_four
attribute [local go_sem high] own_gtr own_leq own_geq own_cell_set Option.map_some
set_option linter.unusedVariables false
set_option linter.unusedSimpArgs false
theorem within_eq (a n : Int) (ha : I64 a) (h0 : 0 < n) (h1 : n ≤ 4611686018427387904) : federationlaw1_within.f a n = some (a % n) := by
  unfold federationlaw1_within.f I64 at *
  rw [if_neg (by omega)]
  have e1 := Int.mul_tdiv_add_tmod a n
  have e2 := Int.mul_ediv_add_emod a n
  have e3 := Int.emod_lt_of_pos a h0
  have e4 := Int.emod_nonneg a (show n ≠ 0 by omega)
  have e5 := Int.tmod_lt_of_pos a h0
  have e6 := Int.tmod_lt_of_pos (-a) h0
  rw [Int.neg_tmod] at e6
  by_cases c : a.tmod n < 0
  · rw [if_pos c, wrap64_of (by omega) (by omega)]
    have := ((Int.ediv_emod_unique (a := a) (r := a.tmod n + n) (q := a.tdiv n - 1) h0).2 ⟨by rw [Int.mul_sub, Int.mul_one]; omega, by omega, by omega⟩).2
    rw [this]
  · rw [if_neg c]
    have := ((Int.ediv_emod_unique (a := a) (r := a.tmod n) (q := a.tdiv n) h0).2 ⟨by omega, by omega, by omega⟩).2
    rw [this]
theorem emod_bd (a n : Int) (h0 : 0 < n) : 0 ≤ a % n ∧ a % n < n := ⟨Int.emod_nonneg a (by omega), Int.emod_lt_of_pos a h0⟩
theorem RV_right {kd n : Int} {s : Nat} {st : ByteArray} (hn : I64 n) (h : rightB kd n (s : Int) st = true) : RV kd n s := by
  refine ⟨hn, fun e => ?_⟩
  subst e
  unfold rightB at h
  rw [if_neg (by decide), if_neg (by decide), if_neg (by decide), if_pos rfl, Bool.and_eq_true, decide_eq_true_eq] at h
  obtain ⟨⟨a, b, c, d, e⟩, _⟩ := h
  exact ⟨a, b, by omega, by omega⟩
theorem noS_empty : noS (⟨#[]⟩ : ByteArray) = true := by decide +kernel
theorem right_RD {n : Int} {s : Nat} (h : RD n s) : rightB 3 n (s : Int) (⟨#[]⟩ : ByteArray) = true := by
  unfold rightB
  rw [if_neg (by decide), if_neg (by decide), if_neg (by decide), if_pos rfl, noS_empty, Bool.and_true, decide_eq_true_eq]
  exact ⟨h.lo, h.hi, by omega, by have := h.sc; omega, by have := h.nm; omega⟩
theorem RD_red (n : Int) (s : Nat) (h0 : -1000000000000000 < n) (h1 : n < 1000000000000000) (hs : s ≤ 6) : RD (red n s).1 (red n s).2 := by
  have a := red_abs s n
  have b := red_scale s n
  have c := red_done s n
  exact ⟨by omega, by omega, by omega, c⟩
theorem mkText_size (st : ByteArray) : (mkText st).data.size ≤ 40 := by
  unfold mkText strOfNums
  simp [conv8L_length]
  omega
theorem mkText_ok (st : ByteArray) : okB (mkText st) = true := by
  unfold okB mkText strOfNums
  simp only [List.all_eq_true, decide_eq_true_eq, List.map_toArray, List.mem_map, conv8L]
  rintro b ⟨x, hx, rfl⟩
  obtain ⟨c, _, rfl⟩ := List.mem_map.1 (List.mem_of_mem_take hx)
  unfold conv8
  have h1 := emod_bd (c.toNat : Int) 95 (by decide)
  generalize (c.toNat : Int) % 95 = z at *
  have : ((32 + z).toNat % 256) = (32 + z).toNat := Nat.mod_eq_of_lt (by omega)
  simp only [UInt8.toNat_ofNat']
  omega
theorem extract_size (st : ByteArray) (j : Nat) : (st.extract 0 j).data.size = min j st.data.size := by
  rw [← Array.length_toList, Lib.extract_data]
  simp
structure Made (kd n : Int) (s : Nat) (st : ByteArray) : Prop where
  r : rightB kd n (s : Int) st = true
  v : RV kd n s
  sz : st.data.size ≤ 40
  k0 : 0 ≤ kd
  k5 : kd ≤ 5
  z : kd ≠ 3 → s = 0
theorem rd6 (a b c d e f : Int) (i : Int) (h0 : 0 ≤ i) (h1 : i < 6) : rd [a, b, c, d, e, f] i = a ∨ rd [a, b, c, d, e, f] i = b ∨ rd [a, b, c, d, e, f] i = c ∨ rd [a, b, c, d, e, f] i = d ∨ rd [a, b, c, d, e, f] i = e ∨ rd [a, b, c, d, e, f] i = f := by
  have : i = 0 ∨ i = 1 ∨ i = 2 ∨ i = 3 ∨ i = 4 ∨ i = 5 := by omega
  rcases this with rfl | rfl | rfl | rfl | rfl | rfl
  · exact Or.inl rfl
  · exact Or.inr (Or.inl rfl)
  · exact Or.inr (Or.inr (Or.inl rfl))
  · exact Or.inr (Or.inr (Or.inr (Or.inl rfl)))
  · exact Or.inr (Or.inr (Or.inr (Or.inr (Or.inl rfl))))
  · exact Or.inr (Or.inr (Or.inr (Or.inr (Or.inr rfl))))
theorem rd8 (a b c d e f g h : Int) (P : Int → Prop) (pa : P a) (pb : P b) (pc : P c) (pd : P d) (pe : P e) (pf : P f) (pg : P g) (ph : P h) (i : Int) (h0 : 0 ≤ i) (h1 : i < 8) : P (rd [a, b, c, d, e, f, g, h] i) := by
  have : i = 0 ∨ i = 1 ∨ i = 2 ∨ i = 3 ∨ i = 4 ∨ i = 5 ∨ i = 6 ∨ i = 7 := by omega
  rcases this with rfl | rfl | rfl | rfl | rfl | rfl | rfl | rfl
  · exact pa
  · exact pb
  · exact pc
  · exact pd
  · exact pe
  · exact pf
  · exact pg
  · exact ph
theorem I64_tdiv (a b : Int) (ha : I64 a) (hb : 2 ≤ b) : I64 (wrap64 (a.tdiv b)) ∧ wrap64 (a.tdiv b) = a.tdiv b := by
  have h := Int.natAbs_tdiv_le_natAbs a b
  have h2 : (a.tdiv b).natAbs ≤ 4611686018427387904 := by
    rw [Int.natAbs_tdiv]
    have h1 : a.natAbs ≤ 9223372036854775808 := by unfold I64 at ha; omega
    exact Nat.le_trans (Nat.div_le_div_left (show 2 ≤ b.natAbs by omega) (by decide)) (by have := Nat.div_le_div_right (c := 2) h1; simpa using this)
  have e : wrap64 (a.tdiv b) = a.tdiv b := wrap64_of (by omega) (by omega)
  rw [e]
  exact ⟨⟨by omega, by omega⟩, rfl⟩
theorem Make_eq (kind n : Int) (st : ByteArray) (hk : I64 kind) (hn : I64 n) (hs : st.size ≤ 140737488351232) :
    ∃ n' s' st', (∀ k, 60 < k → federationlaw1_Make.f k kind n st = some (kind % 6, n', ((s' : Nat) : Int), st')) ∧ Made (kind % 6) n' s' st' := by
  have hk6 := within_eq kind 6 hk (by decide) (by decide)
  have hb := emod_bd kind 6 (by decide)
  have hd := I64_tdiv kind 6 hk (by decide)
  have hd2 := I64_tdiv kind 36 hk (by decide)
  have h0 : I64 0 := ⟨by decide, by decide⟩
  have em : (⟨#[]⟩ : ByteArray).data.size ≤ 40 := by decide
  have c : kind % 6 = 0 ∨ kind % 6 = 1 ∨ kind % 6 = 2 ∨ kind % 6 = 3 ∨ kind % 6 = 4 ∨ kind % 6 = 5 := by omega
  rcases c with c | c | c | c | c | c
  · have hr : rightB (kind % 6) 0 ((0 : Nat) : Int) (⟨#[]⟩ : ByteArray) = true := by rw [c]; decide +kernel
    refine ⟨0, 0, _, fun k _ => ?_, ⟨hr, RV_right h0 hr, em, hb.1, by omega, fun _ => rfl⟩⟩
    unfold federationlaw1_Make.f federationlaw1_Make_p.f
    rw [hk6, c, if_neg (by decide), Option.bind_some, if_neg (by decide), if_neg (by decide), if_neg (by decide), if_neg (by decide), if_neg (by decide)]
    rfl
  · have hw := within_eq n 2 hn (by decide) (by decide)
    have hm := emod_bd n 2 (by decide)
    have hr : rightB (kind % 6) (n % 2) ((0 : Nat) : Int) (⟨#[]⟩ : ByteArray) = true := by
      rw [c]; unfold rightB; rw [if_neg (by decide), if_pos rfl, noS_empty, decide_eq_true (by omega)]; rfl
    refine ⟨n % 2, 0, _, fun k _ => ?_, ⟨hr, RV_right ⟨by omega, by omega⟩ hr, em, hb.1, by omega, fun _ => rfl⟩⟩
    unfold federationlaw1_Make.f federationlaw1_Make_p.f
    rw [hk6, c, if_neg (by decide), Option.bind_some, if_pos rfl, hw, Option.bind_some]
    rfl
  · have hw := within_eq n 100 hn (by decide) (by decide)
    have hm := emod_bd n 100 (by decide)
    have hi := within_eq (wrap64 (Int.tdiv kind 6)) 8 hd.1 (by decide) (by decide)
    have hj := emod_bd (wrap64 (Int.tdiv kind 6)) 8 (by decide)
    generalize hz : wrap64 (Int.tdiv kind 6) % 8 = j at hi hj
    have hrd : I64 (rd [n, 0, 1, -1, 9223372036854775807, -9223372036854775808, wrap64 (n % 100 - 50), 7] j) := by
      rw [wrap64_of (by omega) (by omega)]
      exact rd8 _ _ _ _ _ _ _ _ I64 hn ⟨by decide, by decide⟩ ⟨by decide, by decide⟩ ⟨by decide, by decide⟩ ⟨by decide, by decide⟩ ⟨by decide, by decide⟩ ⟨by omega, by omega⟩ ⟨by decide, by decide⟩ j hj.1 hj.2
    have hr : rightB (kind % 6) (rd [n, 0, 1, -1, 9223372036854775807, -9223372036854775808, wrap64 (n % 100 - 50), 7] j) ((0 : Nat) : Int) (⟨#[]⟩ : ByteArray) = true := by
      rw [c]; unfold rightB; rw [if_neg (by decide), if_neg (by decide), if_pos rfl, noS_empty]; rfl
    refine ⟨_, 0, _, fun k _ => ?_, ⟨hr, RV_right hrd hr, em, hb.1, by omega, fun _ => rfl⟩⟩
    unfold federationlaw1_Make.f federationlaw1_Make_p.f
    rw [hk6, c, if_neg (by decide), Option.bind_some, if_neg (by decide), if_pos rfl, hw, Option.bind_some, Option.bind_some, hi, Option.bind_some, if_pos hj.1, if_pos (by simp; omega)]
    rfl
  · have hw := within_eq n 2000 hn (by decide) (by decide)
    have hm := emod_bd n 2000 (by decide)
    have hw2 := within_eq n 50 hn (by decide) (by decide)
    have hm2 := emod_bd n 50 (by decide)
    have hi := within_eq (wrap64 (Int.tdiv kind 6)) 6 hd.1 (by decide) (by decide)
    have hj := emod_bd (wrap64 (Int.tdiv kind 6)) 6 (by decide)
    have hi2 := within_eq (wrap64 (Int.tdiv kind 36)) 7 hd2.1 (by decide) (by decide)
    have hj2 := emod_bd (wrap64 (Int.tdiv kind 36)) 7 (by decide)
    generalize hz : wrap64 (Int.tdiv kind 6) % 6 = j at hi hj
    generalize hz2 : wrap64 (Int.tdiv kind 36) % 7 = j2 at hi2 hj2
    have ht1 := Int.tmod_lt_of_pos n (show (0 : Int) < 1000000000000000 by decide)
    have ht2 := Int.tmod_lt_of_pos (-n) (show (0 : Int) < 1000000000000000 by decide)
    rw [Int.neg_tmod] at ht2
    have hx : -1000000000000000 < rd [Int.tmod n 1000000000000000, wrap64 (n % 2000 - 1000), 999999999999999, -999999999999999, 1, wrap64 (wrap64 (n % 50 * 1000) - 20000)] j ∧ rd [Int.tmod n 1000000000000000, wrap64 (n % 2000 - 1000), 999999999999999, -999999999999999, 1, wrap64 (wrap64 (n % 50 * 1000) - 20000)] j < 1000000000000000 := by
      have e1 : wrap64 (n % 2000 - 1000) = n % 2000 - 1000 := wrap64_of (by omega) (by omega)
      have e2 : wrap64 (n % 50 * 1000) = n % 50 * 1000 := wrap64_of (by omega) (by omega)
      have e3 : wrap64 (n % 50 * 1000 - 20000) = n % 50 * 1000 - 20000 := wrap64_of (by omega) (by omega)
      rw [e1, e2, e3]
      rcases rd6 (Int.tmod n 1000000000000000) (n % 2000 - 1000) 999999999999999 (-999999999999999) 1 (n % 50 * 1000 - 20000) j hj.1 hj.2 with h | h | h | h | h | h <;> rw [h] <;> omega
    obtain ⟨t, rfl⟩ : ∃ t : Nat, j2 = (t : Int) := ⟨j2.toNat, by omega⟩
    generalize hy : rd [Int.tmod n 1000000000000000, wrap64 (n % 2000 - 1000), 999999999999999, -999999999999999, 1, wrap64 (wrap64 (n % 50 * 1000) - 20000)] j = y at hx
    have hrd := RD_red y t hx.1 hx.2 (by omega)
    have hr := right_RD hrd
    rw [← c] at hr
    refine ⟨(red y t).1, (red y t).2, _, fun k hk => ?_, ⟨hr, RV_right ⟨by have := hrd.lo; omega, by have := hrd.hi; omega⟩ hr, em, hb.1, by omega, fun e => absurd c e⟩⟩
    unfold federationlaw1_Make.f federationlaw1_Make_p.f
    rw [hk6, c, if_neg (by decide), Option.bind_some, if_neg (by decide), if_neg (by decide), if_pos rfl, hw, Option.bind_some, hw2, Option.bind_some, Option.bind_some, hi, Option.bind_some, if_pos hj.1, if_pos (by simp; omega), hi2, Option.bind_some, hy, ref_Norm_eq k t y _ (by omega) (by omega) (by omega) (by omega), Option.bind_some]
  · have hr : rightB (kind % 6) 0 ((0 : Nat) : Int) (mkText st) = true := by
      have h1 := mkText_size st
      have h2 := mkText_ok st
      rw [c]; unfold rightB; rw [if_neg (by decide), if_neg (by decide), if_neg (by decide), if_neg (by decide), if_pos rfl, h2, decide_eq_true (by omega)]; rfl
    refine ⟨0, 0, _, fun k _ => ?_, ⟨hr, RV_right h0 hr, mkText_size st, hb.1, by omega, fun _ => rfl⟩⟩
    unfold federationlaw1_Make.f
    rw [hk6, c, if_pos rfl, if_pos hs]
    rfl
  · have hz : (st.size : Int) = (st.data.size : Int) := rfl
    have hm : mn (st.size : Int) 40 = ((min 40 st.data.size : Nat) : Int) := by unfold mn; split <;> omega
    have hr : rightB (kind % 6) 0 ((0 : Nat) : Int) (st.extract 0 (min 40 st.data.size)) = true := by
      have h1 := extract_size st (min 40 st.data.size)
      rw [c]; unfold rightB; rw [if_neg (by decide), if_neg (by decide), if_neg (by decide), if_neg (by decide), if_neg (by decide), if_pos rfl, decide_eq_true (by omega)]
    refine ⟨0, 0, _, fun k _ => ?_, ⟨hr, RV_right h0 hr, by rw [extract_size]; omega, hb.1, by omega, fun _ => rfl⟩⟩
    unfold federationlaw1_Make.f federationlaw1_Make_p.f
    rw [hk6, c, if_neg (by decide), Option.bind_some, if_neg (by decide), if_neg (by decide), if_neg (by decide), if_neg (by decide), if_pos rfl, hm, if_pos (by omega), if_pos (by omega)]
    rfl
end Go.Proofs.YtdlkibeljkapeaaGreatDoor.B
namespace Go.Proofs.YtdlkibeljkapeaaGreatDoor.Den
open Go Go.RowKit
open Go.Proofs.YtdlkibeljkapeaaGreatDoor.B
theorem makeB_ev (c n : Int) (l : List UInt8) (hc : I64 c) (hn : I64 n) (hs : l.length ≤ 140737488351232) :
    ∃ N S st, Made (c % 6) N S st ∧ Ev PG f_l1_Make [.int .i64 c, .int .i64 n, .str l] (Den.vP (c % 6, N, (S : Nat), st.data.toList)) := by
  obtain ⟨N, S, st, h1, h2⟩ := Make_eq c n ⟨l.toArray⟩ hc hn (by show l.toArray.size ≤ _; simpa using hs)
  refine ⟨N, S, st, h2, Ev.ofCalls (fn_of _ (by kernel_rfl)) fun X w vs a1 a2 a3 => ?_⟩
  obtain ⟨u, v, t, rfl, r1, r2, r3⟩ := vs_three a1 a2
  rw [r1.int_inv, r2.int_inv, r3.str_inv]
  refine (federationlaw1_Make.calls 61 c n ⟨l.toArray⟩ _ _ _ _ w (h1 61 (by decide))).mono ?_
  rintro e w' ⟨he, bel⟩
  exact ⟨⟨_, he, R_val X _ _ _ _⟩, bel⟩
end Go.Proofs.YtdlkibeljkapeaaGreatDoor.Den
namespace Go.Proofs.YtdlkibeljkapeaaGreatDoor.Den
open Go Go.RowKit
end Go.Proofs.YtdlkibeljkapeaaGreatDoor.Den
namespace Go.Proofs.YtdlkibeljkapeaaGreatDoor.B
open Go.RowKit Go.Proofs.YtdlkibeljkapeaaGreatDoorW.PrintWords Go.Proofs.YtdlkibeljkapeaaGreatDoorW.PrintLast Go.Proofs.YtdlkibeljkapeaaGreatDoorW.PrintMore
attribute [local go_sem] max2_int min2_int max_two min_two max_three min_three max_four min_four
attribute [local go_sem high] own_gtr own_leq own_geq own_cell_set Option.map_some
set_option linter.unusedVariables false
set_option linter.unusedSimpArgs false
def sql_sixteen.l0:Nat → ByteArray → List Int → Int → Option (ByteArray)
 | 0,_,_,_=>none
 | k + 1,x0,x3,x4=>if x4 < (x0.size:Int) then (if 0 ≤ x4 then (if 0 ≤ ((bt x0 x4) / 16) then (if ((bt x0 x4) / 16) < 16 then (if 0 ≤ (Go.bits .and .u8 (bt x0 x4) 15) then (if (Go.bits .and .u8 (bt x0 x4) 15) < 16 then ((some (([bt (⟨#[48,49,50,51,52,53,54,55,56,57,97,98,99,100,101,102]⟩:ByteArray) ((bt x0 x4) / 16),bt (⟨#[48,49,50,51,52,53,54,55,56,57,97,98,99,100,101,102]⟩:ByteArray) (Go.bits .and .u8 (bt x0 x4) 15)]:List Int):List Int)).bind fun y101=>(if x3.length + y101.length < 140737488355328 then (sql_sixteen.l0 k x0 (x3 ++ y101) (wrap64 (x4 + 1))) else (none))) else (none)) else (none)) else (none)) else (none)) else (none)) else (some (strOfNums x3))
def sql_sixteen.f (k:Nat) (a0:ByteArray):Option (ByteArray):=sql_sixteen.l0 k a0 ([]:List Int) 0
def sql_sixteen.T5:Bool × List (List Nat × List Nat):=(true,[([],[]),([],[]),([],[]),([1,2],[1,2]),([3],[3]),([4],[4]),([],[]),([],[]),([6,7],[6,7]),([8],[8]),([9],[9]),([5,10],[5,10]),([0,11],[0,11]),([12,12,0,1,2,3,4,5,6,7,8,9,10,11,12],[0,12])])
def sql_sixteen.B5:List Nat:=[0,0,0,6,14,30,0,0,192,448,960,2046,4095,8191]
theorem sql_sixteen.tab5:rtab .any (opsOf Tryz.f53 5) = sql_sixteen.T5:=by kernel_rfl
theorem sql_sixteen.bits5:waitsOk sql_sixteen.T5.2 sql_sixteen.B5 = true:=by kernel_rfl
set_option maxHeartbeats 8000000 in
set_option maxRecDepth 100000 in
theorem sql_sixteen.calls (k:Nat) (a0:ByteArray) (r:ByteArray) (w:World) (h:sql_sixteen.f k a0 = some r) :
  Calls Tryz.prog 53 #[.string a0] w fun e w'=>e = .returned (.string r) ∧ Below w.heap.size w w':=by
 have HB:=z_ (Below.refl w.heap.size w)
 have H:(sql_sixteen.l0 k a0 ([]:List Int) 0) = some r:=h
 clear h
 have H':=z_ H
 clear H
 go_enter Tryz.func53,Tryz.ntmps53
 go_wp2
 go_loopg [3,4] k (fun kq v3 v4 w'=>∃ (x3_1:List Int) (x4_1:Int),v4 = .int .i64 x4_1 ∧ Aside0 (sql_sixteen.l0 kq a0 x3_1 x4_1 = some r) ∧ Aside0 (kq ≤ k) ∧ Aside0 (Kd.R (Kd.int .u8) 5 w' w.heap.size (fun _=>True) v3 x3_1) ∧ Aside0 (Below w.heap.size w w'))
 case atStart=>exact ⟨(([]:List Int)),(0),(by first|rfl|(simp;done)|(simp [*];done)),H',⟨Nat.le_refl _⟩,⟨by first|exact Kd.R_nil _ _ _ _ _|exact Kd.N_nil _ _ _ _ _|exact Kd.V_nil _ _ _ _ _|exact Kd.Q_nil _ _ _ _ _|exact Kd.S_nil _ _ _ _ _⟩,⟨by repeat first|(with_reducible first|exact HB.out|apply zA|apply zN|apply z1)|exact HB.out⟩⟩
 case round =>
  clear H'
  obtain ⟨x3_1,x4_1,rfl,HA,HK1,HO_3,HB⟩:=hrel
  cases gk with
  | zero=>exact absurd HA.out (by simp [sql_sixteen.l0])
  | succ k1 =>
   have H:=HA.out
   clear HA
   simp only [sql_sixteen.l0] at H
   by_cases c2:x4_1 < (a0.size:Int)
   ·rw [if_pos c2] at H
    have c2b0:decide (x4_1 < (a0.size:Int)) = true:=decide_eq_true c2
    clear c2
    by_cases c3:0 ≤ x4_1
    ·rw [if_pos c3] at H
     have c3b0:decide (0 ≤ x4_1) = true:=decide_eq_true c3
     clear c3
     obtain ⟨ji5,hji5⟩:∃ j_:Int,((bt a0 x4_1) / 16) = j_:=⟨_,rfl⟩
     replace H:(if 0 ≤ (ji5) then (if (ji5) < 16 then (if 0 ≤ (Go.bits .and .u8 (bt a0 x4_1) 15) then (if (Go.bits .and .u8 (bt a0 x4_1) 15) < 16 then ((some (([bt (⟨#[48,49,50,51,52,53,54,55,56,57,97,98,99,100,101,102]⟩:ByteArray) (ji5),bt (⟨#[48,49,50,51,52,53,54,55,56,57,97,98,99,100,101,102]⟩:ByteArray) (Go.bits .and .u8 (bt a0 x4_1) 15)]:List Int):List Int)).bind fun y101=>(if x3_1.length + y101.length < 140737488355328 then (sql_sixteen.l0 k1 a0 (x3_1 ++ y101) (wrap64 (x4_1 + 1))) else (none))) else (none)) else (none)) else (none)) else (none)) = some r:=by first|(rw [hji5] at H;exact H)|(simp only [hji5] at H ⊢;exact H)
     by_cases c6:0 ≤ (ji5)
     ·rw [if_pos c6] at H
      have c6b0:decide (0 ≤ (ji5)) = true:=decide_eq_true c6
      clear c6
      by_cases c7:(ji5) < 16
      ·rw [if_pos c7] at H
       have c7b0:decide ((ji5) < 16) = true:=decide_eq_true c7
       clear c7
       by_cases c10:0 ≤ (Go.bits .and .u8 (bt a0 x4_1) 15)
       ·rw [if_pos c10] at H
        have c10b0:decide (0 ≤ (Go.bits .and .u8 (bt a0 x4_1) 15)) = true:=decide_eq_true c10
        clear c10
        by_cases c11:(Go.bits .and .u8 (bt a0 x4_1) 15) < 16
        ·rw [if_pos c11] at H
         have c11b0:decide ((Go.bits .and .u8 (bt a0 x4_1) 15) < 16) = true:=decide_eq_true c11
         clear c11
         obtain ⟨y101,hy101⟩:∃ y_:List Int,y_ = (([bt (⟨#[48,49,50,51,52,53,54,55,56,57,97,98,99,100,101,102]⟩:ByteArray) (ji5),bt (⟨#[48,49,50,51,52,53,54,55,56,57,97,98,99,100,101,102]⟩:ByteArray) (Go.bits .and .u8 (bt a0 x4_1) 15)]:List Int)):=⟨_,rfl⟩
         replace H:(if x3_1.length + y101.length < 140737488355328 then (sql_sixteen.l0 k1 a0 (x3_1 ++ y101) (wrap64 (x4_1 + 1))) else (none)) = some r:=by first|(rw [hy101];with_reducible exact H)|(have H2_:=(Option.bind_some _ _).symm.trans H;rw [hy101];with_reducible exact H2_)|(have H2_:=(Option.bind_some _ _).symm.trans H;with_reducible exact H2_)|with_reducible exact H|(rw [hy101];exact H)|exact H
         have Ny101:=z_ hy101
         clear hy101
         by_cases c13:x3_1.length + y101.length < 140737488355328
         ·rw [if_pos c13] at H
          have LMc13:=z_ c13
          clear c13
          obtain ⟨y104,hy104⟩:∃ y_:List Int,y_ = (x3_1 ++ y101):=⟨_,rfl⟩
          replace H:(sql_sixteen.l0 k1 a0 y104 (wrap64 (x4_1 + 1))) = some r:=by first|(rw [hy104];with_reducible exact H)|(have H2_:=(Option.bind_some _ _).symm.trans H;rw [hy104];with_reducible exact H2_)|(have H2_:=(Option.bind_some _ _).symm.trans H;with_reducible exact H2_)|with_reducible exact H|(rw [hy104];exact H)|exact H
          have Ny104:=z_ hy104
          clear hy104
          have H':=z_ H
          clear H
          try go_wp2
          have n0_:=z_ (Kd.R_drew HO_3.out)
          have n1_:=z_ (z1 HB.out)
          clear HO_3
          clear HB
          have HO_3:=n0_
          have HB:=n1_
          clear n0_ n1_
          have p4:0 ≤ (x4_1:Int):=of_decide_eq_true (by first|(with_reducible assumption)|assumption)
          have q4:x4_1 < (a0.size:Int):=of_decide_eq_true (by first|(with_reducible assumption)|assumption)
          have hx4:=bt_at a0 x4_1
          replace p4:=eq_true p4
          replace q4:=eq_true q4
          have p8:0 ≤ ((ji5):Int):=of_decide_eq_true (by first|(with_reducible assumption)|assumption)
          have q8:(ji5) < (16:Int):=of_decide_eq_true (by first|(with_reducible assumption)|assumption)
          have hx8:=bt_at (⟨#[48,49,50,51,52,53,54,55,56,57,97,98,99,100,101,102]⟩:ByteArray) (ji5)
          replace p8:=eq_true p8
          replace q8:=eq_true q8
          have p9:0 ≤ (x4_1:Int):=of_decide_eq_true (by first|(with_reducible assumption)|assumption)
          have q9:x4_1 < (a0.size:Int):=of_decide_eq_true (by first|(with_reducible assumption)|assumption)
          have hx9:=bt_at a0 x4_1
          replace p9:=eq_true p9
          replace q9:=eq_true q9
          have p12:0 ≤ ((Go.bits .and .u8 (bt a0 x4_1) 15):Int):=of_decide_eq_true (by first|(with_reducible assumption)|assumption)
          have q12:(Go.bits .and .u8 (bt a0 x4_1) 15) < (16:Int):=of_decide_eq_true (by first|(with_reducible assumption)|assumption)
          have hx12:=bt_at (⟨#[48,49,50,51,52,53,54,55,56,57,97,98,99,100,101,102]⟩:ByteArray) (Go.bits .and .u8 (bt a0 x4_1) 15)
          replace p12:=eq_true p12
          replace q12:=eq_true q12
          refine start_ (n:=14) (S:=fun w'=>True) (ds:=[]) #[false,false,false,false,false,false,false,false,false,false,false,false,false,false] (by kernel_rfl) rfl rfl trivial (fun hHeld=>?_);refine with_tabW sql_sixteen.tab5 sql_sixteen.bits5 (fun HT_ HW_=>?_)
          generalize wr.drew = w14 at HO_3 HB hHeld ⊢
          refine pure_ (i:=0) (N:=some 11) (v:=?_) (a':=?_) #[true,false,false,false,false,false,false,false,false,false,false,false,false,false] rfl rfl (any_of HT_.out (by kernel_rfl)) (fun _ _ _ h=>h) (Or.inl ⟨by rfl,?_⟩) ?_ ?_
          rotate_left
          ·intro w'
           go_simp
           with_reducible rfl
          rotate_left
          ·simp only [Act.put,List.setIfInBounds_toArray,List.set_cons_zero,List.set_cons_succ,i64_w,i32_w]
           rfl
          refine pure_ (i:=1) (N:=some 12) (v:=?_) (a':=?_) #[true,true,false,false,false,false,false,false,false,false,false,false,false,false] rfl rfl (any_of HT_.out (by kernel_rfl)) (fun _ _ _ h=>h) (Or.inl ⟨by rfl,?_⟩) ?_ ?_
          rotate_left
          ·intro w'
           go_simp
           with_reducible rfl
          rotate_left
          ·simp only [Act.put,List.setIfInBounds_toArray,List.set_cons_zero,List.set_cons_succ,i64_w,i32_w]
           rfl
          refine pure_ (i:=2) (N:=some 13) (v:=?_) (a':=?_) #[true,true,true,false,false,false,false,false,false,false,false,false,false,false] rfl rfl (any_of HT_.out (by kernel_rfl)) (fun _ _ _ h=>h) (Or.inl ⟨by rfl,?_⟩) ?_ ?_
          rotate_left
          ·intro w'
           go_simp
           with_reducible rfl
          rotate_left
          ·simp only [Act.put,List.setIfInBounds_toArray,List.set_cons_zero,List.set_cons_succ,i64_w,i32_w]
           rfl
          refine pure_ (i:=6) (N:=some 17) (v:=?_) (a':=?_) #[true,true,true,false,false,false,true,false,false,false,false,false,false,false] rfl rfl (any_of HT_.out (by kernel_rfl)) (fun _ _ _ h=>h) (Or.inl ⟨by rfl,?_⟩) ?_ ?_
          rotate_left
          ·intro w'
           go_simp
           with_reducible rfl
          rotate_left
          ·simp only [Act.put,List.setIfInBounds_toArray,List.set_cons_zero,List.set_cons_succ,i64_w,i32_w]
           rfl
          refine pure_ (i:=7) (N:=some 18) (v:=?_) (a':=?_) #[true,true,true,false,false,false,true,true,false,false,false,false,false,false] rfl rfl (any_of HT_.out (by kernel_rfl)) (fun _ _ _ h=>h) (Or.inl ⟨by rfl,?_⟩) ?_ ?_
          rotate_left
          ·intro w'
           go_simp
           with_reducible rfl
          rotate_left
          ·simp only [Act.put,List.setIfInBounds_toArray,List.set_cons_zero,List.set_cons_succ,i64_w,i32_w]
           rfl
          refine take_ (i:=3) (N:=some 14) (v:=?_) (a':=?_) #[true,true,true,true,false,false,true,true,false,false,false,false,false,false] rfl rfl (take_ofW HT_.out HW_.out (by kernel_rfl)) (fun _ _ _ h=>h) (Or.inl ⟨by rfl,?_⟩) hHeld ?_ ?_
          rotate_left
          ·intro w' _
           go_simp
           with_reducible rfl
          rotate_left
          ·simp only [Act.put,List.setIfInBounds_toArray,List.set_cons_zero,List.set_cons_succ,i64_w,i32_w]
           rfl
          refine pure_ (i:=4) (N:=some 15) (v:=?_) (a':=?_) #[true,true,true,true,true,false,true,true,false,false,false,false,false,false] rfl rfl (any_of HT_.out (by kernel_rfl)) (fun _ _ _ h=>h) (Or.inl ⟨by rfl,?_⟩) ?_ ?_
          rotate_left
          ·intro w'
           go_simp
           with_reducible rfl
          rotate_left
          ·simp only [Act.put,List.setIfInBounds_toArray,List.set_cons_zero,List.set_cons_succ,i64_w,i32_w]
           rfl
          refine take_ (i:=5) (N:=some 16) (v:=?_) (a':=?_) #[true,true,true,true,true,true,true,true,false,false,false,false,false,false] rfl rfl (take_ofW HT_.out HW_.out (by kernel_rfl)) (fun _ _ _ h=>h) (Or.inl ⟨by rfl,?_⟩) hHeld ?_ ?_
          rotate_left
          ·intro w' _
           go_simp
           with_reducible rfl
          rotate_left
          ·simp only [Act.put,List.setIfInBounds_toArray,List.set_cons_zero,List.set_cons_succ,i64_w,i32_w]
           rfl
          refine take_ (i:=8) (N:=some 19) (v:=?_) (a':=?_) #[true,true,true,true,true,true,true,true,true,false,false,false,false,false] rfl rfl (take_ofW HT_.out HW_.out (by kernel_rfl)) (fun _ _ _ h=>h) (Or.inl ⟨by rfl,?_⟩) hHeld ?_ ?_
          rotate_left
          ·intro w' _
           go_simp
           with_reducible rfl
          rotate_left
          ·simp only [Act.put,List.setIfInBounds_toArray,List.set_cons_zero,List.set_cons_succ,i64_w,i32_w]
           rfl
          refine pure_ (i:=9) (N:=some 20) (v:=?_) (a':=?_) #[true,true,true,true,true,true,true,true,true,true,false,false,false,false] rfl rfl (any_of HT_.out (by kernel_rfl)) (fun _ _ _ h=>h) (Or.inl ⟨by rfl,?_⟩) ?_ ?_
          rotate_left
          ·intro w'
           go_simp
           with_reducible rfl
          rotate_left
          ·simp only [Act.put,List.setIfInBounds_toArray,List.set_cons_zero,List.set_cons_succ,i64_w,i32_w]
           rfl
          refine take_ (i:=10) (N:=some 21) (v:=?_) (a':=?_) #[true,true,true,true,true,true,true,true,true,true,true,false,false,false] rfl rfl (take_ofW HT_.out HW_.out (by kernel_rfl)) (fun _ _ _ h=>h) (Or.inl ⟨by rfl,?_⟩) hHeld ?_ ?_
          rotate_left
          ·intro w' _
           go_simp
           with_reducible rfl
          rotate_left
          ·simp only [Act.put,List.setIfInBounds_toArray,List.set_cons_zero,List.set_cons_succ,i64_w,i32_w]
           rfl
          refine one_ (i:=11) (N:=some 22) #[true,true,true,true,true,true,true,true,true,true,true,true,false,false] rfl rfl (one_of HT_.out (by kernel_rfl)) (by decide) (fun K hK=>?_)
          refine Kd.R_lit_step (Kd.int .u8) _ 5 ?hg (N:=22) ?hd (xs:=([bt (⟨#[48,49,50,51,52,53,54,55,56,57,97,98,99,100,101,102]⟩:ByteArray) (ji5),bt (⟨#[48,49,50,51,52,53,54,55,56,57,97,98,99,100,101,102]⟩:ByteArray) (Go.bits .and .u8 (bt a0 x4_1) 15)]:List Int)) (inner:=[.int .u8 (bt (⟨#[48,49,50,51,52,53,54,55,56,57,97,98,99,100,101,102]⟩:ByteArray) (ji5)), .int .u8 (bt (⟨#[48,49,50,51,52,53,54,55,56,57,97,98,99,100,101,102]⟩:ByteArray) (Go.bits .and .u8 (bt a0 x4_1) 15))]) (ok:=fun _=>True) (okp:=fun _=>True) ?hr ?hp (fun _ hk=>hk) trivial (Below.refl _ _) (Nat.le_refl _) (by simp) ?_;(case hd=>rfl);(case hg=>rfl);(case hr=>first|(go_simp;done)|(go_simp;rfl));(case hp=>exact (Reps.one (show Kd.M (Kd.int .u8) _ _ _ (bt (⟨#[48,49,50,51,52,53,54,55,56,57,97,98,99,100,101,102]⟩:ByteArray) (ji5)) [.int .u8 (bt (⟨#[48,49,50,51,52,53,54,55,56,57,97,98,99,100,101,102]⟩:ByteArray) (ji5))] from rfl) (Reps.one (show Kd.M (Kd.int .u8) _ _ _ (bt (⟨#[48,49,50,51,52,53,54,55,56,57,97,98,99,100,101,102]⟩:ByteArray) (Go.bits .and .u8 (bt a0 x4_1) 15)) [.int .u8 (bt (⟨#[48,49,50,51,52,53,54,55,56,57,97,98,99,100,101,102]⟩:ByteArray) (Go.bits .and .u8 (bt a0 x4_1) 15))] from rfl) (Reps.none _ _))))
          intro v102 w15 ho16 hb hg_ hnew_
          clear hg_ hnew_
          (first|rw [← Ny101.out] at ho16|(simp only [Int.reduceToNat] at ho16;rw [← Ny101.out] at ho16))
          have n0_:=z_ (Kd.R_elder' (by (with_reducible repeat (first|apply Kd.R_alloc|apply Kd.R_drewN|apply Kd.R_drew));exact HO_3.out) (Kd.R_base ho16) hb)
          have n1_:=z_ (Kd.R_lower (Kd.R_new' ho16 (Kd.R_lt (by (with_reducible repeat (first|apply Kd.R_alloc|apply Kd.R_drewN|apply Kd.R_drew));exact HO_3.out))) (zBs (by repeat first|(with_reducible first|exact HB.out|apply zA|apply zN|apply z1)|exact HB.out)))
          have n2_:=z_ (below_step (by repeat first|(with_reducible first|exact HB.out|apply zA|apply zN|apply z1)|exact HB.out) hb)
          clear HO_3
          clear HB
          have HO_3:=n0_
          have HO103:=n1_
          have HB:=n2_
          clear n0_ n1_ n2_
          clear hb ho16
          obtain ⟨Ao18,co18,eo18⟩:=Kd.R_slice HO103.out
          (first|subst eo18|(injection eo18 with f1_ f2_ f3_;have f4_:=f1_.symm;have f5_:=f3_.symm;clear f1_ f2_ f3_;subst f4_;subst f5_))
          refine hK.out _ _ trivial (fun hHeld=>?_)
          clear hK K
          refine norm_ (a':=?_) ?_ ?_
          rotate_left
          ·show Act.put _ (some 22) _ = _
           simp only [Act.put,List.setIfInBounds_toArray,List.set_cons_zero,List.set_cons_succ,i64_w,i32_w]
           rfl
          refine one_ (i:=12) (N:=some 23) #[true,true,true,true,true,true,true,true,true,true,true,true,true,false] rfl rfl (one_of HT_.out (by kernel_rfl)) (by decide) (fun K hK=>?_)
          refine Kd.R_append_rows_step (Kd.int .u8) (w0:=w) w.heap.size (by rfl) (.tmp 11) (.tmp 22) 62 5 (.int .u8 0) 1 rfl Tryz.underlying62 info5 rfl (by decide) (by omega) u3 x3_1 y101 _ _ _ (fun k_=>some k_ ≠ (.slice Ao18 y101.length co18:Value).ownBlock) (fun _=>False) rfl rfl ?aO ?aR (fun _ _ h=>h) (fun _ h=>h.elim) ?aF ?aB ?aS ?aL ?_
          (case aR=>repeat (first|exact (Kd.R_reads' HO103.out).2.2|(with_reducible refine Kd.C_alloc ?_ _)|(with_reducible refine Kd.C_drewN ?_ _)|(with_reducible refine Kd.C_drew ?_)))
          (case aB=>exact (by repeat first|(with_reducible first|exact HB.out|apply zA|apply zN|apply z1)|exact HB.out))
          (case aF=>exact (fun k_ hk=>Kd.fresh' (Kd.R_lt (by (with_reducible repeat (first|apply Kd.R_alloc|apply Kd.R_drewN|apply Kd.R_drew));exact HO103.out)) k_ hk))
          (case aO=>exact (by (with_reducible repeat (first|apply Kd.R_alloc|apply Kd.R_drewN|apply Kd.R_drew));exact Kd.R_mono HO_3.out (fun _ hk=>hk.2)))
          (case aS=>exact (zBs (by repeat first|(with_reducible first|exact HB.out|apply zA|apply zN|apply z1)|exact HB.out)))
          (case aL=>have:=LMc13.out;omega)
          intro v105 w17 ho hb hg hat
          rw [← Ny104.out] at ho
          have n0_:=z_ (Kd.R_after (ok:=(fun _=>True)) (by (with_reducible repeat (first|apply Kd.R_alloc|apply Kd.R_drewN|apply Kd.R_drew));exact HO103.out) hg hat)
          have n1_:=z_ (hb)
          have n2_:=z_ (ho)
          clear HO103
          clear HB
          clear HO_3
          have HO103:=n0_
          have HB:=n1_
          have HO106:=n2_
          clear n0_ n1_ n2_
          clear ho hb hg hat
          refine hK.out _ _ trivial (fun hHeld=>?_)
          clear hK K
          refine norm_ (a':=?_) ?_ ?_
          rotate_left
          ·show Act.put _ (some 23) _ = _
           simp only [Act.put,List.setIfInBounds_toArray,List.set_cons_zero,List.set_cons_succ,i64_w,i32_w]
           rfl
          refine pure_ (i:=13) (N:=some 3) (v:=?_) (a':=?_) #[true,true,true,true,true,true,true,true,true,true,true,true,true,true] rfl rfl (any_of HT_.out (by kernel_rfl)) (fun _ _ _ h=>h) (Or.inl ⟨by rfl,?_⟩) ?_ ?_
          rotate_left
          ·intro w'
           go_simp
           with_reducible rfl
          rotate_left
          ·simp only [Act.put,List.setIfInBounds_toArray,List.set_cons_zero,List.set_cons_succ,i64_w,i32_w]
           rfl
          refine done_ (done_of HT_.out (by kernel_rfl)) ?_
          try go_wp2
          go_roundg k1
          case measure=>have:=HK1.out;omega
          case rel=>exact ⟨(y104),(wrap64 (x4_1 + 1)),(by first|rfl|(simp;done)|(simp [*];done)),(by first|with_reducible exact H'|(rw [hji5];exact H')|exact H'),⟨by have:=HK1.out;omega⟩,⟨by (with_reducible repeat (first|apply Kd.R_alloc|apply Kd.R_drewN|apply Kd.R_drew));exact Kd.R_mono HO106.out (fun _ hk=>trivial)⟩,⟨by repeat first|(with_reducible first|exact HB.out|apply zA|apply zN|apply z1)|exact HB.out⟩⟩
         ·rw [if_neg c13] at H
          exact absurd H (by simp)
        ·rw [if_neg c11] at H
         exact absurd H (by simp)
       ·rw [if_neg c10] at H
        exact absurd H (by simp)
      ·rw [if_neg c7] at H
       exact absurd H (by simp)
     ·rw [if_neg c6] at H
      exact absurd H (by simp)
    ·rw [if_neg c3] at H
     exact absurd H (by simp)
   ·rw [if_neg c2] at H
    have c2b0:decide (x4_1 < (a0.size:Int)) = false:=decide_eq_false c2
    clear c2
    obtain rfl:=Option.some.inj H
    have hcv19:=own_string (P:=Tryz.prog) Tryz.underlying62 Tryz.underlying5 Tryz.underlying9 (Kd.own_of_R HO_3.out)
    go_wp2
    go_ret
    exact ⟨by first|rfl|(simp [errW_none,errW_some] <;> rfl)|(simp [*,errW_none,errW_some] <;> rfl),by repeat first|(with_reducible first|exact HB.out|apply zA|apply zN|apply z1)|exact HB.out⟩
end Go.Proofs.YtdlkibeljkapeaaGreatDoor.B
namespace Go.Proofs.YtdlkibeljkapeaaGreatDoor.B
open Go.RowKit Go.Proofs.YtdlkibeljkapeaaGreatDoorW.PrintWords Go.Proofs.YtdlkibeljkapeaaGreatDoorW.PrintLast Go.Proofs.YtdlkibeljkapeaaGreatDoorW.PrintMore
attribute [local go_sem] max2_int min2_int max_two min_two max_three min_three max_four min_four
attribute [local go_sem high] own_gtr own_leq own_geq own_cell_set Option.map_some
set_option linter.unusedVariables false
set_option linter.unusedSimpArgs false
def sql_digit.f (a0:Int):Option (Bool):=if a0 ≥ 48 then (some (decide (a0 ≤ 57))) else (some false)
set_option maxHeartbeats 8000000 in
set_option maxRecDepth 100000 in
theorem sql_digit.calls (a0:Int) (r:Bool) (w:World) (h:sql_digit.f a0 = some r) :
  Calls Tryz.prog 106 #[.int .u8 a0] w fun e w'=>e = .returned (.bool r) ∧ Drawn0 w w':=by
 have H:(if a0 ≥ 48 then (some (decide (a0 ≤ 57))) else (some false)) = some r:=h
 clear h
 by_cases c2:a0 ≥ 48
 ·rw [if_pos c2] at H
  have c2b0:decide (48 ≤ a0) = true:=decide_eq_true c2
  clear c2
  obtain rfl:=Option.some.inj H
  go_enter Tryz.func106,Tryz.ntmps106
  go_wp2
  go_ret
  exact ⟨by first|rfl|(simp;done)|(simp [*];done),by repeat (first|exact Drawn0.refl _|apply Drawn0.step)⟩
 ·rw [if_neg c2] at H
  have c2b0:decide (48 ≤ a0) = false:=decide_eq_false c2
  clear c2
  obtain rfl:=Option.some.inj H
  go_enter Tryz.func106,Tryz.ntmps106
  go_wp2
  go_ret
  exact ⟨by first|rfl|(simp;done)|(simp [*];done),by repeat (first|exact Drawn0.refl _|apply Drawn0.step)⟩
end Go.Proofs.YtdlkibeljkapeaaGreatDoor.B
namespace Go.Proofs.YtdlkibeljkapeaaGreatDoor.B
open Go.RowKit Go.Proofs.YtdlkibeljkapeaaGreatDoorW.PrintWords Go.Proofs.YtdlkibeljkapeaaGreatDoorW.PrintLast Go.Proofs.YtdlkibeljkapeaaGreatDoorW.PrintMore
attribute [local go_sem] max2_int min2_int max_two min_two max_three min_three max_four min_four
attribute [local go_sem high] own_gtr own_leq own_geq own_cell_set Option.map_some
set_option linter.unusedVariables false
set_option linter.unusedSimpArgs false
def sql_nibble.f (a0:Int):Option (Int):=(sql_digit.f a0).bind fun t101=>(if t101 = true then (some ((a0 - 48) % 256)) else (some ((((a0 - 97) % 256) + 10) % 256)))
set_option maxHeartbeats 8000000 in
set_option maxRecDepth 100000 in
theorem sql_nibble.calls (a0:Int) (r:Int) (w:World) (h:sql_nibble.f a0 = some r) :
  Calls Tryz.prog 128 #[.int .u8 a0] w fun e w'=>e = .returned (.int .u8 r) ∧ Drawn0 w w':=by
 have H:((sql_digit.f a0).bind fun t101=>(if t101 = true then (some ((a0 - 48) % 256)) else (some ((((a0 - 97) % 256) + 10) % 256)))) = some r:=h
 clear h
 replace H:=Option.bind_eq_some_iff.mp H
 obtain ⟨t101,A20,H⟩:=H
 replace H:(if t101 = true then (some ((a0 - 48) % 256)) else (some ((((a0 - 97) % 256) + 10) % 256))) = some r:=H
 have A2:=z_ A20
 clear A20
 by_cases c3:t101 = true
 ·subst c3
  have H1:(some ((a0 - 48) % 256)) = some r:=by rw [if_pos rfl] at H;exact H
  clear H
  have H:=H1
  clear H1
  obtain rfl:=Option.some.inj H
  go_enter Tryz.func128,Tryz.ntmps128
  go_wp2_with (first|((with_reducible refine gate_callee (f:=106) rfl ?_);refine goesL_ (some 4) rfl rfl Tryz.func106 (by kernel_rfl) rfl #[.int .u8 a0] rfl (by (try simp only [List.map_toArray,List.map_cons,List.map_nil]);first|done|rfl|(simp only [List.length_drop,List.length_take];rfl)) ?_;(with_reducible refine (sql_digit.calls a0 true _ A2.out).mono ?_);rintro e w' ⟨rfl,⟨nd,rfl⟩⟩;refine ⟨_,rfl,?_⟩))
  go_ret
  exact ⟨by first|rfl|(simp;done)|(simp [*];done),by repeat (first|exact Drawn0.refl _|apply Drawn0.step)⟩
 ·replace c3:=Bool.eq_false_iff.mpr c3
  subst c3
  have H1:(some ((((a0 - 97) % 256) + 10) % 256)) = some r:=by rw [if_neg (show ¬ (false = true) by decide)] at H;exact H
  clear H
  have H:=H1
  clear H1
  obtain rfl:=Option.some.inj H
  go_enter Tryz.func128,Tryz.ntmps128
  go_wp2_with (first|((with_reducible refine gate_callee (f:=106) rfl ?_);refine goesL_ (some 4) rfl rfl Tryz.func106 (by kernel_rfl) rfl #[.int .u8 a0] rfl (by (try simp only [List.map_toArray,List.map_cons,List.map_nil]);first|done|rfl|(simp only [List.length_drop,List.length_take];rfl)) ?_;(with_reducible refine (sql_digit.calls a0 false _ A2.out).mono ?_);rintro e w' ⟨rfl,⟨nd,rfl⟩⟩;refine ⟨_,rfl,?_⟩))
  go_ret
  exact ⟨by first|rfl|(simp;done)|(simp [*];done),by repeat (first|exact Drawn0.refl _|apply Drawn0.step)⟩
end Go.Proofs.YtdlkibeljkapeaaGreatDoor.B
namespace Go.Proofs.YtdlkibeljkapeaaGreatDoor.B
open Go.RowKit Go.Proofs.YtdlkibeljkapeaaGreatDoorW.PrintWords Go.Proofs.YtdlkibeljkapeaaGreatDoorW.PrintLast Go.Proofs.YtdlkibeljkapeaaGreatDoorW.PrintMore
attribute [local go_sem] max2_int min2_int max_two min_two max_three min_three max_four min_four
attribute [local go_sem high] own_gtr own_leq own_geq own_cell_set Option.map_some
set_option linter.unusedVariables false
set_option linter.unusedSimpArgs false
def sql_literal.f (k:Nat) (a0_0:Int) (a0_1:Int) (a0_2:ByteArray) (a0_3:Int) (a0_4:Int) (a0_5:Int) (a0_6:ByteArray) (a0_7:Int) (a1_0:Int) (a1_1:Int) (a1_2:Int) (a1_3:ByteArray):Option (Int × Int × ByteArray × Int × Int × Int × ByteArray × Int):=(val_Right.f k a1_0 a1_1 a1_2 a1_3).bind fun t104=>(if t104 = true then (some (4,a0_1,a0_2,a1_0,a1_1,a1_2,a1_3,a0_7)) else (some (4,a0_1,a0_2,a1_0,a1_1,a1_2,a1_3,11)))
set_option maxHeartbeats 8000000 in
set_option maxRecDepth 100000 in
theorem sql_literal.calls (k:Nat) (a0_0:Int) (a0_1:Int) (a0_2:ByteArray) (a0_3:Int) (a0_4:Int) (a0_5:Int) (a0_6:ByteArray) (a0_7:Int) (a1_0:Int) (a1_1:Int) (a1_2:Int) (a1_3:ByteArray) (r1:Int) (r2:Int) (r3:ByteArray) (r4:Int) (r5:Int) (r6:Int) (r7:ByteArray) (r8:Int) (w:World) (h:sql_literal.f k a0_0 a0_1 a0_2 a0_3 a0_4 a0_5 a0_6 a0_7 a1_0 a1_1 a1_2 a1_3 = some (r1,r2,r3,r4,r5,r6,r7,r8)) :
  Calls Tryz.prog 129 #[.agg #[.int .i64 a0_0, .int .i64 a0_1, .string a0_2, .int .i64 a0_3, .int .i64 a0_4, .int .i64 a0_5, .string a0_6, .int .i64 a0_7], .agg #[.int .i64 a1_0, .int .i64 a1_1, .int .i64 a1_2, .string a1_3]] w fun e w'=>e = .returned (.agg #[.int .i64 r1, .int .i64 r2, .string r3, .int .i64 r4, .int .i64 r5, .int .i64 r6, .string r7, .int .i64 r8]) ∧ Below w.heap.size w w':=by
 have hu85:=Tryz.underlying85
 have hu28:=Tryz.underlying28
 have HB:=z_ (Below.refl w.heap.size w)
 have H:((val_Right.f k a1_0 a1_1 a1_2 a1_3).bind fun t104=>(if t104 = true then (some (4,a0_1,a0_2,a1_0,a1_1,a1_2,a1_3,a0_7)) else (some (4,a0_1,a0_2,a1_0,a1_1,a1_2,a1_3,11)))) = some (r1,r2,r3,r4,r5,r6,r7,r8):=h
 clear h
 replace H:=Option.bind_eq_some_iff.mp H
 obtain ⟨t104,A30,H⟩:=H
 replace H:(if t104 = true then (some (4,a0_1,a0_2,a1_0,a1_1,a1_2,a1_3,a0_7)) else (some (4,a0_1,a0_2,a1_0,a1_1,a1_2,a1_3,11))) = some (r1,r2,r3,r4,r5,r6,r7,r8):=H
 have A3:=z_ A30
 clear A30
 by_cases c4:t104 = true
 ·subst c4
  have H1:(some (4,a0_1,a0_2,a1_0,a1_1,a1_2,a1_3,a0_7)) = some (r1,r2,r3,r4,r5,r6,r7,r8):=by rw [if_pos rfl] at H;exact H
  clear H
  have H:=H1
  clear H1
  simp only [Option.some.injEq,Prod.mk.injEq] at H
  obtain ⟨rfl,rfl,rfl,rfl,rfl,rfl,rfl,rfl⟩:=H
  go_enter Tryz.func129,Tryz.ntmps129
  try go_wp2_with (first|((with_reducible refine gate_dst (N:=2) rfl ?_);refine box_event ?hg (N:=2) ?hd (cs:=#[.int .i64 a0_0, .int .i64 a0_1, .string a0_2, .int .i64 a0_3, .int .i64 a0_4, .int .i64 a0_5, .string a0_6, .int .i64 a0_7]) (t:=85) ?hr ?_;(case hd=>rfl);(case hg=>rfl);(case hr=>first|(go_simp;done)|(go_simp;rfl));intro gb101 hg w5 hbox hb;have n0_:=z_ (below_step (by repeat first|(with_reducible first|exact HB.out|apply zA|apply zN|apply z1)|exact HB.out) hb);have n1_:=z_ (hbox);have n2_:=z_ ((by rw [hg];exact (zBs (by repeat first|(with_reducible first|exact HB.out|apply zA|apply zN|apply z1)|exact HB.out)):w.heap.size ≤ gb101));have n3_:=z_ ((by rw [hg];exact (zBs (by repeat first|(with_reducible first|exact HB.out|apply zA|apply zN|apply z1)|exact HB.out)):w.heap.size ≤ gb101));clear HB;have HB:=n0_;have BK101:=n1_;have GW101:=n2_;have GE101:=n3_;clear n0_ n1_ n2_ n3_;clear hb hbox hg)|((with_reducible refine gate_dst (N:=3) rfl ?_);refine box_event ?hg (N:=3) ?hd (cs:=#[.int .i64 a1_0, .int .i64 a1_1, .int .i64 a1_2, .string a1_3]) (t:=28) ?hr ?_;(case hd=>rfl);(case hg=>rfl);(case hr=>first|(go_simp;done)|(go_simp;rfl));intro gb102 hg w6 hbox hb;have n0_:=z_ (zbb (g:=gb101) (o:=.cells #[.int .i64 a0_0, .int .i64 a0_1, .string a0_2, .int .i64 a0_3, .int .i64 a0_4, .int .i64 a0_5, .string a0_6, .int .i64 a0_7] 85 (0,0)) (by (with_reducible repeat first|apply zbN|apply zb1|apply zbA);exact BK101.out) hb);have n1_:=z_ (below_step (by repeat first|(with_reducible first|exact HB.out|apply zA|apply zN|apply z1|refine zS ?_ GE101.out)|exact HB.out) hb);have n2_:=z_ (hbox);have n3_:=z_ ((by rw [hg];exact (zBs (by repeat first|(with_reducible first|exact HB.out|apply zA|apply zN|apply z1|refine zS ?_ GE101.out)|exact HB.out)):w.heap.size ≤ gb102));have n4_:=z_ ((by rw [hg];exact (zBs (by repeat first|(with_reducible first|exact HB.out|apply zA|apply zN|apply z1|refine zS ?_ GE101.out)|exact HB.out)):w.heap.size ≤ gb102));have n5_:=z_ ((by rw [hg];exact Nat.ne_of_lt (blk_lt (g:=gb101) (o:=.cells #[.int .i64 a0_0, .int .i64 a0_1, .string a0_2, .int .i64 a0_3, .int .i64 a0_4, .int .i64 a0_5, .string a0_6, .int .i64 a0_7] 85 (0,0)) (by (with_reducible repeat first|apply zbN|apply zb1|apply zbA);exact BK101.out)):gb101 ≠ gb102));have n6_:=z_ ((by rw [hg];exact Nat.ne_of_gt (blk_lt (g:=gb101) (o:=.cells #[.int .i64 a0_0, .int .i64 a0_1, .string a0_2, .int .i64 a0_3, .int .i64 a0_4, .int .i64 a0_5, .string a0_6, .int .i64 a0_7] 85 (0,0)) (by (with_reducible repeat first|apply zbN|apply zb1|apply zbA);exact BK101.out)):gb102 ≠ gb101));clear BK101;clear HB;have BK101:=n0_;have HB:=n1_;have BK102:=n2_;have GW102:=n3_;have GE102:=n4_;have NB101_102:=n5_;have NB102_101:=n6_;clear n0_ n1_ n2_ n3_ n4_ n5_ n6_;clear hb hbox hg)|((with_reducible refine gate_dst (N:=4) rfl ?_);refine box_event ?hg (N:=4) ?hd (cs:=#[.int .i64 0, .int .i64 0, .string (⟨#[]⟩:ByteArray), .int .i64 0, .int .i64 0, .int .i64 0, .string (⟨#[]⟩:ByteArray), .int .i64 0]) (t:=85) ?hr ?_;(case hd=>rfl);(case hg=>rfl);(case hr=>first|(go_simp;done)|(go_simp;rfl));intro gb103 hg w7 hbox hb;have n0_:=z_ (zbb (g:=gb101) (o:=.cells #[.int .i64 a0_0, .int .i64 a0_1, .string a0_2, .int .i64 a0_3, .int .i64 a0_4, .int .i64 a0_5, .string a0_6, .int .i64 a0_7] 85 (0,0)) (by (with_reducible repeat first|apply zbN|apply zb1|apply zbA);exact BK101.out) hb);have n1_:=z_ (zbb (g:=gb102) (o:=.cells #[.int .i64 a1_0, .int .i64 a1_1, .int .i64 a1_2, .string a1_3] 28 (0,0)) (by (with_reducible repeat first|apply zbN|apply zb1|apply zbA);exact BK102.out) hb);have n2_:=z_ (below_step (by repeat first|(with_reducible first|exact HB.out|apply zA|apply zN|apply z1|refine zS ?_ GE101.out|refine zS ?_ GE102.out)|exact HB.out) hb);have n3_:=z_ (hbox);have n4_:=z_ ((by rw [hg];exact (zBs (by repeat first|(with_reducible first|exact HB.out|apply zA|apply zN|apply z1|refine zS ?_ GE101.out|refine zS ?_ GE102.out)|exact HB.out)):w.heap.size ≤ gb103));have n5_:=z_ ((by rw [hg];exact (zBs (by repeat first|(with_reducible first|exact HB.out|apply zA|apply zN|apply z1|refine zS ?_ GE101.out|refine zS ?_ GE102.out)|exact HB.out)):w.heap.size ≤ gb103));have n6_:=z_ ((by rw [hg];exact Nat.ne_of_lt (blk_lt (g:=gb101) (o:=.cells #[.int .i64 a0_0, .int .i64 a0_1, .string a0_2, .int .i64 a0_3, .int .i64 a0_4, .int .i64 a0_5, .string a0_6, .int .i64 a0_7] 85 (0,0)) (by (with_reducible repeat first|apply zbN|apply zb1|apply zbA);exact BK101.out)):gb101 ≠ gb103));have n7_:=z_ ((by rw [hg];exact Nat.ne_of_gt (blk_lt (g:=gb101) (o:=.cells #[.int .i64 a0_0, .int .i64 a0_1, .string a0_2, .int .i64 a0_3, .int .i64 a0_4, .int .i64 a0_5, .string a0_6, .int .i64 a0_7] 85 (0,0)) (by (with_reducible repeat first|apply zbN|apply zb1|apply zbA);exact BK101.out)):gb103 ≠ gb101));have n8_:=z_ ((by rw [hg];exact Nat.ne_of_lt (blk_lt (g:=gb102) (o:=.cells #[.int .i64 a1_0, .int .i64 a1_1, .int .i64 a1_2, .string a1_3] 28 (0,0)) (by (with_reducible repeat first|apply zbN|apply zb1|apply zbA);exact BK102.out)):gb102 ≠ gb103));have n9_:=z_ ((by rw [hg];exact Nat.ne_of_gt (blk_lt (g:=gb102) (o:=.cells #[.int .i64 a1_0, .int .i64 a1_1, .int .i64 a1_2, .string a1_3] 28 (0,0)) (by (with_reducible repeat first|apply zbN|apply zb1|apply zbA);exact BK102.out)):gb103 ≠ gb102));clear BK101;clear BK102;clear HB;have BK101:=n0_;have BK102:=n1_;have HB:=n2_;have BK103:=n3_;have GW103:=n4_;have GE103:=n5_;have NB101_103:=n6_;have NB103_101:=n7_;have NB102_103:=n8_;have NB103_102:=n9_;clear n0_ n1_ n2_ n3_ n4_ n5_ n6_ n7_ n8_ n9_;clear hb hbox hg))
  have n0_:=z_ (zb1 BK101.out)
  have n1_:=z_ (zb1 BK102.out)
  have n2_:=z_ (zb1 BK103.out)
  have n3_:=z_ (z1 HB.out)
  clear BK101
  clear BK102
  clear BK103
  clear HB
  have BK101:=n0_
  have BK102:=n1_
  have BK103:=n2_
  have HB:=n3_
  clear n0_ n1_ n2_ n3_
  refine start_ (n:=5) (S:=fun w'=>w'.cell? ⟨gb102,0,none⟩ = some (.int .i64 a1_0) ∧ w'.cell? ⟨gb102,1,none⟩ = some (.int .i64 a1_1) ∧ w'.cell? ⟨gb102,2,none⟩ = some (.int .i64 a1_2) ∧ w'.cell? ⟨gb102,3,none⟩ = some (.string a1_3)) (ds:=[]) #[false,false,false,false,false] (by kernel_rfl) rfl rfl ⟨(zce BK102.out 0).trans rfl,(zce BK102.out 1).trans rfl,(zce BK102.out 2).trans rfl,(zce BK102.out 3).trans rfl⟩ (fun hHeld=>?_)
  generalize w7.drew = w8 at BK101 BK102 BK103 HB hHeld ⊢
  refine pure_ (i:=1) (N:=some 6) (v:=?_) (a':=?_) #[false,true,false,false,false] rfl rfl (by kernel_rfl) (fun _ _ _ h=>h) (Or.inl ⟨by rfl,?_⟩) ?_ ?_
  rotate_left
  ·intro w'
   go_simp
   with_reducible rfl
  rotate_left
  ·simp only [Act.put,List.setIfInBounds_toArray,List.set_cons_zero,List.set_cons_succ,i64_w,i32_w]
   rfl
  refine take_ (i:=0) (N:=some 5) (v:=?_) (a':=?_) #[true,true,false,false,false] rfl rfl (by kernel_rfl) (fun _ _ _ h=>h) (Or.inl ⟨by rfl,?_⟩) hHeld ?_ ?_
  rotate_left
  ·rintro w' ⟨s0,s1,s2,s3⟩
   go_simp
   with_reducible rfl
  rotate_left
  ·simp only [Act.put,List.setIfInBounds_toArray,List.set_cons_zero,List.set_cons_succ,i64_w,i32_w]
   rfl
  refine one_ (i:=2) (N:=none) #[true,true,true,false,false] rfl rfl (by kernel_rfl) (by decide) (fun K hK=>?_)
  have hs9:w8.cell? ⟨gb101,0,none⟩ = some (.int .i64 a0_0):=(zce BK101.out 0).trans rfl
  have hfs9:=zfz BK101.out 0
  have hns9_1:=NB102_101.out
  have hns9_2:=NB103_101.out
  have hms9_1:=NB101_102.out
  have hms9_2:=NB101_103.out
  refine skip_ (w1:=?_) (by rfl) rfl ?_ ?_
  rotate_left
  ·go_simp
   rfl
  refine hK.out _ _ ⟨((cell_far (p:=⟨gb101,_,none⟩) NB102_101.out _).trans (hHeld.1)),((cell_far (p:=⟨gb101,_,none⟩) NB102_101.out _).trans (hHeld.2.1)),((cell_far (p:=⟨gb101,_,none⟩) NB102_101.out _).trans (hHeld.2.2.1)),((cell_far (p:=⟨gb101,_,none⟩) NB102_101.out _).trans (hHeld.2.2.2))⟩ (fun hHeld=>?_)
  clear hK K
  refine pure_ (i:=3) (N:=some 7) (v:=?_) (a':=?_) #[true,true,true,true,false] rfl rfl (by kernel_rfl) (fun _ _ _ h=>h) (Or.inl ⟨by rfl,?_⟩) ?_ ?_
  rotate_left
  ·intro w'
   go_simp
   with_reducible rfl
  rotate_left
  ·simp only [Act.put,List.setIfInBounds_toArray,List.set_cons_zero,List.set_cons_succ,i64_w,i32_w]
   rfl
  refine one_ (i:=4) (N:=none) #[true,true,true,true,true] rfl rfl (by kernel_rfl) (by decide) (fun K hK=>?_)
  have hs10:w8.cell? ⟨gb101,3,none⟩ = some (.int .i64 a0_3):=(zce BK101.out 3).trans rfl
  have hfs10:=zfz BK101.out 3
  have hns10_1:=NB102_101.out
  have hns10_2:=NB103_101.out
  have hms10_1:=NB101_102.out
  have hms10_2:=NB101_103.out
  have hs11:w8.cell? ⟨gb101,4,none⟩ = some (.int .i64 a0_4):=(zce BK101.out 4).trans rfl
  have hfs11:=zfz BK101.out 4
  have hns11_1:=NB102_101.out
  have hns11_2:=NB103_101.out
  have hms11_1:=NB101_102.out
  have hms11_2:=NB101_103.out
  have hs12:w8.cell? ⟨gb101,5,none⟩ = some (.int .i64 a0_5):=(zce BK101.out 5).trans rfl
  have hfs12:=zfz BK101.out 5
  have hns12_1:=NB102_101.out
  have hns12_2:=NB103_101.out
  have hms12_1:=NB101_102.out
  have hms12_2:=NB101_103.out
  have hs13:w8.cell? ⟨gb101,6,none⟩ = some (.string a0_6):=(zce BK101.out 6).trans rfl
  have hfs13:=zfz BK101.out 6
  have hns13_1:=NB102_101.out
  have hns13_2:=NB103_101.out
  have hms13_1:=NB101_102.out
  have hms13_2:=NB101_103.out
  refine skip_ (w1:=?_) (by rfl) rfl ?_ ?_
  rotate_left
  ·go_simp
   rfl
  refine hK.out _ _ ⟨((cell_far (p:=⟨gb101,_,none⟩) NB102_101.out _).trans (((cell_far (p:=⟨gb101,_,none⟩) NB102_101.out _).trans (((cell_far (p:=⟨gb101,_,none⟩) NB102_101.out _).trans (((cell_far (p:=⟨gb101,_,none⟩) NB102_101.out _).trans (hHeld.1)))))))),((cell_far (p:=⟨gb101,_,none⟩) NB102_101.out _).trans (((cell_far (p:=⟨gb101,_,none⟩) NB102_101.out _).trans (((cell_far (p:=⟨gb101,_,none⟩) NB102_101.out _).trans (((cell_far (p:=⟨gb101,_,none⟩) NB102_101.out _).trans (hHeld.2.1)))))))),((cell_far (p:=⟨gb101,_,none⟩) NB102_101.out _).trans (((cell_far (p:=⟨gb101,_,none⟩) NB102_101.out _).trans (((cell_far (p:=⟨gb101,_,none⟩) NB102_101.out _).trans (((cell_far (p:=⟨gb101,_,none⟩) NB102_101.out _).trans (hHeld.2.2.1)))))))),((cell_far (p:=⟨gb101,_,none⟩) NB102_101.out _).trans (((cell_far (p:=⟨gb101,_,none⟩) NB102_101.out _).trans (((cell_far (p:=⟨gb101,_,none⟩) NB102_101.out _).trans (((cell_far (p:=⟨gb101,_,none⟩) NB102_101.out _).trans (hHeld.2.2.2))))))))⟩ (fun hHeld=>?_)
  clear hK K
  refine done_ (by kernel_rfl) ?_
  have hnb14:=NB102_101.out
  have hnc14:=NB101_102.out
  have hnb15:=NB102_103.out
  have hnc15:=NB103_102.out
  have hcz16_0:w8.cell? ⟨gb102,0,none⟩ = some (.int .i64 a1_0):=(zce BK102.out 0).trans rfl
  have hcz16_1:w8.cell? ⟨gb102,1,none⟩ = some (.int .i64 a1_1):=(zce BK102.out 1).trans rfl
  have hcz16_2:w8.cell? ⟨gb102,2,none⟩ = some (.int .i64 a1_2):=(zce BK102.out 2).trans rfl
  have hcz16_3:w8.cell? ⟨gb102,3,none⟩ = some (.string a1_3):=(zce BK102.out 3).trans rfl
  have hfz16_0:=zfz BK102.out 0
  have hfz16_1:=zfz BK102.out 1
  have hfz16_2:=zfz BK102.out 2
  have hfz16_3:=zfz BK102.out 3
  try go_wp2_with (first|((with_reducible refine gate_callee (f:=142) rfl ?_);refine goesL_ (some 9) rfl rfl Tryz.func142 (by kernel_rfl) rfl #[.agg #[.int .i64 a1_0, .int .i64 a1_1, .int .i64 a1_2, .string a1_3]] rfl (by (try simp only [List.map_toArray,List.map_cons,List.map_nil]);first|done|rfl|(simp only [List.length_drop,List.length_take];rfl)) ?_;(with_reducible refine (val_Right.calls k a1_0 a1_1 a1_2 a1_3 true _ A3.out).mono ?_);rintro e w17 ⟨rfl,hb⟩;refine ⟨_,rfl,?_⟩;have n0_:=z_ (zbb (g:=gb101) (o:=.cells #[.int .i64 4, .int .i64 a0_1, .string a0_2, .int .i64 a1_0, .int .i64 a1_1, .int .i64 a1_2, .string a1_3, .int .i64 a0_7] 85 (0,0)) (by (with_reducible repeat first|apply zbN|apply zb1|apply zbA);refine zbp (cs:=#[.int .i64 4, .int .i64 a0_1, .string a0_2, .int .i64 a1_0, .int .i64 a1_1, .int .i64 a1_2, .string a0_6, .int .i64 a0_7]) ?_ 6 _ rfl;(with_reducible repeat first|apply zbN|apply zb1|apply zbA);refine zbp (cs:=#[.int .i64 4, .int .i64 a0_1, .string a0_2, .int .i64 a1_0, .int .i64 a1_1, .int .i64 a0_5, .string a0_6, .int .i64 a0_7]) ?_ 5 _ rfl;(with_reducible repeat first|apply zbN|apply zb1|apply zbA);refine zbp (cs:=#[.int .i64 4, .int .i64 a0_1, .string a0_2, .int .i64 a1_0, .int .i64 a0_4, .int .i64 a0_5, .string a0_6, .int .i64 a0_7]) ?_ 4 _ rfl;(with_reducible repeat first|apply zbN|apply zb1|apply zbA);refine zbp (cs:=#[.int .i64 4, .int .i64 a0_1, .string a0_2, .int .i64 a0_3, .int .i64 a0_4, .int .i64 a0_5, .string a0_6, .int .i64 a0_7]) ?_ 3 _ rfl;(with_reducible repeat first|apply zbN|apply zb1|apply zbA);refine zbp (cs:=#[.int .i64 a0_0, .int .i64 a0_1, .string a0_2, .int .i64 a0_3, .int .i64 a0_4, .int .i64 a0_5, .string a0_6, .int .i64 a0_7]) ?_ 0 _ rfl;(with_reducible repeat first|apply zbN|apply zb1|apply zbA);exact BK101.out) hb);have n1_:=z_ (zbb (g:=gb102) (o:=.cells #[.int .i64 a1_0, .int .i64 a1_1, .int .i64 a1_2, .string a1_3] 28 (0,0)) (by (with_reducible repeat first|apply zbN|apply zb1|apply zbA);refine zbf ?_ NB102_101.out _;(with_reducible repeat first|apply zbN|apply zb1|apply zbA);refine zbf ?_ NB102_101.out _;(with_reducible repeat first|apply zbN|apply zb1|apply zbA);refine zbf ?_ NB102_101.out _;(with_reducible repeat first|apply zbN|apply zb1|apply zbA);refine zbf ?_ NB102_101.out _;(with_reducible repeat first|apply zbN|apply zb1|apply zbA);refine zbf ?_ NB102_101.out _;(with_reducible repeat first|apply zbN|apply zb1|apply zbA);exact BK102.out) hb);have n2_:=z_ (zbb (g:=gb103) (o:=.cells #[.int .i64 0, .int .i64 0, .string (⟨#[]⟩:ByteArray), .int .i64 0, .int .i64 0, .int .i64 0, .string (⟨#[]⟩:ByteArray), .int .i64 0] 85 (0,0)) (by (with_reducible repeat first|apply zbN|apply zb1|apply zbA);refine zbf ?_ NB103_101.out _;(with_reducible repeat first|apply zbN|apply zb1|apply zbA);refine zbf ?_ NB103_101.out _;(with_reducible repeat first|apply zbN|apply zb1|apply zbA);refine zbf ?_ NB103_101.out _;(with_reducible repeat first|apply zbN|apply zb1|apply zbA);refine zbf ?_ NB103_101.out _;(with_reducible repeat first|apply zbN|apply zb1|apply zbA);refine zbf ?_ NB103_101.out _;(with_reducible repeat first|apply zbN|apply zb1|apply zbA);exact BK103.out) hb);have n3_:=z_ (below_step (by repeat first|(with_reducible first|exact HB.out|apply zA|apply zN|apply z1|refine zS ?_ GE101.out|refine zS ?_ GE102.out|refine zS ?_ GE103.out)|exact HB.out) hb);clear BK101;clear BK102;clear BK103;clear HB;have BK101:=n0_;have BK102:=n1_;have BK103:=n2_;have HB:=n3_;clear n0_ n1_ n2_ n3_;(try clear hb);(try clear hb2);(try clear hk);(try clear hi);have hnb18:=NB101_103.out;have hnc18:=NB103_101.out;have hcz19_0:w17.cell? ⟨gb101,0,none⟩ = some (.int .i64 4):=(zce BK101.out 0).trans rfl;have hcz19_1:w17.cell? ⟨gb101,1,none⟩ = some (.int .i64 a0_1):=(zce BK101.out 1).trans rfl;have hcz19_2:w17.cell? ⟨gb101,2,none⟩ = some (.string a0_2):=(zce BK101.out 2).trans rfl;have hcz19_3:w17.cell? ⟨gb101,3,none⟩ = some (.int .i64 a1_0):=(zce BK101.out 3).trans rfl;have hcz19_4:w17.cell? ⟨gb101,4,none⟩ = some (.int .i64 a1_1):=(zce BK101.out 4).trans rfl;have hcz19_5:w17.cell? ⟨gb101,5,none⟩ = some (.int .i64 a1_2):=(zce BK101.out 5).trans rfl;have hcz19_6:w17.cell? ⟨gb101,6,none⟩ = some (.string a1_3):=(zce BK101.out 6).trans rfl;have hcz19_7:w17.cell? ⟨gb101,7,none⟩ = some (.int .i64 a0_7):=(zce BK101.out 7).trans rfl;have hfz19_0:=zfz BK101.out 0;have hfz19_1:=zfz BK101.out 1;have hfz19_2:=zfz BK101.out 2;have hfz19_3:=zfz BK101.out 3;have hfz19_4:=zfz BK101.out 4;have hfz19_5:=zfz BK101.out 5;have hfz19_6:=zfz BK101.out 6;have hfz19_7:=zfz BK101.out 7;have hcz20_0:w17.cell? ⟨gb103,0,none⟩ = some (.int .i64 0):=(zce BK103.out 0).trans rfl;have hcz20_1:w17.cell? ⟨gb103,1,none⟩ = some (.int .i64 0):=(zce BK103.out 1).trans rfl;have hcz20_2:w17.cell? ⟨gb103,2,none⟩ = some (.string (⟨#[]⟩:ByteArray)):=(zce BK103.out 2).trans rfl;have hcz20_3:w17.cell? ⟨gb103,3,none⟩ = some (.int .i64 0):=(zce BK103.out 3).trans rfl;have hcz20_4:w17.cell? ⟨gb103,4,none⟩ = some (.int .i64 0):=(zce BK103.out 4).trans rfl;have hcz20_5:w17.cell? ⟨gb103,5,none⟩ = some (.int .i64 0):=(zce BK103.out 5).trans rfl;have hcz20_6:w17.cell? ⟨gb103,6,none⟩ = some (.string (⟨#[]⟩:ByteArray)):=(zce BK103.out 6).trans rfl;have hcz20_7:w17.cell? ⟨gb103,7,none⟩ = some (.int .i64 0):=(zce BK103.out 7).trans rfl;have hfz20_0:=zfz BK103.out 0;have hfz20_1:=zfz BK103.out 1;have hfz20_2:=zfz BK103.out 2;have hfz20_3:=zfz BK103.out 3;have hfz20_4:=zfz BK103.out 4;have hfz20_5:=zfz BK103.out 5;have hfz20_6:=zfz BK103.out 6;have hfz20_7:=zfz BK103.out 7))
  refine bodyPost_ret (results_cell_row rfl _ _ gb103 85 #[.int .i64 4, .int .i64 a0_1, .string a0_2, .int .i64 a1_0, .int .i64 a1_1, .int .i64 a1_2, .string a1_3, .int .i64 a0_7] (0,0) _ rfl (by (with_reducible repeat first|apply zbN|apply zb1|apply zbA);refine zbp (cs:=#[.int .i64 4, .int .i64 a0_1, .string a0_2, .int .i64 a1_0, .int .i64 a1_1, .int .i64 a1_2, .string a1_3, .int .i64 0]) ?_ 7 _ rfl;(with_reducible repeat first|apply zbN|apply zb1|apply zbA);refine zbp (cs:=#[.int .i64 4, .int .i64 a0_1, .string a0_2, .int .i64 a1_0, .int .i64 a1_1, .int .i64 a1_2, .string (⟨#[]⟩:ByteArray), .int .i64 0]) ?_ 6 _ rfl;(with_reducible repeat first|apply zbN|apply zb1|apply zbA);refine zbp (cs:=#[.int .i64 4, .int .i64 a0_1, .string a0_2, .int .i64 a1_0, .int .i64 a1_1, .int .i64 0, .string (⟨#[]⟩:ByteArray), .int .i64 0]) ?_ 5 _ rfl;(with_reducible repeat first|apply zbN|apply zb1|apply zbA);refine zbp (cs:=#[.int .i64 4, .int .i64 a0_1, .string a0_2, .int .i64 a1_0, .int .i64 0, .int .i64 0, .string (⟨#[]⟩:ByteArray), .int .i64 0]) ?_ 4 _ rfl;(with_reducible repeat first|apply zbN|apply zb1|apply zbA);refine zbp (cs:=#[.int .i64 4, .int .i64 a0_1, .string a0_2, .int .i64 0, .int .i64 0, .int .i64 0, .string (⟨#[]⟩:ByteArray), .int .i64 0]) ?_ 3 _ rfl;(with_reducible repeat first|apply zbN|apply zb1|apply zbA);refine zbp (cs:=#[.int .i64 4, .int .i64 a0_1, .string (⟨#[]⟩:ByteArray), .int .i64 0, .int .i64 0, .int .i64 0, .string (⟨#[]⟩:ByteArray), .int .i64 0]) ?_ 2 _ rfl;(with_reducible repeat first|apply zbN|apply zb1|apply zbA);refine zbp (cs:=#[.int .i64 4, .int .i64 0, .string (⟨#[]⟩:ByteArray), .int .i64 0, .int .i64 0, .int .i64 0, .string (⟨#[]⟩:ByteArray), .int .i64 0]) ?_ 1 _ rfl;(with_reducible repeat first|apply zbN|apply zb1|apply zbA);refine zbp (cs:=#[.int .i64 0, .int .i64 0, .string (⟨#[]⟩:ByteArray), .int .i64 0, .int .i64 0, .int .i64 0, .string (⟨#[]⟩:ByteArray), .int .i64 0]) ?_ 0 _ rfl;(with_reducible repeat first|apply zbN|apply zb1|apply zbA);exact BK103.out) Tryz.underlying85 rfl (by kernel_rfl)) rfl ?_
  exact ⟨by first|rfl|(simp [errW_none,errW_some] <;> rfl)|(simp [*,errW_none,errW_some] <;> rfl),by repeat first|(with_reducible first|exact HB.out|apply zA|apply zN|apply z1|refine zS ?_ GE101.out|refine zS ?_ GE102.out|refine zS ?_ GE103.out)|exact HB.out⟩
 ·replace c4:=Bool.eq_false_iff.mpr c4
  subst c4
  have H1:(some (4,a0_1,a0_2,a1_0,a1_1,a1_2,a1_3,11)) = some (r1,r2,r3,r4,r5,r6,r7,r8):=by rw [if_neg (show ¬ (false = true) by decide)] at H;exact H
  clear H
  have H:=H1
  clear H1
  simp only [Option.some.injEq,Prod.mk.injEq] at H
  obtain ⟨rfl,rfl,rfl,rfl,rfl,rfl,rfl,rfl⟩:=H
  go_enter Tryz.func129,Tryz.ntmps129
  try go_wp2_with (first|((with_reducible refine gate_dst (N:=2) rfl ?_);refine box_event ?hg (N:=2) ?hd (cs:=#[.int .i64 a0_0, .int .i64 a0_1, .string a0_2, .int .i64 a0_3, .int .i64 a0_4, .int .i64 a0_5, .string a0_6, .int .i64 a0_7]) (t:=85) ?hr ?_;(case hd=>rfl);(case hg=>rfl);(case hr=>first|(go_simp;done)|(go_simp;rfl));intro gb101 hg w21 hbox hb;have n0_:=z_ (below_step (by repeat first|(with_reducible first|exact HB.out|apply zA|apply zN|apply z1)|exact HB.out) hb);have n1_:=z_ (hbox);have n2_:=z_ ((by rw [hg];exact (zBs (by repeat first|(with_reducible first|exact HB.out|apply zA|apply zN|apply z1)|exact HB.out)):w.heap.size ≤ gb101));have n3_:=z_ ((by rw [hg];exact (zBs (by repeat first|(with_reducible first|exact HB.out|apply zA|apply zN|apply z1)|exact HB.out)):w.heap.size ≤ gb101));clear HB;have HB:=n0_;have BK101:=n1_;have GW101:=n2_;have GE101:=n3_;clear n0_ n1_ n2_ n3_;clear hb hbox hg)|((with_reducible refine gate_dst (N:=3) rfl ?_);refine box_event ?hg (N:=3) ?hd (cs:=#[.int .i64 a1_0, .int .i64 a1_1, .int .i64 a1_2, .string a1_3]) (t:=28) ?hr ?_;(case hd=>rfl);(case hg=>rfl);(case hr=>first|(go_simp;done)|(go_simp;rfl));intro gb102 hg w22 hbox hb;have n0_:=z_ (zbb (g:=gb101) (o:=.cells #[.int .i64 a0_0, .int .i64 a0_1, .string a0_2, .int .i64 a0_3, .int .i64 a0_4, .int .i64 a0_5, .string a0_6, .int .i64 a0_7] 85 (0,0)) (by (with_reducible repeat first|apply zbN|apply zb1|apply zbA);exact BK101.out) hb);have n1_:=z_ (below_step (by repeat first|(with_reducible first|exact HB.out|apply zA|apply zN|apply z1|refine zS ?_ GE101.out)|exact HB.out) hb);have n2_:=z_ (hbox);have n3_:=z_ ((by rw [hg];exact (zBs (by repeat first|(with_reducible first|exact HB.out|apply zA|apply zN|apply z1|refine zS ?_ GE101.out)|exact HB.out)):w.heap.size ≤ gb102));have n4_:=z_ ((by rw [hg];exact (zBs (by repeat first|(with_reducible first|exact HB.out|apply zA|apply zN|apply z1|refine zS ?_ GE101.out)|exact HB.out)):w.heap.size ≤ gb102));have n5_:=z_ ((by rw [hg];exact Nat.ne_of_lt (blk_lt (g:=gb101) (o:=.cells #[.int .i64 a0_0, .int .i64 a0_1, .string a0_2, .int .i64 a0_3, .int .i64 a0_4, .int .i64 a0_5, .string a0_6, .int .i64 a0_7] 85 (0,0)) (by (with_reducible repeat first|apply zbN|apply zb1|apply zbA);exact BK101.out)):gb101 ≠ gb102));have n6_:=z_ ((by rw [hg];exact Nat.ne_of_gt (blk_lt (g:=gb101) (o:=.cells #[.int .i64 a0_0, .int .i64 a0_1, .string a0_2, .int .i64 a0_3, .int .i64 a0_4, .int .i64 a0_5, .string a0_6, .int .i64 a0_7] 85 (0,0)) (by (with_reducible repeat first|apply zbN|apply zb1|apply zbA);exact BK101.out)):gb102 ≠ gb101));clear BK101;clear HB;have BK101:=n0_;have HB:=n1_;have BK102:=n2_;have GW102:=n3_;have GE102:=n4_;have NB101_102:=n5_;have NB102_101:=n6_;clear n0_ n1_ n2_ n3_ n4_ n5_ n6_;clear hb hbox hg)|((with_reducible refine gate_dst (N:=4) rfl ?_);refine box_event ?hg (N:=4) ?hd (cs:=#[.int .i64 0, .int .i64 0, .string (⟨#[]⟩:ByteArray), .int .i64 0, .int .i64 0, .int .i64 0, .string (⟨#[]⟩:ByteArray), .int .i64 0]) (t:=85) ?hr ?_;(case hd=>rfl);(case hg=>rfl);(case hr=>first|(go_simp;done)|(go_simp;rfl));intro gb103 hg w23 hbox hb;have n0_:=z_ (zbb (g:=gb101) (o:=.cells #[.int .i64 a0_0, .int .i64 a0_1, .string a0_2, .int .i64 a0_3, .int .i64 a0_4, .int .i64 a0_5, .string a0_6, .int .i64 a0_7] 85 (0,0)) (by (with_reducible repeat first|apply zbN|apply zb1|apply zbA);exact BK101.out) hb);have n1_:=z_ (zbb (g:=gb102) (o:=.cells #[.int .i64 a1_0, .int .i64 a1_1, .int .i64 a1_2, .string a1_3] 28 (0,0)) (by (with_reducible repeat first|apply zbN|apply zb1|apply zbA);exact BK102.out) hb);have n2_:=z_ (below_step (by repeat first|(with_reducible first|exact HB.out|apply zA|apply zN|apply z1|refine zS ?_ GE101.out|refine zS ?_ GE102.out)|exact HB.out) hb);have n3_:=z_ (hbox);have n4_:=z_ ((by rw [hg];exact (zBs (by repeat first|(with_reducible first|exact HB.out|apply zA|apply zN|apply z1|refine zS ?_ GE101.out|refine zS ?_ GE102.out)|exact HB.out)):w.heap.size ≤ gb103));have n5_:=z_ ((by rw [hg];exact (zBs (by repeat first|(with_reducible first|exact HB.out|apply zA|apply zN|apply z1|refine zS ?_ GE101.out|refine zS ?_ GE102.out)|exact HB.out)):w.heap.size ≤ gb103));have n6_:=z_ ((by rw [hg];exact Nat.ne_of_lt (blk_lt (g:=gb101) (o:=.cells #[.int .i64 a0_0, .int .i64 a0_1, .string a0_2, .int .i64 a0_3, .int .i64 a0_4, .int .i64 a0_5, .string a0_6, .int .i64 a0_7] 85 (0,0)) (by (with_reducible repeat first|apply zbN|apply zb1|apply zbA);exact BK101.out)):gb101 ≠ gb103));have n7_:=z_ ((by rw [hg];exact Nat.ne_of_gt (blk_lt (g:=gb101) (o:=.cells #[.int .i64 a0_0, .int .i64 a0_1, .string a0_2, .int .i64 a0_3, .int .i64 a0_4, .int .i64 a0_5, .string a0_6, .int .i64 a0_7] 85 (0,0)) (by (with_reducible repeat first|apply zbN|apply zb1|apply zbA);exact BK101.out)):gb103 ≠ gb101));have n8_:=z_ ((by rw [hg];exact Nat.ne_of_lt (blk_lt (g:=gb102) (o:=.cells #[.int .i64 a1_0, .int .i64 a1_1, .int .i64 a1_2, .string a1_3] 28 (0,0)) (by (with_reducible repeat first|apply zbN|apply zb1|apply zbA);exact BK102.out)):gb102 ≠ gb103));have n9_:=z_ ((by rw [hg];exact Nat.ne_of_gt (blk_lt (g:=gb102) (o:=.cells #[.int .i64 a1_0, .int .i64 a1_1, .int .i64 a1_2, .string a1_3] 28 (0,0)) (by (with_reducible repeat first|apply zbN|apply zb1|apply zbA);exact BK102.out)):gb103 ≠ gb102));clear BK101;clear BK102;clear HB;have BK101:=n0_;have BK102:=n1_;have HB:=n2_;have BK103:=n3_;have GW103:=n4_;have GE103:=n5_;have NB101_103:=n6_;have NB103_101:=n7_;have NB102_103:=n8_;have NB103_102:=n9_;clear n0_ n1_ n2_ n3_ n4_ n5_ n6_ n7_ n8_ n9_;clear hb hbox hg))
  have n0_:=z_ (zb1 BK101.out)
  have n1_:=z_ (zb1 BK102.out)
  have n2_:=z_ (zb1 BK103.out)
  have n3_:=z_ (z1 HB.out)
  clear BK101
  clear BK102
  clear BK103
  clear HB
  have BK101:=n0_
  have BK102:=n1_
  have BK103:=n2_
  have HB:=n3_
  clear n0_ n1_ n2_ n3_
  refine start_ (n:=5) (S:=fun w'=>w'.cell? ⟨gb102,0,none⟩ = some (.int .i64 a1_0) ∧ w'.cell? ⟨gb102,1,none⟩ = some (.int .i64 a1_1) ∧ w'.cell? ⟨gb102,2,none⟩ = some (.int .i64 a1_2) ∧ w'.cell? ⟨gb102,3,none⟩ = some (.string a1_3)) (ds:=[]) #[false,false,false,false,false] (by kernel_rfl) rfl rfl ⟨(zce BK102.out 0).trans rfl,(zce BK102.out 1).trans rfl,(zce BK102.out 2).trans rfl,(zce BK102.out 3).trans rfl⟩ (fun hHeld=>?_)
  generalize w23.drew = w24 at BK101 BK102 BK103 HB hHeld ⊢
  refine pure_ (i:=1) (N:=some 6) (v:=?_) (a':=?_) #[false,true,false,false,false] rfl rfl (by kernel_rfl) (fun _ _ _ h=>h) (Or.inl ⟨by rfl,?_⟩) ?_ ?_
  rotate_left
  ·intro w'
   go_simp
   with_reducible rfl
  rotate_left
  ·simp only [Act.put,List.setIfInBounds_toArray,List.set_cons_zero,List.set_cons_succ,i64_w,i32_w]
   rfl
  refine take_ (i:=0) (N:=some 5) (v:=?_) (a':=?_) #[true,true,false,false,false] rfl rfl (by kernel_rfl) (fun _ _ _ h=>h) (Or.inl ⟨by rfl,?_⟩) hHeld ?_ ?_
  rotate_left
  ·rintro w' ⟨s0,s1,s2,s3⟩
   go_simp
   with_reducible rfl
  rotate_left
  ·simp only [Act.put,List.setIfInBounds_toArray,List.set_cons_zero,List.set_cons_succ,i64_w,i32_w]
   rfl
  refine one_ (i:=2) (N:=none) #[true,true,true,false,false] rfl rfl (by kernel_rfl) (by decide) (fun K hK=>?_)
  have hs25:w24.cell? ⟨gb101,0,none⟩ = some (.int .i64 a0_0):=(zce BK101.out 0).trans rfl
  have hfs25:=zfz BK101.out 0
  have hns25_1:=NB102_101.out
  have hns25_2:=NB103_101.out
  have hms25_1:=NB101_102.out
  have hms25_2:=NB101_103.out
  refine skip_ (w1:=?_) (by rfl) rfl ?_ ?_
  rotate_left
  ·go_simp
   rfl
  refine hK.out _ _ ⟨((cell_far (p:=⟨gb101,_,none⟩) NB102_101.out _).trans (hHeld.1)),((cell_far (p:=⟨gb101,_,none⟩) NB102_101.out _).trans (hHeld.2.1)),((cell_far (p:=⟨gb101,_,none⟩) NB102_101.out _).trans (hHeld.2.2.1)),((cell_far (p:=⟨gb101,_,none⟩) NB102_101.out _).trans (hHeld.2.2.2))⟩ (fun hHeld=>?_)
  clear hK K
  refine pure_ (i:=3) (N:=some 7) (v:=?_) (a':=?_) #[true,true,true,true,false] rfl rfl (by kernel_rfl) (fun _ _ _ h=>h) (Or.inl ⟨by rfl,?_⟩) ?_ ?_
  rotate_left
  ·intro w'
   go_simp
   with_reducible rfl
  rotate_left
  ·simp only [Act.put,List.setIfInBounds_toArray,List.set_cons_zero,List.set_cons_succ,i64_w,i32_w]
   rfl
  refine one_ (i:=4) (N:=none) #[true,true,true,true,true] rfl rfl (by kernel_rfl) (by decide) (fun K hK=>?_)
  have hs26:w24.cell? ⟨gb101,3,none⟩ = some (.int .i64 a0_3):=(zce BK101.out 3).trans rfl
  have hfs26:=zfz BK101.out 3
  have hns26_1:=NB102_101.out
  have hns26_2:=NB103_101.out
  have hms26_1:=NB101_102.out
  have hms26_2:=NB101_103.out
  have hs27:w24.cell? ⟨gb101,4,none⟩ = some (.int .i64 a0_4):=(zce BK101.out 4).trans rfl
  have hfs27:=zfz BK101.out 4
  have hns27_1:=NB102_101.out
  have hns27_2:=NB103_101.out
  have hms27_1:=NB101_102.out
  have hms27_2:=NB101_103.out
  have hs28:w24.cell? ⟨gb101,5,none⟩ = some (.int .i64 a0_5):=(zce BK101.out 5).trans rfl
  have hfs28:=zfz BK101.out 5
  have hns28_1:=NB102_101.out
  have hns28_2:=NB103_101.out
  have hms28_1:=NB101_102.out
  have hms28_2:=NB101_103.out
  have hs29:w24.cell? ⟨gb101,6,none⟩ = some (.string a0_6):=(zce BK101.out 6).trans rfl
  have hfs29:=zfz BK101.out 6
  have hns29_1:=NB102_101.out
  have hns29_2:=NB103_101.out
  have hms29_1:=NB101_102.out
  have hms29_2:=NB101_103.out
  refine skip_ (w1:=?_) (by rfl) rfl ?_ ?_
  rotate_left
  ·go_simp
   rfl
  refine hK.out _ _ ⟨((cell_far (p:=⟨gb101,_,none⟩) NB102_101.out _).trans (((cell_far (p:=⟨gb101,_,none⟩) NB102_101.out _).trans (((cell_far (p:=⟨gb101,_,none⟩) NB102_101.out _).trans (((cell_far (p:=⟨gb101,_,none⟩) NB102_101.out _).trans (hHeld.1)))))))),((cell_far (p:=⟨gb101,_,none⟩) NB102_101.out _).trans (((cell_far (p:=⟨gb101,_,none⟩) NB102_101.out _).trans (((cell_far (p:=⟨gb101,_,none⟩) NB102_101.out _).trans (((cell_far (p:=⟨gb101,_,none⟩) NB102_101.out _).trans (hHeld.2.1)))))))),((cell_far (p:=⟨gb101,_,none⟩) NB102_101.out _).trans (((cell_far (p:=⟨gb101,_,none⟩) NB102_101.out _).trans (((cell_far (p:=⟨gb101,_,none⟩) NB102_101.out _).trans (((cell_far (p:=⟨gb101,_,none⟩) NB102_101.out _).trans (hHeld.2.2.1)))))))),((cell_far (p:=⟨gb101,_,none⟩) NB102_101.out _).trans (((cell_far (p:=⟨gb101,_,none⟩) NB102_101.out _).trans (((cell_far (p:=⟨gb101,_,none⟩) NB102_101.out _).trans (((cell_far (p:=⟨gb101,_,none⟩) NB102_101.out _).trans (hHeld.2.2.2))))))))⟩ (fun hHeld=>?_)
  clear hK K
  refine done_ (by kernel_rfl) ?_
  have hnb30:=NB102_101.out
  have hnc30:=NB101_102.out
  have hnb31:=NB102_103.out
  have hnc31:=NB103_102.out
  have hcz32_0:w24.cell? ⟨gb102,0,none⟩ = some (.int .i64 a1_0):=(zce BK102.out 0).trans rfl
  have hcz32_1:w24.cell? ⟨gb102,1,none⟩ = some (.int .i64 a1_1):=(zce BK102.out 1).trans rfl
  have hcz32_2:w24.cell? ⟨gb102,2,none⟩ = some (.int .i64 a1_2):=(zce BK102.out 2).trans rfl
  have hcz32_3:w24.cell? ⟨gb102,3,none⟩ = some (.string a1_3):=(zce BK102.out 3).trans rfl
  have hfz32_0:=zfz BK102.out 0
  have hfz32_1:=zfz BK102.out 1
  have hfz32_2:=zfz BK102.out 2
  have hfz32_3:=zfz BK102.out 3
  try go_wp2_with (first|((with_reducible refine gate_callee (f:=142) rfl ?_);refine goesL_ (some 9) rfl rfl Tryz.func142 (by kernel_rfl) rfl #[.agg #[.int .i64 a1_0, .int .i64 a1_1, .int .i64 a1_2, .string a1_3]] rfl (by (try simp only [List.map_toArray,List.map_cons,List.map_nil]);first|done|rfl|(simp only [List.length_drop,List.length_take];rfl)) ?_;(with_reducible refine (val_Right.calls k a1_0 a1_1 a1_2 a1_3 false _ A3.out).mono ?_);rintro e w33 ⟨rfl,hb⟩;refine ⟨_,rfl,?_⟩;have n0_:=z_ (zbb (g:=gb101) (o:=.cells #[.int .i64 4, .int .i64 a0_1, .string a0_2, .int .i64 a1_0, .int .i64 a1_1, .int .i64 a1_2, .string a1_3, .int .i64 a0_7] 85 (0,0)) (by (with_reducible repeat first|apply zbN|apply zb1|apply zbA);refine zbp (cs:=#[.int .i64 4, .int .i64 a0_1, .string a0_2, .int .i64 a1_0, .int .i64 a1_1, .int .i64 a1_2, .string a0_6, .int .i64 a0_7]) ?_ 6 _ rfl;(with_reducible repeat first|apply zbN|apply zb1|apply zbA);refine zbp (cs:=#[.int .i64 4, .int .i64 a0_1, .string a0_2, .int .i64 a1_0, .int .i64 a1_1, .int .i64 a0_5, .string a0_6, .int .i64 a0_7]) ?_ 5 _ rfl;(with_reducible repeat first|apply zbN|apply zb1|apply zbA);refine zbp (cs:=#[.int .i64 4, .int .i64 a0_1, .string a0_2, .int .i64 a1_0, .int .i64 a0_4, .int .i64 a0_5, .string a0_6, .int .i64 a0_7]) ?_ 4 _ rfl;(with_reducible repeat first|apply zbN|apply zb1|apply zbA);refine zbp (cs:=#[.int .i64 4, .int .i64 a0_1, .string a0_2, .int .i64 a0_3, .int .i64 a0_4, .int .i64 a0_5, .string a0_6, .int .i64 a0_7]) ?_ 3 _ rfl;(with_reducible repeat first|apply zbN|apply zb1|apply zbA);refine zbp (cs:=#[.int .i64 a0_0, .int .i64 a0_1, .string a0_2, .int .i64 a0_3, .int .i64 a0_4, .int .i64 a0_5, .string a0_6, .int .i64 a0_7]) ?_ 0 _ rfl;(with_reducible repeat first|apply zbN|apply zb1|apply zbA);exact BK101.out) hb);have n1_:=z_ (zbb (g:=gb102) (o:=.cells #[.int .i64 a1_0, .int .i64 a1_1, .int .i64 a1_2, .string a1_3] 28 (0,0)) (by (with_reducible repeat first|apply zbN|apply zb1|apply zbA);refine zbf ?_ NB102_101.out _;(with_reducible repeat first|apply zbN|apply zb1|apply zbA);refine zbf ?_ NB102_101.out _;(with_reducible repeat first|apply zbN|apply zb1|apply zbA);refine zbf ?_ NB102_101.out _;(with_reducible repeat first|apply zbN|apply zb1|apply zbA);refine zbf ?_ NB102_101.out _;(with_reducible repeat first|apply zbN|apply zb1|apply zbA);refine zbf ?_ NB102_101.out _;(with_reducible repeat first|apply zbN|apply zb1|apply zbA);exact BK102.out) hb);have n2_:=z_ (zbb (g:=gb103) (o:=.cells #[.int .i64 0, .int .i64 0, .string (⟨#[]⟩:ByteArray), .int .i64 0, .int .i64 0, .int .i64 0, .string (⟨#[]⟩:ByteArray), .int .i64 0] 85 (0,0)) (by (with_reducible repeat first|apply zbN|apply zb1|apply zbA);refine zbf ?_ NB103_101.out _;(with_reducible repeat first|apply zbN|apply zb1|apply zbA);refine zbf ?_ NB103_101.out _;(with_reducible repeat first|apply zbN|apply zb1|apply zbA);refine zbf ?_ NB103_101.out _;(with_reducible repeat first|apply zbN|apply zb1|apply zbA);refine zbf ?_ NB103_101.out _;(with_reducible repeat first|apply zbN|apply zb1|apply zbA);refine zbf ?_ NB103_101.out _;(with_reducible repeat first|apply zbN|apply zb1|apply zbA);exact BK103.out) hb);have n3_:=z_ (below_step (by repeat first|(with_reducible first|exact HB.out|apply zA|apply zN|apply z1|refine zS ?_ GE101.out|refine zS ?_ GE102.out|refine zS ?_ GE103.out)|exact HB.out) hb);clear BK101;clear BK102;clear BK103;clear HB;have BK101:=n0_;have BK102:=n1_;have BK103:=n2_;have HB:=n3_;clear n0_ n1_ n2_ n3_;(try clear hb);(try clear hb2);(try clear hk);(try clear hi);have hnb34:=NB101_103.out;have hnc34:=NB103_101.out;have hcz35_0:w33.cell? ⟨gb101,0,none⟩ = some (.int .i64 4):=(zce BK101.out 0).trans rfl;have hcz35_1:w33.cell? ⟨gb101,1,none⟩ = some (.int .i64 a0_1):=(zce BK101.out 1).trans rfl;have hcz35_2:w33.cell? ⟨gb101,2,none⟩ = some (.string a0_2):=(zce BK101.out 2).trans rfl;have hcz35_3:w33.cell? ⟨gb101,3,none⟩ = some (.int .i64 a1_0):=(zce BK101.out 3).trans rfl;have hcz35_4:w33.cell? ⟨gb101,4,none⟩ = some (.int .i64 a1_1):=(zce BK101.out 4).trans rfl;have hcz35_5:w33.cell? ⟨gb101,5,none⟩ = some (.int .i64 a1_2):=(zce BK101.out 5).trans rfl;have hcz35_6:w33.cell? ⟨gb101,6,none⟩ = some (.string a1_3):=(zce BK101.out 6).trans rfl;have hcz35_7:w33.cell? ⟨gb101,7,none⟩ = some (.int .i64 a0_7):=(zce BK101.out 7).trans rfl;have hfz35_0:=zfz BK101.out 0;have hfz35_1:=zfz BK101.out 1;have hfz35_2:=zfz BK101.out 2;have hfz35_3:=zfz BK101.out 3;have hfz35_4:=zfz BK101.out 4;have hfz35_5:=zfz BK101.out 5;have hfz35_6:=zfz BK101.out 6;have hfz35_7:=zfz BK101.out 7;have hcz36_0:w33.cell? ⟨gb103,0,none⟩ = some (.int .i64 0):=(zce BK103.out 0).trans rfl;have hcz36_1:w33.cell? ⟨gb103,1,none⟩ = some (.int .i64 0):=(zce BK103.out 1).trans rfl;have hcz36_2:w33.cell? ⟨gb103,2,none⟩ = some (.string (⟨#[]⟩:ByteArray)):=(zce BK103.out 2).trans rfl;have hcz36_3:w33.cell? ⟨gb103,3,none⟩ = some (.int .i64 0):=(zce BK103.out 3).trans rfl;have hcz36_4:w33.cell? ⟨gb103,4,none⟩ = some (.int .i64 0):=(zce BK103.out 4).trans rfl;have hcz36_5:w33.cell? ⟨gb103,5,none⟩ = some (.int .i64 0):=(zce BK103.out 5).trans rfl;have hcz36_6:w33.cell? ⟨gb103,6,none⟩ = some (.string (⟨#[]⟩:ByteArray)):=(zce BK103.out 6).trans rfl;have hcz36_7:w33.cell? ⟨gb103,7,none⟩ = some (.int .i64 0):=(zce BK103.out 7).trans rfl;have hfz36_0:=zfz BK103.out 0;have hfz36_1:=zfz BK103.out 1;have hfz36_2:=zfz BK103.out 2;have hfz36_3:=zfz BK103.out 3;have hfz36_4:=zfz BK103.out 4;have hfz36_5:=zfz BK103.out 5;have hfz36_6:=zfz BK103.out 6;have hfz36_7:=zfz BK103.out 7))
  refine bodyPost_ret (results_cell_row rfl _ _ gb103 85 #[.int .i64 4, .int .i64 a0_1, .string a0_2, .int .i64 a1_0, .int .i64 a1_1, .int .i64 a1_2, .string a1_3, .int .i64 11] (0,0) _ rfl (by (with_reducible repeat first|apply zbN|apply zb1|apply zbA);refine zbp (cs:=#[.int .i64 4, .int .i64 a0_1, .string a0_2, .int .i64 a1_0, .int .i64 a1_1, .int .i64 a1_2, .string a1_3, .int .i64 0]) ?_ 7 _ rfl;(with_reducible repeat first|apply zbN|apply zb1|apply zbA);refine zbp (cs:=#[.int .i64 4, .int .i64 a0_1, .string a0_2, .int .i64 a1_0, .int .i64 a1_1, .int .i64 a1_2, .string (⟨#[]⟩:ByteArray), .int .i64 0]) ?_ 6 _ rfl;(with_reducible repeat first|apply zbN|apply zb1|apply zbA);refine zbp (cs:=#[.int .i64 4, .int .i64 a0_1, .string a0_2, .int .i64 a1_0, .int .i64 a1_1, .int .i64 0, .string (⟨#[]⟩:ByteArray), .int .i64 0]) ?_ 5 _ rfl;(with_reducible repeat first|apply zbN|apply zb1|apply zbA);refine zbp (cs:=#[.int .i64 4, .int .i64 a0_1, .string a0_2, .int .i64 a1_0, .int .i64 0, .int .i64 0, .string (⟨#[]⟩:ByteArray), .int .i64 0]) ?_ 4 _ rfl;(with_reducible repeat first|apply zbN|apply zb1|apply zbA);refine zbp (cs:=#[.int .i64 4, .int .i64 a0_1, .string a0_2, .int .i64 0, .int .i64 0, .int .i64 0, .string (⟨#[]⟩:ByteArray), .int .i64 0]) ?_ 3 _ rfl;(with_reducible repeat first|apply zbN|apply zb1|apply zbA);refine zbp (cs:=#[.int .i64 4, .int .i64 a0_1, .string (⟨#[]⟩:ByteArray), .int .i64 0, .int .i64 0, .int .i64 0, .string (⟨#[]⟩:ByteArray), .int .i64 0]) ?_ 2 _ rfl;(with_reducible repeat first|apply zbN|apply zb1|apply zbA);refine zbp (cs:=#[.int .i64 4, .int .i64 0, .string (⟨#[]⟩:ByteArray), .int .i64 0, .int .i64 0, .int .i64 0, .string (⟨#[]⟩:ByteArray), .int .i64 0]) ?_ 1 _ rfl;(with_reducible repeat first|apply zbN|apply zb1|apply zbA);refine zbp (cs:=#[.int .i64 0, .int .i64 0, .string (⟨#[]⟩:ByteArray), .int .i64 0, .int .i64 0, .int .i64 0, .string (⟨#[]⟩:ByteArray), .int .i64 0]) ?_ 0 _ rfl;(with_reducible repeat first|apply zbN|apply zb1|apply zbA);refine zbf ?_ NB103_101.out _;(with_reducible repeat first|apply zbN|apply zb1|apply zbA);exact BK103.out) Tryz.underlying85 rfl (by kernel_rfl)) rfl ?_
  exact ⟨by first|rfl|(simp [errW_none,errW_some] <;> rfl)|(simp [*,errW_none,errW_some] <;> rfl),by repeat first|(with_reducible first|exact HB.out|apply zA|apply zN|apply z1|refine zS ?_ GE101.out|refine zS ?_ GE102.out|refine zS ?_ GE103.out)|exact HB.out⟩
end Go.Proofs.YtdlkibeljkapeaaGreatDoor.B
namespace Go.Proofs.YtdlkibeljkapeaaGreatDoor.B
open Go.RowKit Go.Proofs.YtdlkibeljkapeaaGreatDoorW.PrintWords Go.Proofs.YtdlkibeljkapeaaGreatDoorW.PrintLast Go.Proofs.YtdlkibeljkapeaaGreatDoorW.PrintMore
attribute [local go_sem] max2_int min2_int max_two min_two max_three min_three max_four min_four
attribute [local go_sem high] own_gtr own_leq own_geq own_cell_set Option.map_some
set_option linter.unusedVariables false
set_option linter.unusedSimpArgs false
def sql_hex.f (a0:Int):Option (Bool):=(sql_digit.f a0).bind fun t101=>(if t101 = true then (some true) else (if a0 ≥ 97 then (some (decide (a0 ≤ 102))) else (some false)))
set_option maxHeartbeats 8000000 in
set_option maxRecDepth 100000 in
theorem sql_hex.calls (a0:Int) (r:Bool) (w:World) (h:sql_hex.f a0 = some r) :
  Calls Tryz.prog 127 #[.int .u8 a0] w fun e w'=>e = .returned (.bool r) ∧ Drawn0 w w':=by
 have H:((sql_digit.f a0).bind fun t101=>(if t101 = true then (some true) else (if a0 ≥ 97 then (some (decide (a0 ≤ 102))) else (some false)))) = some r:=h
 clear h
 replace H:=Option.bind_eq_some_iff.mp H
 obtain ⟨t101,A20,H⟩:=H
 replace H:(if t101 = true then (some true) else (if a0 ≥ 97 then (some (decide (a0 ≤ 102))) else (some false))) = some r:=H
 have A2:=z_ A20
 clear A20
 by_cases c3:t101 = true
 ·subst c3
  have H1:(some true) = some r:=by rw [if_pos rfl] at H;exact H
  clear H
  have H:=H1
  clear H1
  obtain rfl:=Option.some.inj H
  go_enter Tryz.func127,Tryz.ntmps127
  go_wp2_with (first|((with_reducible refine gate_callee (f:=106) rfl ?_);refine goesL_ (some 4) rfl rfl Tryz.func106 (by kernel_rfl) rfl #[.int .u8 a0] rfl (by (try simp only [List.map_toArray,List.map_cons,List.map_nil]);first|done|rfl|(simp only [List.length_drop,List.length_take];rfl)) ?_;(with_reducible refine (sql_digit.calls a0 true _ A2.out).mono ?_);rintro e w' ⟨rfl,⟨nd,rfl⟩⟩;refine ⟨_,rfl,?_⟩))
  go_ret
  exact ⟨by first|rfl|(simp;done)|(simp [*];done),by repeat (first|exact Drawn0.refl _|apply Drawn0.step)⟩
 ·replace c3:=Bool.eq_false_iff.mpr c3
  subst c3
  have H1:(if a0 ≥ 97 then (some (decide (a0 ≤ 102))) else (some false)) = some r:=by rw [if_neg (show ¬ (false = true) by decide)] at H;exact H
  clear H
  have H:=H1
  clear H1
  by_cases c4:a0 ≥ 97
  ·rw [if_pos c4] at H
   have c4b0:decide (97 ≤ a0) = true:=decide_eq_true c4
   clear c4
   obtain rfl:=Option.some.inj H
   go_enter Tryz.func127,Tryz.ntmps127
   go_wp2_with (first|((with_reducible refine gate_callee (f:=106) rfl ?_);refine goesL_ (some 4) rfl rfl Tryz.func106 (by kernel_rfl) rfl #[.int .u8 a0] rfl (by (try simp only [List.map_toArray,List.map_cons,List.map_nil]);first|done|rfl|(simp only [List.length_drop,List.length_take];rfl)) ?_;(with_reducible refine (sql_digit.calls a0 false _ A2.out).mono ?_);rintro e w' ⟨rfl,⟨nd,rfl⟩⟩;refine ⟨_,rfl,?_⟩))
   go_ret
   exact ⟨by first|rfl|(simp;done)|(simp [*];done),by repeat (first|exact Drawn0.refl _|apply Drawn0.step)⟩
  ·rw [if_neg c4] at H
   have c4b0:decide (97 ≤ a0) = false:=decide_eq_false c4
   clear c4
   obtain rfl:=Option.some.inj H
   go_enter Tryz.func127,Tryz.ntmps127
   go_wp2_with (first|((with_reducible refine gate_callee (f:=106) rfl ?_);refine goesL_ (some 4) rfl rfl Tryz.func106 (by kernel_rfl) rfl #[.int .u8 a0] rfl (by (try simp only [List.map_toArray,List.map_cons,List.map_nil]);first|done|rfl|(simp only [List.length_drop,List.length_take];rfl)) ?_;(with_reducible refine (sql_digit.calls a0 false _ A2.out).mono ?_);rintro e w' ⟨rfl,⟨nd,rfl⟩⟩;refine ⟨_,rfl,?_⟩))
   go_ret
   exact ⟨by first|rfl|(simp;done)|(simp [*];done),by repeat (first|exact Drawn0.refl _|apply Drawn0.step)⟩
end Go.Proofs.YtdlkibeljkapeaaGreatDoor.B
namespace Go.Proofs.YtdlkibeljkapeaaGreatDoor.B
open Go.RowKit Go.Proofs.YtdlkibeljkapeaaGreatDoorW.PrintWords Go.Proofs.YtdlkibeljkapeaaGreatDoorW.PrintLast Go.Proofs.YtdlkibeljkapeaaGreatDoorW.PrintMore
attribute [local go_sem] max2_int min2_int max_two min_two max_three min_three max_four min_four
attribute [local go_sem high] own_gtr own_leq own_geq own_cell_set Option.map_some
set_option linter.unusedVariables false
set_option linter.unusedSimpArgs false
def sql_past__sql_hex.l0:Nat → ByteArray → Int → Option (Int)
 | 0,_,_=>none
 | k + 1,x0,x1=>if x1 < (x0.size:Int) then (if 0 ≤ x1 then ((sql_hex.f (bt x0 x1)).bind fun t101=>(if t101 = true then (sql_past__sql_hex.l0 k x0 (wrap64 (x1 + 1))) else (some x1))) else (none)) else (some x1)
def sql_past__sql_hex.f (k:Nat) (a0:ByteArray) (a1:Int)  : Option (Int):=sql_past__sql_hex.l0 k a0 a1
set_option maxHeartbeats 8000000 in
set_option maxRecDepth 100000 in
theorem sql_past__sql_hex.calls (k:Nat) (a0:ByteArray) (a1:Int)  (r:Int) (w:World) (h:sql_past__sql_hex.f k a0 a1 = some r) :
  Calls Tryz.prog 101 #[.string a0, .int .i64 a1, .func (.func 127) #[] #[]] w fun e w'=>e = .returned (.int .i64 r) ∧ Drawn0 w w':=by
 have H:(sql_past__sql_hex.l0 k a0 a1) = some r:=h
 clear h
 have H':=z_ H
 clear H
 go_enter Tryz.func101,Tryz.ntmps101
 go_wp2
 go_loopg [1] k (fun kq v1 w'=>∃ (x1_1:Int),v1 = .int .i64 x1_1 ∧ Aside0 (sql_past__sql_hex.l0 kq a0 x1_1 = some r) ∧ Aside0 (kq ≤ k) ∧ Drawn0 w w')
 case atStart=>exact ⟨(a1),(by first|rfl|(simp;done)|(simp [*];done)),H',⟨Nat.le_refl _⟩,by repeat (first|exact Drawn0.refl _|apply Drawn0.step)⟩
 case round =>
  clear H'
  try clear p2
  obtain ⟨x1_1,rfl,HA,HK1,⟨m1,rfl⟩⟩:=hrel
  cases gk with
  | zero=>exact absurd HA.out (by simp [sql_past__sql_hex.l0])
  | succ k1 =>
   have H:=HA.out
   clear HA
   simp only [sql_past__sql_hex.l0] at H
   by_cases c4:x1_1 < (a0.size:Int)
   ·rw [if_pos c4] at H
    have c4b0:decide (x1_1 < (a0.size:Int)) = true:=decide_eq_true c4
    clear c4
    by_cases c5:0 ≤ x1_1
    ·rw [if_pos c5] at H
     have c5b0:decide (0 ≤ x1_1) = true:=decide_eq_true c5
     clear c5
     replace H:=Option.bind_eq_some_iff.mp H
     obtain ⟨t101,A70,H⟩:=H
     replace H:(if t101 = true then (sql_past__sql_hex.l0 k1 a0 (wrap64 (x1_1 + 1))) else (some x1_1)) = some r:=H
     have A7:=z_ A70
     clear A70
     by_cases c8:t101 = true
     ·subst c8
      have H1:(sql_past__sql_hex.l0 k1 a0 (wrap64 (x1_1 + 1))) = some r:=by rw [if_pos rfl] at H;exact H
      clear H
      have H:=H1
      clear H1
      have H':=z_ H
      clear H
      have p6:0 ≤ (x1_1:Int):=of_decide_eq_true (by first|(with_reducible assumption)|assumption)
      have q6:x1_1 < (a0.size:Int):=of_decide_eq_true (by first|(with_reducible assumption)|assumption)
      have hx6:=bt_at a0 x1_1
      replace p6:=eq_true p6
      replace q6:=eq_true q6
      go_wp2_with (first|(go_at_call 127;(with_reducible refine (sql_hex.calls (bt a0 x1_1) true _ A7.out).mono ?_);rintro e w' ⟨rfl,⟨nd,rfl⟩⟩))
      go_roundg k1
      case measure=>have:=HK1.out;omega
      case rel=>exact ⟨(wrap64 (x1_1 + 1)),(by first|rfl|(simp;done)|(simp [*];done)),H',⟨by have:=HK1.out;omega⟩,by repeat (first|exact Drawn0.refl _|apply Drawn0.step)⟩
     ·replace c8:=Bool.eq_false_iff.mpr c8
      subst c8
      have H1:(some x1_1) = some r:=by rw [if_neg (show ¬ (false = true) by decide)] at H;exact H
      clear H
      have H:=H1
      clear H1
      obtain rfl:=Option.some.inj H
      have p6:0 ≤ (x1_1:Int):=of_decide_eq_true (by first|(with_reducible assumption)|assumption)
      have q6:x1_1 < (a0.size:Int):=of_decide_eq_true (by first|(with_reducible assumption)|assumption)
      have hx6:=bt_at a0 x1_1
      replace p6:=eq_true p6
      replace q6:=eq_true q6
      go_wp2_with (first|(go_at_call 127;(with_reducible refine (sql_hex.calls (bt a0 x1_1) false _ A7.out).mono ?_);rintro e w' ⟨rfl,⟨nd,rfl⟩⟩))
      go_ret
      exact ⟨by first|rfl|(simp;done)|(simp [*];done),by repeat (first|exact Drawn0.refl _|apply Drawn0.step)⟩
    ·rw [if_neg c5] at H
     exact absurd H (by simp)
   ·rw [if_neg c4] at H
    have c4b0:decide (x1_1 < (a0.size:Int)) = false:=decide_eq_false c4
    clear c4
    obtain rfl:=Option.some.inj H
    go_wp2
    go_ret
    exact ⟨by first|rfl|(simp;done)|(simp [*];done),by repeat (first|exact Drawn0.refl _|apply Drawn0.step)⟩
end Go.Proofs.YtdlkibeljkapeaaGreatDoor.B
