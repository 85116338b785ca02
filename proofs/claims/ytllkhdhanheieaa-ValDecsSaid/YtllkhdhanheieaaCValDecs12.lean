-- Written by drive.py and pack.py (programs of this proof's own) through the kit's printer; not trusted: Lean checks it.
import Derived.Test.YtllkhdhanheieaaCValDecs1
import Derived.Test.YtllkhdhanheieaaCValDecs7
import Derived.Test.YtllkhdhanheieaaCValDecs10
import Derived.Test.YtllkhdhanheieaaCValDecs3
import Derived.Test.YtllkhdhanheieaaCValDecs6
import Derived.Test.YtllkhdhanheieaaCValDecs5
import Derived.Test.YtllkhdhanheieaaCValDecs4
import Derived.Test.YtllkhdhanheieaaCValDecs11
import Derived.Lib.Strings
namespace Go.Proofs.Ytllkhdhanheieaa.V
open Go.RowKit Go.Proofs.YtllkhdhanheieaaW.PrintWords Go.Proofs.YtllkhdhanheieaaW.PrintLast Go.Proofs.YtllkhdhanheieaaW.PrintMore
attribute [local go_sem] max2_int min2_int max_two min_two max_three min_three max_four min_four
attribute [local go_sem high] own_gtr own_leq own_geq own_cell_set Option.map_some fld23_1
set_option linter.unusedVariables false
set_option linter.unusedSimpArgs false
def overR : Int × Int × Int × ByteArray × Int := (0, 0, 0, (⟨#[]⟩ : ByteArray), 10)
def typeR : Int × Int × Int × ByteArray × Int := (0, 0, 0, (⟨#[]⟩ : ByteArray), 5)
def nullR : Int × Int × Int × ByteArray × Int := (0, 0, 0, (⟨#[]⟩ : ByteArray), 0)
def sgn (op : Int) : Int := if op = 7 then 1 else -1
def decsRes (op n1 : Int) (s1 : Nat) (n2 : Int) (s2 : Nat) : Int × Int × Int × ByteArray × Int :=
  if op = 6 then (if inI (n1 * n2) = true then decRes (n1 * n2) (s1 + s2) else overR) else decRes (n1 * p10 (6 - s1) + sgn op * (n2 * p10 (6 - s2))) 6
structure RD (n : Int) (s : Nat) : Prop where
  lo : -1000000000000000 < n
  hi : n < 1000000000000000
  sc : s ≤ 6
  nm : s = 0 ∨ n % 10 ≠ 0
theorem decRes_big (n : Int) (s : Nat) (h : s = 0 ∨ n % 10 ≠ 0) (hb : 1000000000000000 ≤ n ∨ n ≤ -1000000000000000) : decRes n s = overR := by
  unfold decRes; rw [red_same n s h, if_neg (by omega)]; rfl
theorem mul_p10_mod (n : Int) (j : Nat) (h : 0 < j) : n * p10 j % 10 = 0 := by
  obtain ⟨i, rfl⟩ : ∃ i, j = i + 1 := ⟨j - 1, by omega⟩
  rw [p10_succ, ← Int.mul_assoc]; omega
theorem exactly_sgn (op a b : Int) (h : op ≠ 6) : exactly op a b = a + sgn op * b := by
  unfold exactly sgn
  rw [if_neg h]
  by_cases h7 : op = 7
  · rw [if_pos h7, if_pos h7, Int.one_mul]
  · rw [if_neg h7, if_neg h7]; omega
theorem mxabs (n : Int) (h0 : -9223372036854775808 < n) (h1 : n ≤ 9223372036854775807) : mx n (wrap64 (-n)) = (n.natAbs : Int) := by
  rw [wrap64_of (by omega) (by omega)]; unfold mx; split <;> omega
theorem far_div (p : Int) (hp : 0 < p) (hp2 : p ≤ 1000000) : wrap64 (Int.tdiv 4611686018427387904 p) = 4611686018427387904 / p := by
  have h1 : 0 ≤ (4611686018427387904 : Int) / p := Int.ediv_nonneg (by decide) (by omega)
  have h2 : (4611686018427387904 : Int) / p ≤ 4611686018427387904 := Int.ediv_le_self _ (by decide)
  rw [Int.tdiv_eq_ediv_of_nonneg (by decide), wrap64_of (by omega) (by omega)]
theorem far_le (p x : Int) (hp : 0 < p) (hx : 0 ≤ x) : x > 4611686018427387904 / p ↔ x * p > 4611686018427387904 - (4611686018427387904 % p) := by
  have h1 := Int.mul_ediv_add_emod 4611686018427387904 p
  generalize 4611686018427387904 / p = q at *
  generalize 4611686018427387904 % p = r at *
  constructor
  · intro h
    have := Int.mul_lt_mul_of_pos_right h hp
    rw [Int.mul_comm q p] at this
    omega
  · intro h
    have h2 : q * p < x * p := by rw [Int.mul_comm q p]; omega
    exact Int.lt_of_mul_lt_mul_right h2 (by omega)
theorem val_decs_eq (k : Nat) (op n1 : Int) (s1 : Nat) (t1 : ByteArray) (n2 : Int) (s2 : Nat) (t2 : ByteArray) (k1 k2 : Int) (hk : 70 < k) (h1 : RD n1 s1) (h2 : RD n2 s2) :
    ∃ v1 v2 v3 v4, ∃ b : Bool, val_decs.f k op k1 n1 (s1 : Int) t1 k2 n2 (s2 : Int) t2 = some (v1, v2, v3, v4, b) ∧ (if b = true then (v1, v2, v3, v4, (0 : Int)) else overR) = decsRes op n1 s1 n2 s2 := by
  have b1 := h1.lo; have b2 := h1.hi; have b3 := h1.sc
  have c1 := h2.lo; have c2 := h2.hi; have c3 := h2.sc
  have fin : ∀ (n : Int) (s : Nat), (if (decide (-1000000000000000 < (red n s).1 ∧ (red n s).1 < 1000000000000000 ∧ (red n s).2 ≤ 6)) = true then ((3 : Int), (red n s).1, ((red n s).2 : Int), (⟨#[]⟩ : ByteArray), (0 : Int)) else overR) = decRes n s := by
    intro n s; unfold decRes overR; simp only [decide_eq_true_eq]
  unfold val_decs.f decsRes
  by_cases h6 : op = 6
  · rw [if_pos h6, if_pos h6, val_two_eq op n1 n2 ⟨by omega, by omega⟩ ⟨by omega, by omega⟩]
    have he : exactly op n1 n2 = n1 * n2 := by unfold exactly; rw [if_pos h6]
    simp only [Option.bind_some, he]
    rw [wrap64_of (x := (s1 : Int) + (s2 : Int)) (by omega) (by omega), show (s1 : Int) + (s2 : Int) = ((s1 + s2 : Nat) : Int) by omega]
    have hw : I64 (wrap64 (n1 * n2)) := by unfold I64 wrap64; omega
    refine ⟨_, _, _, _, _, val_end k (wrap64 (n1 * n2)) (s1 + s2) (inI (n1 * n2)) (by omega) (by omega) hw, ?_⟩
    cases hi : inI (n1 * n2) with
    | false => simp
    | true =>
      rw [wrap64_inI _ hi, Bool.true_and, if_pos rfl]
      exact fin _ _
  · rw [if_neg h6, if_neg h6]
    unfold val_same.f
    obtain ⟨m, hm, hm1, hm2⟩ : ∃ m : Nat, m ≤ 6 ∧ s1 ≤ m ∧ s2 ≤ m ∧ mx (s1 : Int) (s2 : Int) = (m : Int) ∧ (m = s1 ∨ m = s2) := by
      refine ⟨max s1 s2, by omega, by omega, by omega, ?_, by omega⟩
      unfold mx; split <;> omega
    obtain ⟨hm2, hmx, hmo⟩ := hm2
    rw [hmx, show (m : Int) - (s1 : Int) = ((m - s1 : Nat) : Int) by omega, show (m : Int) - (s2 : Int) = ((m - s2 : Nat) : Int) by omega]
    rw [wrap64_of (x := ((m - s1 : Nat) : Int)) (by omega) (by omega), wrap64_of (x := ((m - s2 : Nat) : Int)) (by omega) (by omega)]
    rw [val_ten_eq k _ (by omega) (by omega), val_ten_eq k _ (by omega) (by omega)]
    simp only [Option.bind_some]
    have hp := p10_pos (m - s1)
    have hq := p10_pos (m - s2)
    have hp2 : p10 (m - s1) ≤ 1000000 := by have := p10_mono (show m - s1 ≤ 6 by omega); rw [p10_six] at this; exact this
    have hq2 : p10 (m - s2) ≤ 1000000 := by have := p10_mono (show m - s2 ≤ 6 by omega); rw [p10_six] at this; exact this
    rw [mxabs n1 (by omega) (by omega), mxabs n2 (by omega) (by omega), far_div _ hp hp2, far_div _ hq hq2]
    rw [if_neg (show ¬ p10 (m - s1) = 0 by omega)]
    have hspec : decRes (n1 * p10 (6 - s1) + sgn op * (n2 * p10 (6 - s2))) 6 = decRes (n1 * p10 (m - s1) + sgn op * (n2 * p10 (m - s2))) m := by
      have e1 : p10 (6 - s1) = p10 (m - s1) * p10 (6 - m) := by rw [← p10_add]; congr 1; omega
      have e2 : p10 (6 - s2) = p10 (m - s2) * p10 (6 - m) := by rw [← p10_add]; congr 1; omega
      have e3 : n1 * p10 (6 - s1) + sgn op * (n2 * p10 (6 - s2)) = (n1 * p10 (m - s1) + sgn op * (n2 * p10 (m - s2))) * p10 (6 - m) := by
        rw [e1, e2, Int.add_mul, Int.mul_assoc, Int.mul_assoc, Int.mul_assoc]
      have e4 := decRes_tens (n1 * p10 (m - s1) + sgn op * (n2 * p10 (m - s2))) (6 - m) m
      rw [show m + (6 - m) = 6 by omega] at e4
      rw [e3, e4]
    rw [hspec]
    have hs : sgn op = 1 ∨ sgn op = -1 := by unfold sgn; split <;> omega
    have a1 : m = s1 → n1 * p10 (m - s1) = n1 := fun e => by rw [e, Nat.sub_self, p10_zero, Int.mul_one]
    have a2 : m = s2 → n2 * p10 (m - s2) = n2 := fun e => by rw [e, Nat.sub_self, p10_zero, Int.mul_one]
    have z1 : m ≠ s1 → n1 * p10 (m - s1) % 10 = 0 := fun e => mul_p10_mod n1 _ (by omega)
    have z2 : m ≠ s2 → n2 * p10 (m - s2) % 10 = 0 := fun e => mul_p10_mod n2 _ (by omega)
    have nm1 := h1.nm
    have nm2 := h2.nm
    have hab1 : (n1.natAbs : Int) * p10 (m - s1) = ((n1 * p10 (m - s1)).natAbs : Int) := by rw [Int.natAbs_mul, Int.natCast_mul, Int.natAbs_of_nonneg (Int.le_of_lt hp)]
    have hab2 : (n2.natAbs : Int) * p10 (m - s2) = ((n2 * p10 (m - s2)).natAbs : Int) := by rw [Int.natAbs_mul, Int.natCast_mul, Int.natAbs_of_nonneg (Int.le_of_lt hq)]
    have f1 := far_le (p10 (m - s1)) n1.natAbs hp (by omega)
    have f2 := far_le (p10 (m - s2)) n2.natAbs hq (by omega)
    rw [hab1] at f1
    rw [hab2] at f2
    have r1 := Int.emod_lt_of_pos 4611686018427387904 hp
    have r2 := Int.emod_lt_of_pos 4611686018427387904 hq
    have r3 := Int.emod_nonneg 4611686018427387904 (show p10 (m - s1) ≠ 0 by omega)
    have r4 := Int.emod_nonneg 4611686018427387904 (show p10 (m - s2) ≠ 0 by omega)
    generalize n1 * p10 (m - s1) = x at *
    generalize n2 * p10 (m - s2) = y at *
    by_cases g1 : (n1.natAbs : Int) > 4611686018427387904 / p10 (m - s1)
    · rw [if_pos g1]
      refine ⟨0, 0, 0, _, false, by simp only [Option.bind_some]; rfl, ?_⟩
      have g2 := f1.1 g1
      rw [if_neg (by decide)]
      symm
      by_cases e1 : m = s1
      · have := a1 e1; omega
      · have e2 : m = s2 := by omega
        have := a2 e2
        have := z1 e1
        rcases hs with hs | hs <;> rw [hs] <;> (apply decRes_big <;> omega)
    rw [if_neg g1, if_neg (show ¬ p10 (m - s2) = 0 by omega)]
    have g2 : ¬ _ := fun h => g1 (f1.2 h)
    by_cases g3 : (n2.natAbs : Int) > 4611686018427387904 / p10 (m - s2)
    · rw [if_pos g3]
      refine ⟨0, 0, 0, _, false, by simp only [Option.bind_some]; rfl, ?_⟩
      have g4 := f2.1 g3
      rw [if_neg (by decide)]
      symm
      by_cases e1 : m = s2
      · have := a2 e1; omega
      · have e2 : m = s1 := by omega
        have := a1 e2
        have := z2 e1
        rcases hs with hs | hs <;> rw [hs] <;> (apply decRes_big <;> omega)
    rw [if_neg g3]
    have g4 : ¬ _ := fun h => g3 (f2.2 h)
    simp only [Option.bind_some, if_true]
    rw [wrap64_of (x := x) (by omega) (by omega), wrap64_of (x := y) (by omega) (by omega)]
    rw [val_two_eq op x y ⟨by omega, by omega⟩ ⟨by omega, by omega⟩, exactly_sgn op x y h6]
    simp only [Option.bind_some]
    have hin : I64 (x + sgn op * y) := by
      unfold I64
      rcases hmo with e | e
      · have := a1 e
        rcases hs with hs | hs <;> rw [hs] <;> omega
      · have := a2 e
        rcases hs with hs | hs <;> rw [hs] <;> omega
    have hi : inI (x + sgn op * y) = true := by unfold inI; rw [decide_eq_true_eq]; exact hin
    rw [hi, wrap64_inI _ hi]
    refine ⟨_, _, _, _, _, val_end k (x + sgn op * y) m true (by omega) (by omega) hin, ?_⟩
    rw [Bool.true_and]
    exact fin _ _
def num (kd : Int) : Bool := kd == 0 || kd == 2 || kd == 3
def reckRes (op k1 n1 : Int) (s1 : Nat) (k2 n2 : Int) (s2 : Nat) : Int × Int × Int × ByteArray × Int :=
  if (op = 6 ∨ op = 7 ∨ op = 8) ∧ num k1 = true ∧ num k2 = true then
    (if k1 = 0 ∨ k2 = 0 then nullR else if k1 = k2 then (if k1 = 2 then intRes op n1 n2 else decsRes op n1 s1 n2 s2) else typeR)
  else typeR
structure RV (kd n : Int) (s : Nat) : Prop where
  i : I64 n
  d : kd = 3 → RD n s
theorem val_Reckon_j0 (k : Nat) (op k1 n1 : Int) (s1 : Nat) (t1 : ByteArray) (k2 n2 : Int) (s2 : Nat) (t2 : ByteArray) (hk : 100 < k) (h1 : RV k1 n1 s1) (h2 : RV k2 n2 s2) :
    val_Reckon.j0 k op k1 n1 (s1 : Int) t1 k2 n2 (s2 : Int) t2 = some (reckRes op k1 n1 s1 k2 n2 s2) := by
  obtain ⟨k, rfl⟩ : ∃ m, k = m + 3 := ⟨k - 3, by omega⟩
  have hn : ∀ kd n s t, val_reckons.f kd n s t = some (num kd) := fun kd n s t => by
    unfold val_reckons.f num
    by_cases a : kd = 0
    · rw [if_pos a]; simp [a]
    · rw [if_neg a]
      by_cases b : kd = 2
      · rw [if_pos b]; simp [b]
      · rw [if_neg b]; simp [a, b]
  have tail : ∀ b : Bool, val_Reckon.j1 (k + 2) op b k1 n1 (s1 : Int) t1 k2 n2 (s2 : Int) t2 = some (if b = true then typeR else if k1 = 0 ∨ k2 = 0 then nullR else if k1 = k2 then (if k1 = 2 then intRes op n1 n2 else decsRes op n1 s1 n2 s2) else typeR) ∨ num k1 = false ∨ num k2 = false := by
    intro b
    cases hn1 : num k1 with
    | false => exact Or.inr (Or.inl rfl)
    | true =>
    cases hn2 : num k2 with
    | false => exact Or.inr (Or.inr rfl)
    | true =>
    left
    simp only [val_Reckon.j1]
    cases b with
    | true => rfl
    | false =>
    simp only [Bool.false_eq_true, if_false]
    by_cases z1 : k1 = 0
    · rw [if_pos z1, if_pos (Or.inl z1)]; simp only [val_Reckon.j2, if_true]; rfl
    · rw [if_neg z1]
      simp only [val_Reckon.j2]
      by_cases z2 : k2 = 0
      · rw [if_pos (by simpa using z2), if_pos (Or.inr z2)]; rfl
      · rw [if_neg (by simpa using z2), if_neg (show ¬(k1 = 0 ∨ k2 = 0) by omega)]
        by_cases e : k1 = k2
        · rw [if_pos e, if_pos e]
          unfold val_reckoner_of.f
          by_cases e2 : k1 = 2
          · rw [if_pos e2, if_pos e2]
            unfold val_ints.f intRes
            rw [val_two_eq op n1 n2 h1.i h2.i]
            simp only [Option.bind_some]
            by_cases hi : inI (exactly op n1 n2) = true
            · rw [if_pos hi, if_pos hi, wrap64_inI _ hi]
            · rw [if_neg hi, if_neg hi]
          · rw [if_neg e2, if_neg e2]
            have e3 : k1 = 3 := by unfold num at hn1; simp at hn1; omega
            obtain ⟨v1, v2, v3, v4, b, hd, hr⟩ := val_decs_eq k op n1 s1 t1 n2 s2 t2 k1 k2 (by omega) (h1.d e3) (h2.d (by omega))
            rw [hd]
            simp only [Option.bind_some]
            rw [← hr]
            cases b <;> rfl
        · rw [if_neg e, if_neg e]; rfl
  have t0 := tail false
  have t1_ := tail true
  have stop : val_Reckon.j1 (k + 2) op true k1 n1 (s1 : Int) t1 k2 n2 (s2 : Int) t2 = some typeR := by simp only [val_Reckon.j1, if_true]; rfl
  simp only [val_Reckon.j0, hn, Option.bind_some]
  unfold reckRes
  have both : (if num k1 = true then val_Reckon.j1 (k + 2) op (!num k2) k1 n1 (s1 : Int) t1 k2 n2 (s2 : Int) t2 else val_Reckon.j1 (k + 2) op true k1 n1 (s1 : Int) t1 k2 n2 (s2 : Int) t2) = some (if num k1 = true ∧ num k2 = true then (if k1 = 0 ∨ k2 = 0 then nullR else if k1 = k2 then (if k1 = 2 then intRes op n1 n2 else decsRes op n1 s1 n2 s2) else typeR) else typeR) := by
    cases a1 : num k1 with
    | false => simp [stop]
    | true =>
      cases a2 : num k2 with
      | false => simp [stop]
      | true =>
        simp only [if_true, Bool.not_true, and_self]
        rcases t0 with h | h | h
        · exact h
        · rw [a1] at h; cases h
        · rw [a2] at h; cases h
  by_cases c6 : op = 6
  · rw [if_pos c6, both]; simp [c6]
  · rw [if_neg c6]
    by_cases c7 : op = 7
    · rw [if_pos c7, both]; simp [c7]
    · rw [if_neg c7]
      by_cases c8 : op = 8
      · rw [if_pos c8, both]; simp [c8]
      · rw [if_neg c8, stop]; simp [c6, c7, c8]
def reckB (op k1 n1 : Int) (s1 : Nat) (k2 n2 : Int) (s2 : Nat) : Int × Int × Int × ByteArray × Int :=
  if op = 4 then reckRes 8 k1 0 0 k1 n1 s1 else reckRes op k1 n1 s1 k2 n2 s2
theorem RV_zero (kd : Int) : RV kd 0 0 := ⟨⟨by decide, by decide⟩, fun _ => ⟨by decide, by decide, by decide, Or.inl rfl⟩⟩
theorem val_Reckon_eq (k : Nat) (op k1 n1 : Int) (s1 : Nat) (t1 : ByteArray) (k2 n2 : Int) (s2 : Nat) (t2 : ByteArray) (hk : 100 < k) (h1 : RV k1 n1 s1) (h2 : RV k2 n2 s2) :
    val_Reckon.f k op k1 n1 (s1 : Int) t1 k2 n2 (s2 : Int) t2 = some (reckB op k1 n1 s1 k2 n2 s2) := by
  unfold val_Reckon.f reckB
  by_cases c : op = 4
  · rw [if_pos c, if_pos c]
    exact val_Reckon_j0 k 8 k1 0 0 _ k1 n1 s1 t1 hk (RV_zero k1) h1
  · rw [if_neg c, if_neg c]
    exact val_Reckon_j0 k op k1 n1 s1 t1 k2 n2 s2 t2 hk h1 h2
end Go.Proofs.Ytllkhdhanheieaa.V
namespace Go.Proofs.Ytllkhdhanheieaa.V
open Go.RowKit Go.Proofs.YtllkhdhanheieaaW.PrintWords Go.Proofs.YtllkhdhanheieaaW.PrintLast Go.Proofs.YtllkhdhanheieaaW.PrintMore
attribute [local go_sem] max2_int min2_int max_two min_two max_three min_three max_four min_four
attribute [local go_sem high] own_gtr own_leq own_geq own_cell_set Option.map_some fld23_1
set_option linter.unusedVariables false
set_option linter.unusedSimpArgs false
def BufAt (w : World) (G : Nat) (l : List Int) : Prop := ∃ cur : Array Value, ∃ m : Nat, w.heap[G]? = some (.cells cur 5 (m, m + 1)) ∧ l.length ≤ m ∧ m = cur.size ∧ ∀ j, j < l.length → cur[j]? = some (.int .u8 (l.getD j 0))
theorem BufAt.cell {w : World} {G : Nat} {l : List Int} (h : BufAt w G l) (j : Nat) (hj : j < l.length) : w.cell? ⟨G, j, none⟩ = some (.int .u8 (l.getD j 0)) := by
  obtain ⟨cur, m, h1, h2, h3, h4⟩ := h
  simp [World.cell?, h1, h4 j hj]
theorem BufAt.set {w : World} {G : Nat} {l : List Int} (h : BufAt w G l) (j : Nat) (x : Int) : BufAt (w.setCell ⟨G, j, none⟩ (.int .u8 x)) G (l.set j x) := by
  obtain ⟨cur, m, h1, h2, h3, h4⟩ := h
  refine ⟨cur.setIfInBounds j (.int .u8 x), m, ?_, by simpa using h2, by simpa using h3, ?_⟩
  · simp [World.setCell, Array.getElem?_modify, h1]
  · intro i hi
    rw [List.length_set] at hi
    rw [Array.getElem?_setIfInBounds]
    by_cases e : j = i
    · subst e
      rw [if_pos rfl, if_pos (by omega)]
      simp [List.getD, hi]
    · rw [if_neg e, h4 i hi]
      simp [List.getD, List.getElem?_set_ne e]
theorem BufAt.drewN {w : World} {G : Nat} {l : List Int} (h : BufAt w G l) (n : Nat) : BufAt (w.drewN n) G l := by
  obtain ⟨cur, m, h1, h⟩ := h
  exact ⟨cur, m, by simpa using h1, h⟩
end Go.Proofs.Ytllkhdhanheieaa.V
namespace Go.Proofs.Ytllkhdhanheieaa.V
open Go.RowKit Go.Proofs.YtllkhdhanheieaaW.PrintWords Go.Proofs.YtllkhdhanheieaaW.PrintLast Go.Proofs.YtllkhdhanheieaaW.PrintMore
attribute [local go_sem] max2_int min2_int max_two min_two max_three min_three max_four min_four
attribute [local go_sem high] own_gtr own_leq own_geq own_cell_set Option.map_some fld23_1
set_option linter.unusedVariables false
set_option linter.unusedSimpArgs false
theorem within_eq (a n : Int) (ha : I64 a) (h0 : 0 < n) (h1 : n ≤ 4611686018427387904) : federationlaw1_within.f a n = some (a % n) := by
  unfold federationlaw1_within.f I64 at *
  rw [if_neg (by omega)]
  have e1 := Int.mul_tdiv_add_tmod a n
  have e2 := Int.mul_ediv_add_emod a n
  have e3 := Int.emod_lt_of_pos a h0
  have e4 := Int.emod_nonneg a (show n ≠ 0 by omega)
  have e5 := Int.tmod_lt_of_pos a h0
  have e6 := Int.tmod_lt_of_pos (-a) h0
  rw [Int.neg_tmod] at e6
  by_cases c : a.tmod n < 0
  · rw [if_pos c, wrap64_of (by omega) (by omega)]
    have := ((Int.ediv_emod_unique (a := a) (r := a.tmod n + n) (q := a.tdiv n - 1) h0).2 ⟨by rw [Int.mul_sub, Int.mul_one]; omega, by omega, by omega⟩).2
    rw [this]
  · rw [if_neg c]
    have := ((Int.ediv_emod_unique (a := a) (r := a.tmod n) (q := a.tdiv n) h0).2 ⟨by omega, by omega, by omega⟩).2
    rw [this]
theorem emod_bd (a n : Int) (h0 : 0 < n) : 0 ≤ a % n ∧ a % n < n := ⟨Int.emod_nonneg a (by omega), Int.emod_lt_of_pos a h0⟩
theorem RD_red (n : Int) (s : Nat) (h0 : -1000000000000000 < n) (h1 : n < 1000000000000000) (hs : s ≤ 6) : RD (red n s).1 (red n s).2 := by
  have a := red_abs s n
  have b := red_scale s n
  have c := red_done s n
  exact ⟨by omega, by omega, by omega, c⟩
end Go.Proofs.Ytllkhdhanheieaa.V
namespace Go.Proofs.Ytllkhdhanheieaa.V
open Go.RowKit Go.Proofs.YtllkhdhanheieaaW.PrintWords Go.Proofs.YtllkhdhanheieaaW.PrintLast Go.Proofs.YtllkhdhanheieaaW.PrintMore
attribute [local go_sem] max2_int min2_int max_two min_two max_three min_three max_four min_four
attribute [local go_sem high] own_gtr own_leq own_geq own_cell_set Option.map_some fld23_1
set_option linter.unusedVariables false
set_option linter.unusedSimpArgs false
theorem I64_of {x : Int} (h : (Lit.int .i64 x).wf = true) : I64 x := by
  have h1 : IntKind.i64.min = -9223372036854775808 := by decide
  have h2 : IntKind.i64.max = 9223372036854775807 := by decide
  simp only [Lit.wf, Bool.and_eq_true, decide_eq_true_eq, h1, h2] at h
  exact h
theorem known_two : federationlaw1_known.f 200 = some true := by decide +kernel
theorem known_ge {k : Nat} (h : 200 ≤ k) : federationlaw1_known.f k = some true := at_rounds federationlaw1_known.mono h known_two
end Go.Proofs.Ytllkhdhanheieaa.V
namespace Go.Proofs.Ytllkhdhanheieaa.V
open Go.RowKit Go.Proofs.YtllkhdhanheieaaW.PrintWords Go.Proofs.YtllkhdhanheieaaW.PrintLast Go.Proofs.YtllkhdhanheieaaW.PrintMore
attribute [local go_sem] max2_int min2_int max_two min_two max_three min_three max_four min_four
attribute [local go_sem high] own_gtr own_leq own_geq own_cell_set Option.map_some fld23_1
set_option linter.unusedVariables false
set_option linter.unusedSimpArgs false
theorem decRes_RD {n : Int} {s : Nat} (h : RD n s) : decRes (n * p10 (6 - s)) 6 = (3, n, (s : Int), (⟨#[]⟩ : ByteArray), 0) := by
  have hs := h.sc
  have hp := red_tens n (6 - s) s
  rw [show s + (6 - s) = 6 by omega, red_same n s h.nm] at hp
  unfold decRes
  rw [hp, if_pos ⟨h.lo, h.hi, h.sc⟩]
end Go.Proofs.Ytllkhdhanheieaa.V
namespace Go.Proofs.Ytllkhdhanheieaa.Pure
open Go.RowKit Go.Proofs.Ytllkhdhanheieaa.V Go.Proofs.YtllkhdhanheieaaW.PrintWords Go.Proofs.YtllkhdhanheieaaW.PrintLast Go.Proofs.YtllkhdhanheieaaW.PrintMore
theorem minus_decs (n1 : Int) (s1 : Nat) (n2 : Int) (s2 : Nat) : reckB 8 3 n1 s1 3 n2 s2 = decRes (n1 * p10 (6 - s1) - n2 * p10 (6 - s2)) 6 := by
  unfold reckB reckRes decsRes
  rw [if_neg (by decide), if_pos ⟨by decide, by decide, by decide⟩, if_neg (by decide), if_pos rfl, if_neg (by decide), if_neg (by decide)]
  show decRes (_ + -1 * _) 6 = _
  congr 1
  omega
theorem ValDecs : federationlaw1_ValDecs.Pure := by
  intro a0 a1 a2 a3 w0 w1 w2 w3
  refine ⟨300, ?_⟩
  have i0 := I64_of w0; have i1 := I64_of w1; have i2 := I64_of w2; have i3 := I64_of w3
  have b0 := emod_bd a0 2000000 (by decide)
  have b1 := emod_bd a1 7 (by decide)
  have b2 := emod_bd a2 2000000 (by decide)
  have b3 := emod_bd a3 7 (by decide)
  obtain ⟨s, hs⟩ : ∃ s : Nat, a1 % 7 = (s : Int) := ⟨(a1 % 7).toNat, by omega⟩
  obtain ⟨t, ht⟩ : ∃ t : Nat, a3 % 7 = (t : Int) := ⟨(a3 % 7).toNat, by omega⟩
  have hX := RD_red (a0 % 2000000 - 1000000) s (by omega) (by omega) (by omega)
  have hY := RD_red (a2 % 2000000 - 1000000) t (by omega) (by omega) (by omega)
  have aX := red_abs s (a0 % 2000000 - 1000000)
  have aY := red_abs t (a2 % 2000000 - 1000000)
  unfold federationlaw1_ValDecs.f
  rw [known_ge (by decide), Option.bind_some, if_pos rfl, within_eq a0 2000000 i0 (by decide) (by decide), Option.bind_some, within_eq a1 7 i1 (by decide) (by decide), Option.bind_some, hs, wrap64_of (x := a0 % 2000000 - 1000000) (by omega) (by omega), ref_Norm_eq 300 s _ _ (by omega) (by omega) (by omega) (by omega), Option.bind_some]
  dsimp only
  rw [within_eq a2 2000000 i2 (by decide) (by decide), Option.bind_some, within_eq a3 7 i3 (by decide) (by decide), Option.bind_some, ht, wrap64_of (x := a2 % 2000000 - 1000000) (by omega) (by omega), ref_Norm_eq 300 t _ _ (by omega) (by omega) (by omega) (by omega), Option.bind_some]
  dsimp only
  generalize (red (a0 % 2000000 - 1000000) s).1 = n1 at *
  generalize (red (a0 % 2000000 - 1000000) s).2 = s1 at *
  generalize (red (a2 % 2000000 - 1000000) t).1 = n2 at *
  generalize (red (a2 % 2000000 - 1000000) t).2 = s2 at *
  have RVd : ∀ {n : Int} {s : Nat}, RD n s → RV 3 n s := fun {n s} h => ⟨by have := h.lo; have := h.hi; unfold I64; omega, fun _ => h⟩
  have micb : ∀ (n : Int) (s : Nat), s ≤ 6 → n.natAbs ≤ 1000000 → -1000000000000 ≤ n * p10 (6 - s) ∧ n * p10 (6 - s) ≤ 1000000000000 := fun n s hs hn => by
    have hp := p10_pos (6 - s)
    have hp6 := p10_mono (m := 6 - s) (n := 6) (by omega)
    have e6 := p10_six
    have c1 : n * p10 (6 - s) ≤ 1000000 * p10 (6 - s) := Int.mul_le_mul_of_nonneg_right (by omega) (by omega)
    have c2 : -1000000 * p10 (6 - s) ≤ n * p10 (6 - s) := Int.mul_le_mul_of_nonneg_right (by omega) (by omega)
    omega
  have cX := micb n1 s1 hX.sc (by omega)
  have cY := micb n2 s2 hY.sc (by omega)
  have hR := RD_red (n1 * p10 (6 - s1) - n2 * p10 (6 - s2)) 6 (by omega) (by omega) (by decide)
  have vR := red_value 6 (n1 * p10 (6 - s1) - n2 * p10 (6 - s2))
  have eR : decRes (n1 * p10 (6 - s1) - n2 * p10 (6 - s2)) 6 = (3, (red (n1 * p10 (6 - s1) - n2 * p10 (6 - s2)) 6).1, ((red (n1 * p10 (6 - s1) - n2 * p10 (6 - s2)) 6).2 : Int), (⟨#[]⟩ : ByteArray), 0) := by
    unfold decRes
    rw [if_pos ⟨hR.lo, hR.hi, hR.sc⟩]
  have e0 : decRes (n1 * p10 (6 - s1) - n1 * p10 (6 - s1)) 6 = (3, 0, 0, (⟨#[]⟩ : ByteArray), 0) := by
    rw [Int.sub_self]
    have := decRes_RD (n := 0) (s := 0) ⟨by decide, by decide, by decide, Or.inl rfl⟩
    rw [Int.zero_mul] at this
    exact this
  have r1 := val_Reckon_eq 300 8 3 n1 s1 (⟨#[]⟩ : ByteArray) 3 n2 s2 (⟨#[]⟩ : ByteArray) (by decide) (RVd hX) (RVd hY)
  have r2 := val_Reckon_eq 300 8 3 n1 s1 (⟨#[]⟩ : ByteArray) 3 n1 s1 (⟨#[]⟩ : ByteArray) (by decide) (RVd hX) (RVd hX)
  rw [minus_decs, eR] at r1
  rw [minus_decs, e0] at r2
  have o1 := val_Order_eq 300 3 n1 s1 (⟨#[]⟩ : ByteArray) 3 n2 s2 (⟨#[]⟩ : ByteArray) (by decide) (fun _ => ⟨hX.sc, hX.lo, hX.hi⟩) (fun _ => ⟨hY.sc, hY.lo, hY.hi⟩)
  have o2 := val_Order_eq 300 3 (red (n1 * p10 (6 - s1) - n2 * p10 (6 - s2)) 6).1 (red (n1 * p10 (6 - s1) - n2 * p10 (6 - s2)) 6).2 (⟨#[]⟩ : ByteArray) 3 0 0 (⟨#[]⟩ : ByteArray) (by decide) (fun _ => ⟨hR.sc, hR.lo, hR.hi⟩) (fun _ => ⟨by decide, by decide, by decide⟩)
  have ho : ∀ (n m : Int) (s t : Nat), ordB 3 n (s : Int) (⟨#[]⟩ : ByteArray) 3 m (t : Int) (⟨#[]⟩ : ByteArray) = cmpI (n * p10 (6 - s)) (m * p10 (6 - t)) := fun n m s t => by
    unfold ordB mic
    rw [if_pos rfl, if_neg (by decide), if_pos rfl, Int.toNat_natCast, Int.toNat_natCast]
  rw [ho] at o1 o2
  rw [vR, Int.zero_mul] at o2
  have hc : cmpI (n1 * p10 (6 - s1) - n2 * p10 (6 - s2)) 0 = cmpI (n1 * p10 (6 - s1)) (n2 * p10 (6 - s2)) := cmpI_congr (by omega) (by omega)
  rw [hc, show ((0 : Nat) : Int) = 0 from rfl] at o2
  rw [r1, Option.bind_some, r2, Option.bind_some]
  dsimp only
  rw [o1, Option.bind_some, o2, Option.bind_some]
  simp
end Go.Proofs.Ytllkhdhanheieaa.Pure
