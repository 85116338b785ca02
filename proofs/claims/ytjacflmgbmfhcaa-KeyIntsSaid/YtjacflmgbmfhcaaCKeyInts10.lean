-- Written by drive.py and pack.py (programs of this proof's own) through the kit's printer; not trusted: Lean checks it.
import Derived.Test.YtjacflmgbmfhcaaCKeyInts1
import Derived.Test.YtjacflmgbmfhcaaCKeyInts8
import Derived.Test.YtjacflmgbmfhcaaCKeyInts7
import Derived.Test.YtjacflmgbmfhcaaCKeyInts9
import Derived.Test.YtjacflmgbmfhcaaCKeyInts3
import Derived.Test.YtjacflmgbmfhcaaCKeyInts4
import Derived.Lib.Strings
import Derived.Test.YtjacflmgbmfhcaaCKeyInts2
import Derived.Test.YtjacflmgbmfhcaaCKeyInts6
namespace Go.Proofs.Ytjacflmgbmfhcaa.K
open Go.RowKit Go.Proofs.YtjacflmgbmfhcaaW.PrintWords Go.Proofs.YtjacflmgbmfhcaaW.PrintLast Go.Proofs.YtjacflmgbmfhcaaW.PrintMore
attribute [local go_sem] max2_int min2_int max_two min_two max_three min_three max_four min_four
attribute [local go_sem high] own_gtr own_leq own_geq own_cell_set Option.map_some fld24_3
set_option linter.unusedVariables false
set_option linter.unusedSimpArgs false
def cmpI (a b : Int) : Int := if a < b then -1 else if b < a then 1 else 0
def cmpT (a b : ByteArray) : Int := if Op.bytesLess a.toList b.toList = true then -1 else if Op.bytesLess b.toList a.toList = true then 1 else 0
theorem bytesLess_irrefl : ∀ a : List UInt8, Op.bytesLess a a = false
  | [] => rfl
  | x :: a => by simp [Op.bytesLess, bytesLess_irrefl a]
theorem bytesLess_total (a b : List UInt8) : Op.bytesLess a b = true ∨ a = b ∨ Op.bytesLess b a = true := by
  have := bytesLess_swap a b
  cases h : Op.bytesLess a b with
  | true => exact Or.inl rfl
  | false =>
    rw [h, Bool.false_or] at this
    by_cases e : a = b
    · exact Or.inr (Or.inl e)
    · right; right; rw [this]; simpa using e
theorem bytesLess_asymm (a b : List UInt8) (h : Op.bytesLess a b = true) : Op.bytesLess b a = false := by
  have := bytesLess_swap a b
  rw [h] at this
  simpa using this
def mic (n sc : Int) : Int := n * p10 (6 - sc.toNat)
def ordB (k1 n1 s1 : Int) (t1 : ByteArray) (k2 n2 s2 : Int) (t2 : ByteArray) : Int :=
  if k1 = k2 then (if k1 = 1 ∨ k1 = 2 then cmpI n1 n2 else if k1 = 3 then cmpI (mic n1 s1) (mic n2 s2) else cmpT t1 t2) else cmpI k1 k2
theorem ref_order_eq (a b : Int) : federationref1_order.f a b = some (cmpI a b) := by
  unfold federationref1_order.f cmpI
  by_cases h : a < b
  · rw [if_pos h, if_pos h]
  · rw [if_neg h, if_neg h]
    by_cases h2 : b < a
    · rw [if_pos h2, if_pos h2]
    · rw [if_neg h2, if_neg h2]
theorem ref_texts_eq (a b : ByteArray) : federationref1_texts.f a b = some (cmpT a b) := by
  unfold federationref1_texts.f cmpT
  by_cases h : Op.bytesLess a.toList b.toList = true
  · rw [if_pos h, if_pos h]
  · rw [if_neg h, if_neg h]
    by_cases h2 : Op.bytesLess b.toList a.toList = true
    · rw [if_pos h2, if_pos h2]
    · rw [if_neg h2, if_neg h2]
theorem cmpI_congr {a b c d : Int} (h : c < d ↔ a < b) (k : d < c ↔ b < a) : cmpI c d = cmpI a b := by
  unfold cmpI; simp only [h, k]
theorem parts_order' {a b : Int} (q : Int) (hq : 0 < q) : (if cmpI (a / q) (b / q) = 0 then cmpI (a % q) (b % q) else cmpI (a / q) (b / q)) = cmpI a b := by
  have ha := Int.mul_ediv_add_emod a q
  have hb := Int.mul_ediv_add_emod b q
  have a1 := Int.emod_lt_of_pos a hq
  have b1 := Int.emod_lt_of_pos b hq
  have a4 := Int.emod_nonneg a (show q ≠ 0 by omega)
  have b4 := Int.emod_nonneg b (show q ≠ 0 by omega)
  generalize a / q = u at *
  generalize b / q = v at *
  generalize a % q = c at *
  generalize b % q = d at *
  rcases Int.lt_trichotomy u v with h | h | h
  · have h1 : q * u + q ≤ q * v := by
      have := Int.mul_le_mul_of_nonneg_left (show u + 1 ≤ v by omega) (show 0 ≤ q by omega)
      rw [Int.mul_add, Int.mul_one] at this; exact this
    have : cmpI u v = -1 := by unfold cmpI; rw [if_pos h]
    rw [if_neg (by rw [this]; decide), this]
    unfold cmpI
    rw [if_pos (by omega)]
  · subst h
    have : cmpI u u = 0 := by unfold cmpI; rw [if_neg (Int.lt_irrefl _), if_neg (Int.lt_irrefl _)]
    rw [if_pos this]
    clear this
    obtain ⟨m, hm⟩ : ∃ m, m = q * u := ⟨_, rfl⟩
    rw [← hm] at ha hb
    exact cmpI_congr (by omega) (by omega)
  · have h1 : q * v + q ≤ q * u := by
      have := Int.mul_le_mul_of_nonneg_left (show v + 1 ≤ u by omega) (show 0 ≤ q by omega)
      rw [Int.mul_add, Int.mul_one] at this; exact this
    have : cmpI u v = 1 := by unfold cmpI; rw [if_neg (by omega), if_pos h]
    rw [if_neg (by rw [this]; decide), this]
    unfold cmpI
    rw [if_neg (by omega), if_pos (by omega)]
theorem p10_six_sub (s : Nat) (h : s ≤ 6) : p10 s * p10 (6 - s) = 1000000 := by
  rw [← p10_add, show s + (6 - s) = 6 by omega, p10_six]
theorem tdiv_pows (s : Nat) (hs : s ≤ 6) : Int.tdiv (p10 6) (p10 s) = p10 (6 - s) := by
  have h := p10_six_sub s hs
  rw [p10_six, ← h, Int.mul_comm, Int.mul_tdiv_cancel _ (by have := p10_pos s; omega)]
theorem ref_Parts_eq (k : Nat) (kd n : Int) (s : Nat) (st : ByteArray) (hk : 18 < k) (hs : s ≤ 6) (h0 : -1000000000000000 < n) (h1 : n < 1000000000000000) : federationref1_Parts.f k kd n (s : Int) st = some (n / p10 s, n % p10 s * p10 (6 - s)) := by
  unfold federationref1_Parts.f
  have hp := p10_pos s
  have hp2 := p10_le s (by omega)
  have hq := p10_pos (6 - s)
  have hq2 := p10_le (6 - s) (by omega)
  have h6 := p10_six_sub s hs
  have b1 := Int.emod_lt_of_pos n hp
  have b2 := Int.emod_nonneg n (show p10 s ≠ 0 by omega)
  have b4 : n % p10 s * p10 (6 - s) ≤ p10 s * p10 (6 - s) := Int.mul_le_mul_of_nonneg_right (by omega) (by omega)
  have b5 : 0 ≤ n % p10 s * p10 (6 - s) := Int.mul_nonneg b2 (by omega)
  have h2 := Int.mul_ediv_add_emod n (p10 s)
  have h3 := Int.mul_tdiv_add_tmod n (p10 s)
  have h4 := Int.natAbs_tdiv_le_natAbs n (p10 s)
  have b6 := Int.tmod_lt_of_pos n hp
  have b7 := Int.tmod_lt_of_pos (-n) hp
  rw [Int.neg_tmod] at b7
  rw [ref_Ten_eq k s hk (by omega)]
  simp only [Option.bind_some]
  rw [if_neg (by omega), show (6 : Int) - (s : Int) = ((6 - s : Nat) : Int) by omega]
  rw [wrap64_of (x := ((6 - s : Nat) : Int)) (by omega) (by omega), ref_Ten_eq k (6 - s) hk (by omega)]
  simp only [Option.bind_some]
  have hfl : n / p10 s = if n.tmod (p10 s) < 0 then n.tdiv (p10 s) - 1 else n.tdiv (p10 s) := by
    split
    · exact ((Int.ediv_emod_unique (r := n.tmod (p10 s) + p10 s) (q := n.tdiv (p10 s) - 1) hp).2 ⟨by rw [Int.mul_sub, Int.mul_one]; omega, by omega, by omega⟩).1
    · exact ((Int.ediv_emod_unique (r := n.tmod (p10 s)) (q := n.tdiv (p10 s)) hp).2 ⟨by omega, by omega, by omega⟩).1
  by_cases hn : n.tmod (p10 s) < 0
  · rw [if_pos hn]
    rw [if_pos hn] at hfl
    have e1 : wrap64 (n.tdiv (p10 s)) = n.tdiv (p10 s) := wrap64_of (by omega) (by omega)
    rw [e1, wrap64_of (x := n.tdiv (p10 s) - 1) (by omega) (by omega), ← hfl]
    have e2 : n / p10 s * p10 s = n - n % p10 s := by rw [Int.mul_comm]; omega
    rw [e2, wrap64_of (x := n - n % p10 s) (by omega) (by omega), show n - (n - n % p10 s) = n % p10 s by omega, wrap64_of (x := n % p10 s) (by omega) (by omega), wrap64_of (by omega) (by omega)]
  · rw [if_neg hn]
    rw [if_neg hn] at hfl
    have e1 : wrap64 (n.tdiv (p10 s)) = n.tdiv (p10 s) := wrap64_of (by omega) (by omega)
    rw [e1, ← hfl]
    have e2 : n / p10 s * p10 s = n - n % p10 s := by rw [Int.mul_comm]; omega
    rw [e2, wrap64_of (x := n - n % p10 s) (by omega) (by omega), show n - (n - n % p10 s) = n % p10 s by omega, wrap64_of (x := n % p10 s) (by omega) (by omega), wrap64_of (by omega) (by omega)]
theorem mic_ediv (n : Int) (s : Nat) (hs : s ≤ 6) : (n * p10 (6 - s)) / 1000000 = n / p10 s := by
  rw [← p10_six_sub s hs]; exact Int.mul_ediv_mul_of_pos_left _ _ (p10_pos _)
theorem mic_emod (n : Int) (s : Nat) (hs : s ≤ 6) : (n * p10 (6 - s)) % 1000000 = n % p10 s * p10 (6 - s) := by
  have h1 := Int.mul_ediv_add_emod (n * p10 (6 - s)) 1000000
  have h2 := Int.mul_ediv_add_emod n (p10 s)
  rw [mic_ediv n s hs] at h1
  have h3 : (p10 s * (n / p10 s) + n % p10 s) * p10 (6 - s) = n * p10 (6 - s) := by rw [h2]
  rw [Int.add_mul, Int.mul_assoc, Int.mul_comm (n / p10 s), ← Int.mul_assoc, p10_six_sub s hs] at h3
  omega
theorem ref_Order_eq (k : Nat) (k1 n1 : Int) (s1 : Nat) (t1 : ByteArray) (k2 n2 : Int) (s2 : Nat) (t2 : ByteArray) (hk : 42 < k) (h1 : k1 = 3 → s1 ≤ 6 ∧ -1000000000000000 < n1 ∧ n1 < 1000000000000000) (h2 : k2 = 3 → s2 ≤ 6 ∧ -1000000000000000 < n2 ∧ n2 < 1000000000000000) :
    federationref1_Order.f k k1 n1 (s1 : Int) t1 k2 n2 (s2 : Int) t2 = some (ordB k1 n1 (s1 : Int) t1 k2 n2 (s2 : Int) t2) := by
  obtain ⟨k, rfl⟩ : ∃ m, k = m + 1 := ⟨k - 1, by omega⟩
  unfold federationref1_Order.f ordB
  rw [ref_order_eq]
  simp only [Option.bind_some]
  by_cases e : k1 = k2
  · have hc : cmpI k1 k2 = 0 := by unfold cmpI; rw [if_neg (by omega), if_neg (by omega)]
    rw [if_pos hc, if_pos e]
    by_cases e1 : k1 = 1
    · rw [if_pos e1, if_pos (Or.inl e1)]
      simp only [federationref1_Order.j0]
      rw [if_pos (by simpa using e1), ref_order_eq]; rfl
    · rw [if_neg e1]
      simp only [federationref1_Order.j0]
      by_cases e2 : k1 = 2
      · rw [if_pos (by simpa using e2), if_pos (Or.inr e2), ref_order_eq]; rfl
      · rw [if_neg (by simpa using e2), if_neg (show ¬(k1 = 1 ∨ k1 = 2) by omega)]
        by_cases e3 : k1 = 3
        · rw [if_pos e3, if_pos e3]
          obtain ⟨a1, a2, a3⟩ := h1 e3
          obtain ⟨b1, b2, b3⟩ := h2 (by omega)
          simp only [ref_Parts_eq k _ n1 s1 _ (by omega) a1 a2 a3, ref_Parts_eq k _ n2 s2 _ (by omega) b1 b2 b3, Option.bind_some, ref_order_eq]
          unfold mic
          have hp := parts_order' (a := n1 * p10 (6 - s1)) (b := n2 * p10 (6 - s2)) 1000000 (by decide)
          rw [mic_ediv n1 s1 a1, mic_ediv n2 s2 b1, mic_emod n1 s1 a1, mic_emod n2 s2 b1] at hp
          simp only [Int.toNat_natCast]
          rw [← hp]
          by_cases hz : cmpI (n1 / p10 s1) (n2 / p10 s2) = 0
          · rw [if_pos hz, if_pos hz]
          · rw [if_neg hz, if_neg hz]
        · rw [if_neg e3, if_neg e3, ref_texts_eq]; rfl
  · have hc : ¬ cmpI k1 k2 = 0 := by
      unfold cmpI
      by_cases h : k1 < k2
      · rw [if_pos h]; decide
      · rw [if_neg h, if_pos (by omega)]; decide
    rw [if_neg hc, if_neg e]
end Go.Proofs.Ytjacflmgbmfhcaa.K
namespace Go.Proofs.Ytjacflmgbmfhcaa.K
open Go.RowKit Go.Proofs.YtjacflmgbmfhcaaW.PrintWords Go.Proofs.YtjacflmgbmfhcaaW.PrintLast Go.Proofs.YtjacflmgbmfhcaaW.PrintMore
attribute [local go_sem] max2_int min2_int max_two min_two max_three min_three max_four min_four
attribute [local go_sem high] own_gtr own_leq own_geq own_cell_set Option.map_some fld24_3
set_option linter.unusedVariables false
set_option linter.unusedSimpArgs false
def I64 (x : Int) : Prop := -9223372036854775808 ≤ x ∧ x ≤ 9223372036854775807
end Go.Proofs.Ytjacflmgbmfhcaa.K
namespace Go.Proofs.Ytjacflmgbmfhcaa.K
open Go.RowKit Go.Proofs.YtjacflmgbmfhcaaW.PrintWords Go.Proofs.YtjacflmgbmfhcaaW.PrintLast Go.Proofs.YtjacflmgbmfhcaaW.PrintMore
attribute [local go_sem] max2_int min2_int max_two min_two max_three min_three max_four min_four
attribute [local go_sem high] own_gtr own_leq own_geq own_cell_set Option.map_some fld24_3
set_option linter.unusedVariables false
set_option linter.unusedSimpArgs false
structure RD (n : Int) (s : Nat) : Prop where
  lo : -1000000000000000 < n
  hi : n < 1000000000000000
  sc : s ≤ 6
  nm : s = 0 ∨ n % 10 ≠ 0
theorem ediv_small {n p : Int} (hp : 0 < p) (h0 : -1000000000000000 < n) (h1 : n < 1000000000000000) : -1000000000000000 ≤ n / p ∧ n / p ≤ 1000000000000000 := by
  have e := Int.mul_ediv_add_emod n p
  have e1 := Int.emod_lt_of_pos n hp
  have e2 := Int.emod_nonneg n (show p ≠ 0 by omega)
  have e3 := Int.natAbs_ediv_le_natAbs n p
  omega
structure RV (kd n : Int) (s : Nat) : Prop where
  i : I64 n
  d : kd = 3 → RD n s
end Go.Proofs.Ytjacflmgbmfhcaa.K
namespace Go.Proofs.Ytjacflmgbmfhcaa.K
open Go.RowKit Go.Proofs.YtjacflmgbmfhcaaW.PrintWords Go.Proofs.YtjacflmgbmfhcaaW.PrintLast Go.Proofs.YtjacflmgbmfhcaaW.PrintMore
attribute [local go_sem] max2_int min2_int max_two min_two max_three min_three max_four min_four
attribute [local go_sem high] own_gtr own_leq own_geq own_cell_set Option.map_some fld24_3
set_option linter.unusedVariables false
set_option linter.unusedSimpArgs false
def BufAt (w : World) (G : Nat) (l : List Int) : Prop := ∃ cur : Array Value, ∃ m : Nat, w.heap[G]? = some (.cells cur 5 (m, m + 1)) ∧ l.length ≤ m ∧ m = cur.size ∧ ∀ j, j < l.length → cur[j]? = some (.int .u8 (l.getD j 0))
theorem BufAt.cell {w : World} {G : Nat} {l : List Int} (h : BufAt w G l) (j : Nat) (hj : j < l.length) : w.cell? ⟨G, j, none⟩ = some (.int .u8 (l.getD j 0)) := by
  obtain ⟨cur, m, h1, h2, h3, h4⟩ := h
  simp [World.cell?, h1, h4 j hj]
theorem BufAt.frozen {w : World} {G : Nat} {l : List Int} (h : BufAt w G l) (j : Nat) (hj : j < l.length) : w.frozen? ⟨G, j, none⟩ = false := by
  obtain ⟨cur, m, h1, h2, h3, h4⟩ := h
  simp [World.frozen?, h1]; omega
theorem BufAt.set {w : World} {G : Nat} {l : List Int} (h : BufAt w G l) (j : Nat) (x : Int) : BufAt (w.setCell ⟨G, j, none⟩ (.int .u8 x)) G (l.set j x) := by
  obtain ⟨cur, m, h1, h2, h3, h4⟩ := h
  refine ⟨cur.setIfInBounds j (.int .u8 x), m, ?_, by simpa using h2, by simpa using h3, ?_⟩
  · simp [World.setCell, Array.getElem?_modify, h1]
  · intro i hi
    rw [List.length_set] at hi
    rw [Array.getElem?_setIfInBounds]
    by_cases e : j = i
    · subst e
      rw [if_pos rfl, if_pos (by omega)]
      simp [List.getD, hi]
    · rw [if_neg e, h4 i hi]
      simp [List.getD, List.getElem?_set_ne e]
theorem BufAt.drewN {w : World} {G : Nat} {l : List Int} (h : BufAt w G l) (n : Nat) : BufAt (w.drewN n) G l := by
  obtain ⟨cur, m, h1, h⟩ := h
  exact ⟨cur, m, by simpa using h1, h⟩
theorem BufAt.lt {w : World} {G : Nat} {l : List Int} (h : BufAt w G l) : G < w.heap.size := by
  obtain ⟨cur, m, h1, h⟩ := h
  exact (Array.getElem?_eq_some_iff.1 h1).1
end Go.Proofs.Ytjacflmgbmfhcaa.K
namespace Go.Proofs.Ytjacflmgbmfhcaa.K
open Go.RowKit Go.Proofs.YtjacflmgbmfhcaaW.PrintWords Go.Proofs.YtjacflmgbmfhcaaW.PrintLast Go.Proofs.YtjacflmgbmfhcaaW.PrintMore
attribute [local go_sem] max2_int min2_int max_two min_two max_three min_three max_four min_four
attribute [local go_sem high] own_gtr own_leq own_geq own_cell_set Option.map_some fld24_3
set_option linter.unusedVariables false
set_option linter.unusedSimpArgs false
theorem emod_bd (a n : Int) (h0 : 0 < n) : 0 ≤ a % n ∧ a % n < n := ⟨Int.emod_nonneg a (by omega), Int.emod_lt_of_pos a h0⟩
theorem noS_empty : noS (⟨#[]⟩ : ByteArray) = true := by decide +kernel
theorem right_RD {n : Int} {s : Nat} (h : RD n s) : rightB 3 n (s : Int) (⟨#[]⟩ : ByteArray) = true := by
  unfold rightB
  rw [if_neg (by decide), if_neg (by decide), if_neg (by decide), if_pos rfl, noS_empty, Bool.and_true, decide_eq_true_eq]
  exact ⟨h.lo, h.hi, by omega, by have := h.sc; omega, by have := h.nm; omega⟩
theorem RD_red (n : Int) (s : Nat) (h0 : -1000000000000000 < n) (h1 : n < 1000000000000000) (hs : s ≤ 6) : RD (red n s).1 (red n s).2 := by
  have a := red_abs s n
  have b := red_scale s n
  have c := red_done s n
  exact ⟨by omega, by omega, by omega, c⟩
structure Made (kd n : Int) (s : Nat) (st : ByteArray) : Prop where
  r : rightB kd n (s : Int) st = true
  v : RV kd n s
  sz : st.data.size ≤ 40
  k0 : 0 ≤ kd
  k5 : kd ≤ 5
  z : kd ≠ 3 → s = 0
theorem I64_tdiv (a b : Int) (ha : I64 a) (hb : 2 ≤ b) : I64 (wrap64 (a.tdiv b)) ∧ wrap64 (a.tdiv b) = a.tdiv b := by
  have h := Int.natAbs_tdiv_le_natAbs a b
  have h2 : (a.tdiv b).natAbs ≤ 4611686018427387904 := by
    rw [Int.natAbs_tdiv]
    have h1 : a.natAbs ≤ 9223372036854775808 := by unfold I64 at ha; omega
    exact Nat.le_trans (Nat.div_le_div_left (show 2 ≤ b.natAbs by omega) (by decide)) (by have := Nat.div_le_div_right (c := 2) h1; simpa using this)
  have e : wrap64 (a.tdiv b) = a.tdiv b := wrap64_of (by omega) (by omega)
  rw [e]
  exact ⟨⟨by omega, by omega⟩, rfl⟩
end Go.Proofs.Ytjacflmgbmfhcaa.K
namespace Go.Proofs.Ytjacflmgbmfhcaa.K
open Go.RowKit Go.Proofs.YtjacflmgbmfhcaaW.PrintWords Go.Proofs.YtjacflmgbmfhcaaW.PrintLast Go.Proofs.YtjacflmgbmfhcaaW.PrintMore
attribute [local go_sem] max2_int min2_int max_two min_two max_three min_three max_four min_four
attribute [local go_sem high] own_gtr own_leq own_geq own_cell_set Option.map_some fld24_3
set_option linter.unusedVariables false
set_option linter.unusedSimpArgs false
def escL (xs : List Int) : List Int := xs.flatMap escOne ++ [0, 1]
theorem escAll_eq (s : ByteArray) : escAll s = escL (byteL s) := rfl
theorem escL_nil : escL [] = [0, 1] := rfl
theorem escL_cons (x : Int) (xs : List Int) : escL (x :: xs) = escOne x ++ escL xs := by simp [escL]
theorem escOne_isB {x : Int} (h : 0 ≤ x ∧ x < 256) : isB (escOne x) := by
  unfold escOne
  split
  · exact isB_cons (by omega) (isB_cons (by omega) isB_nil)
  · exact isB_cons h isB_nil
theorem escL_isB : ∀ {xs : List Int}, isB xs → isB (escL xs)
  | [], _ => isB_cons (by omega) (isB_cons (by omega) isB_nil)
  | x :: xs, h => by rw [escL_cons]; exact isB_append (escOne_isB (isB_head h)) (escL_isB (isB_tail h))
theorem escL_len : ∀ xs : List Int, 2 ≤ (escL xs).length ∧ (escL xs).length ≤ 2 * xs.length + 2
  | [] => by simp [escL_nil]
  | x :: xs => by
    have := escL_len xs
    have h := escOne_len x
    rw [escL_cons, List.length_append, List.length_cons]
    omega
theorem esc_less (u v : List Int) : ∀ xs ys : List Int, isB xs → isB ys → xs ≠ ys → lessL (escL xs ++ u) (escL ys ++ v) = lessL xs ys
  | [], [], _, _, h => absurd rfl h
  | [], y :: ys, _, hy, _ => by
    have := isB_head hy
    rw [escL_nil, escL_cons]
    unfold escOne
    split
    · simp [lessL]
    · have : 0 < y := by omega
      simp [lessL, this]
  | x :: xs, [], hx, _, _ => by
    have := isB_head hx
    rw [escL_nil, escL_cons]
    unfold escOne
    split
    · simp [lessL]
    · rename_i h
      have h2 : ¬ x < 0 := by omega
      simp [lessL, h, h2]
  | x :: xs, y :: ys, hx, hy, h => by
    have h1 := isB_head hx
    have h2 := isB_head hy
    rw [escL_cons, escL_cons, List.append_assoc, List.append_assoc]
    by_cases e : x = y
    · subst e
      rw [lessL_same, esc_less u v xs ys (isB_tail hx) (isB_tail hy) (fun h' => h (by rw [h']))]
      simp [lessL]
    · have e2 : (x == y) = false := by simpa using e
      unfold escOne
      by_cases a : x = 0
      · subst a
        rw [if_pos rfl, if_neg (fun h' => e h'.symm)]
        have : 0 < y := by omega
        simp [lessL, this]
      · rw [if_neg a]
        by_cases b : y = 0
        · subst b
          rw [if_pos rfl]
          simp [lessL, e2]
        · rw [if_neg b]
          simp [lessL, e2]
theorem tdm (n p : Int) (hp : 0 < p) : (n.tmod p < 0 ∧ n / p = n.tdiv p - 1 ∧ n % p = n.tmod p + p) ∨ (¬ n.tmod p < 0 ∧ n / p = n.tdiv p ∧ n % p = n.tmod p) := by
  have e1 := Int.mul_tdiv_add_tmod n p
  have e5 := Int.tmod_lt_of_pos n hp
  have e6 := Int.tmod_lt_of_pos (-n) hp
  rw [Int.neg_tmod] at e6
  by_cases c : n.tmod p < 0
  · have := (Int.ediv_emod_unique (a := n) (r := n.tmod p + p) (q := n.tdiv p - 1) hp).2 ⟨by rw [Int.mul_sub, Int.mul_one]; omega, by omega, by omega⟩
    exact Or.inl ⟨c, this.1, this.2⟩
  · have := (Int.ediv_emod_unique (a := n) (r := n.tmod p) (q := n.tdiv p) hp).2 ⟨by omega, by omega, by omega⟩
    exact Or.inr ⟨c, this.1, this.2⟩
theorem key_scaled_l0 (kd n : Int) (s : Nat) (st : ByteArray) (hs : s ≤ 6) (h0 : -1000000000000000 < n) (h1 : n < 1000000000000000) : ∀ (d k i : Nat), d < k → i + d = s → key_scaled.l0 k (p10 i) (s : Int) (i : Int) kd n (s : Int) st = some (n / p10 s, n % p10 s * p10 (6 - s))
  | 0, k, i, hk, hd => by
    obtain ⟨k, rfl⟩ : ∃ m, k = m + 1 := ⟨k - 1, by omega⟩
    obtain rfl : i = s := by omega
    have hp := p10_pos i
    have hp6 := p10_mono (m := i) (n := 6) hs
    have e6 := p10_six
    have hq := p10_six_sub i hs
    have hq0 := p10_pos (6 - i)
    have ht := tdiv_pows i hs
    rw [e6] at ht
    have hq1 := p10_mono (m := 6 - i) (n := 6) (by omega)
    have hd := ediv_small hp h0 h1
    have hm0 := Int.emod_nonneg n (show p10 i ≠ 0 by omega)
    have hm1 := Int.emod_lt_of_pos n hp
    have hmul : n % p10 i * p10 (6 - i) ≤ p10 i * p10 (6 - i) := Int.mul_le_mul_of_nonneg_right (by omega) (by omega)
    have hmul0 : 0 ≤ n % p10 i * p10 (6 - i) := Int.mul_nonneg hm0 (by omega)
    simp only [key_scaled.l0]
    rw [if_neg (by omega), if_neg (by omega), ht, wrap64_of (x := p10 (6 - i)) (by omega) (by omega)]
    rcases tdm n (p10 i) hp with ⟨c, e1, e2⟩ | ⟨c, e1, e2⟩
    · rw [if_pos c, wrap64_of (x := n.tdiv (p10 i)) (by omega) (by omega), wrap64_of (x := n.tdiv (p10 i) - 1) (by omega) (by omega), wrap64_of (x := n.tmod (p10 i) + p10 i) (by omega) (by omega), ← e1, ← e2, wrap64_of (by omega) (by omega)]
    · rw [if_neg c, wrap64_of (x := n.tdiv (p10 i)) (by omega) (by omega), ← e1, ← e2, wrap64_of (by omega) (by omega)]
  | d + 1, k, i, hk, hd => by
    obtain ⟨k, rfl⟩ : ∃ m, k = m + 1 := ⟨k - 1, by omega⟩
    have hp := p10_le (i + 1) (by omega)
    have hp0 := p10_pos (i + 1)
    simp only [key_scaled.l0]
    rw [if_pos (by omega), ← p10_succ, wrap64_of (by omega) (by omega), wrap64_of (by omega) (by omega), show (i : Int) + 1 = ((i + 1 : Nat) : Int) by omega]
    exact key_scaled_l0 kd n s st hs h0 h1 d k (i + 1) (by omega) (by omega)
theorem key_scaled_eq (k : Nat) (kd n : Int) (s : Nat) (st : ByteArray) (hk : 6 < k) (h : RD n s) : key_scaled.f k kd n (s : Int) st = some (n / p10 s, n % p10 s * p10 (6 - s)) := by
  have hs := h.sc
  exact key_scaled_l0 kd n s st hs h.lo h.hi s k 0 (by omega) (by omega)
def keyB (kd n : Int) (s : Nat) (st : ByteArray) : List Int :=
  if kd = 1 then [n] else if kd = 2 then be (n + 9223372036854775808) 8
  else if kd = 3 then be (n / p10 s + 9223372036854775808) 8 ++ be (n % p10 s * p10 (6 - s)) 4
  else if kd = 4 ∨ kd = 5 then escL (byteL st) else []
def keyL (kd n : Int) (s : Nat) (st : ByteArray) : List Int := kd :: keyB kd n s st
theorem right_bool {n sc : Int} {st : ByteArray} (h : rightB 1 n sc st = true) : 0 ≤ n ∧ n ≤ 1 := by
  unfold rightB at h
  rw [if_neg (by decide), if_pos rfl] at h
  simp only [Bool.and_eq_true, decide_eq_true_eq] at h
  exact h.1
theorem keyB_isB {kd n : Int} {s : Nat} {st : ByteArray} (m : Made kd n s st) : isB (keyB kd n s st) := by
  unfold keyB
  by_cases h1 : kd = 1
  · subst h1
    have := right_bool m.r
    rw [if_pos rfl]
    exact isB_cons (by omega) isB_nil
  rw [if_neg h1]
  by_cases h2 : kd = 2
  · rw [if_pos h2]; exact be_isB _ _
  rw [if_neg h2]
  by_cases h3 : kd = 3
  · rw [if_pos h3]; exact isB_append (be_isB _ _) (be_isB _ _)
  rw [if_neg h3]
  split
  · exact escL_isB (byteL_isB st)
  · exact isB_nil
theorem keyL_isB {kd n : Int} {s : Nat} {st : ByteArray} (m : Made kd n s st) : isB (keyL kd n s st) :=
  isB_cons (by have := m.k0; have := m.k5; omega) (keyB_isB m)
theorem key_Key_eq {kd n : Int} {s : Nat} {st : ByteArray} (m : Made kd n s st) (k : Nat) (hk : 20 < k) : key_Key.f k kd n (s : Int) st = some (strOfNums (keyL kd n s st)) := by
  have hz : st.size = st.data.size := rfl
  have hsz := m.sz
  have he := escL_len (byteL st)
  rw [byteL_len] at he
  have k0 := m.k0
  have k5 := m.k5
  have hm : kd % 256 = kd := by omega
  unfold key_Key.f keyL keyB
  by_cases h4 : kd = 4
  · subst h4
    rw [if_pos rfl, if_pos (by omega), escAll_eq, if_pos (by omega), if_neg (by decide), if_neg (by decide), if_neg (by decide), if_pos (Or.inl rfl)]
  rw [if_neg h4]
  by_cases h5 : kd = 5
  · subst h5
    rw [if_pos rfl, if_pos (by omega), escAll_eq, if_pos (by omega), if_neg (by decide), if_neg (by decide), if_neg (by decide), if_pos (Or.inr rfl)]
  rw [if_neg h5]
  unfold key_Key_p.f
  rw [Option.bind_some, hm]
  by_cases h1 : kd = 1
  · subst h1
    have := right_bool m.r
    rw [if_pos rfl, if_pos rfl, if_pos (by simp), show n % 256 = n by omega]; rfl
  rw [if_neg h1, if_neg h1]
  by_cases h2 : kd = 2
  · rw [if_pos h2, if_pos h2, key_signed_eq k n (by omega), Option.bind_some, if_pos (by rw [be_len]; simp)]; rfl
  rw [if_neg h2, if_neg h2]
  by_cases h3 : kd = 3
  · have hd := m.v.d h3
    have hs := hd.sc
    obtain ⟨k, rfl⟩ : ∃ j, k = j + 1 := ⟨k - 1, by omega⟩
    rw [if_pos h3, if_pos h3, if_neg (by omega), decide_eq_false (by omega)]
    simp only [key_Key_p.j0]
    have e4 := key_number_eq (n % p10 s * p10 (6 - s)) 4 k (by omega) (by decide) (by decide)
    rw [if_neg (by decide), key_scaled_eq k kd n s st (by omega) hd, Option.bind_some]
    dsimp only
    rw [key_signed_eq k _ (by omega), Option.bind_some, if_pos (by rw [be_len]; simp), Option.bind_some, show (4 : Int) = ((4 : Nat) : Int) from rfl, e4, Option.bind_some, if_pos (by simp [be_len]), List.append_assoc]
    rfl
  · rw [if_neg h3, if_neg h3, if_neg h4, if_neg h5, if_neg (by omega)]
end Go.Proofs.Ytjacflmgbmfhcaa.K
namespace Go.Proofs.Ytjacflmgbmfhcaa.K
open Go.RowKit Go.Proofs.YtjacflmgbmfhcaaW.PrintWords Go.Proofs.YtjacflmgbmfhcaaW.PrintLast Go.Proofs.YtjacflmgbmfhcaaW.PrintMore
attribute [local go_sem] max2_int min2_int max_two min_two max_three min_three max_four min_four
attribute [local go_sem high] own_gtr own_leq own_geq own_cell_set Option.map_some fld24_3
set_option linter.unusedVariables false
set_option linter.unusedSimpArgs false
theorem cmpI_lt (a b : Int) : decide (cmpI a b < 0) = decide (a < b) := by
  unfold cmpI; rw [decide_eq_decide]; split <;> (try split) <;> omega
theorem cmpT_lt (a b : ByteArray) : decide (cmpT a b < 0) = Op.bytesLess a.toList b.toList := by
  unfold cmpT
  cases h : Op.bytesLess a.toList b.toList with
  | true => simp
  | false => cases Op.bytesLess b.toList a.toList <;> simp
theorem cmpT_zero (a b : ByteArray) : (cmpT a b == 0) = (a.toList == b.toList) := by
  unfold cmpT
  rcases bytesLess_total a.toList b.toList with h | h | h
  · have : a.toList ≠ b.toList := by intro e; rw [e, bytesLess_irrefl] at h; cases h
    rw [if_pos h]; simp [this]
  · rw [h, bytesLess_irrefl]; simp
  · have h2 := bytesLess_asymm _ _ h
    have : a.toList ≠ b.toList := by intro e; rw [e, bytesLess_irrefl] at h; cases h
    rw [h2, h]; simp [this]
theorem right_empty {kd n sc : Int} {st : ByteArray} (h : rightB kd n sc st = true) (h0 : 0 ≤ kd) (h3 : kd ≤ 3) : st.toList = [] := by
  have e : noS st = true := by
    unfold rightB at h
    have c : kd = 0 ∨ kd = 1 ∨ kd = 2 ∨ kd = 3 := by omega
    rcases c with rfl | rfl | rfl | rfl
    · simp only [if_true, Bool.and_eq_true] at h; exact h.2.2
    · rw [if_neg (by decide), if_pos rfl] at h; simp only [Bool.and_eq_true] at h; exact h.2.2
    · rw [if_neg (by decide), if_neg (by decide), if_pos rfl] at h; simp only [Bool.and_eq_true] at h; exact h.2
    · rw [if_neg (by decide), if_neg (by decide), if_neg (by decide), if_pos rfl] at h; simp only [Bool.and_eq_true] at h; exact h.2
  simpa [noS] using e
end Go.Proofs.Ytjacflmgbmfhcaa.K
namespace Go.Proofs.Ytjacflmgbmfhcaa.K
open Go.RowKit Go.Proofs.YtjacflmgbmfhcaaW.PrintWords Go.Proofs.YtjacflmgbmfhcaaW.PrintLast Go.Proofs.YtjacflmgbmfhcaaW.PrintMore
attribute [local go_sem] max2_int min2_int max_two min_two max_three min_three max_four min_four
attribute [local go_sem high] own_gtr own_leq own_geq own_cell_set Option.map_some fld24_3
set_option linter.unusedVariables false
set_option linter.unusedSimpArgs false
theorem I64_ediv {n : Int} {s : Nat} (h : RD n s) : I64 (n / p10 s) := by
  have := ediv_small (p10_pos s) h.lo h.hi
  unfold I64; omega
theorem st_empty {st : ByteArray} (h : st.toList = []) : st = ⟨#[]⟩ := toList_inj.1 (h.trans (show [] = (⟨#[]⟩ : ByteArray).toList by decide +kernel))
end Go.Proofs.Ytjacflmgbmfhcaa.K
namespace Go.Proofs.Ytjacflmgbmfhcaa.K
open Go.RowKit Go.Proofs.YtjacflmgbmfhcaaW.PrintWords Go.Proofs.YtjacflmgbmfhcaaW.PrintLast Go.Proofs.YtjacflmgbmfhcaaW.PrintMore
attribute [local go_sem] max2_int min2_int max_two min_two max_three min_three max_four min_four
attribute [local go_sem high] own_gtr own_leq own_geq own_cell_set Option.map_some fld24_3
set_option linter.unusedVariables false
set_option linter.unusedSimpArgs false
theorem cmpI_eq_zero {a b : Int} : cmpI a b = 0 ↔ a = b := by
  unfold cmpI; split <;> (try split) <;> omega
theorem cmpI_lt' {a b : Int} : cmpI a b < 0 ↔ a < b := by
  unfold cmpI; split <;> (try split) <;> omega
theorem cmpT_eq_zero {a b : ByteArray} : cmpT a b = 0 ↔ a = b := by
  have h := cmpT_zero a b
  rw [Bool.eq_iff_iff, beq_iff_eq, beq_iff_eq, toList_inj] at h
  exact h
theorem keyL_less {k1 n1 k2 n2 : Int} {s1 s2 : Nat} {t1 t2 : ByteArray} (m1 : Made k1 n1 s1 t1) (m2 : Made k2 n2 s2 t2) :
    lessL (keyL k1 n1 s1 t1) (keyL k2 n2 s2 t2) = decide (ordB k1 n1 (s1 : Int) t1 k2 n2 (s2 : Int) t2 < 0) := by
  unfold keyL ordB
  rw [lessL]
  by_cases e : k1 = k2
  · subst e
    have k0 := m1.k0
    have k5 := m1.k5
    rw [decide_eq_false (Int.lt_irrefl k1), beq_self_eq_true, Bool.false_or, Bool.true_and, if_pos rfl]
    by_cases c1 : k1 = 1
    · subst c1
      rw [if_pos (Or.inl rfl)]
      have : lessL (keyB 1 n1 s1 t1) (keyB 1 n2 s2 t2) = decide (n1 < n2) := by
        show lessL [n1] [n2] = _
        simp [lessL]
      rw [this, decide_eq_decide, cmpI_lt']
    by_cases c2 : k1 = 2
    · subst c2
      rw [if_pos (Or.inr rfl)]
      have h1 := m1.v.i
      have h2 := m2.v.i
      unfold I64 at h1 h2
      have : lessL (keyB 2 n1 s1 t1) (keyB 2 n2 s2 t2) = decide (n1 < n2) := by
        show lessL (be _ 8) (be _ 8) = _
        rw [be_lt 8 _ _ (by omega) (by rw [p256_8]; omega) (by omega) (by rw [p256_8]; omega), decide_eq_decide]
        omega
      rw [this, decide_eq_decide, cmpI_lt']
    rw [if_neg (by omega)]
    by_cases c3 : k1 = 3
    · subst c3
      rw [if_pos rfl]
      have d1 := m1.v.d rfl
      have d2 := m2.v.d rfl
      have i1 := I64_ediv d1
      have i2 := I64_ediv d2
      unfold I64 at i1 i2
      have part : ∀ (n : Int) (s : Nat), RD n s → 0 ≤ n % p10 s * p10 (6 - s) ∧ n % p10 s * p10 (6 - s) < 1000000 := fun n s d => by
        have hs := d.sc
        have hp := p10_pos s
        have hq := p10_six_sub s hs
        have hq0 := p10_pos (6 - s)
        have hm0 := Int.emod_nonneg n (show p10 s ≠ 0 by omega)
        have hm1 := Int.emod_lt_of_pos n hp
        have hmul : n % p10 s * p10 (6 - s) ≤ (p10 s - 1) * p10 (6 - s) := Int.mul_le_mul_of_nonneg_right (by omega) (by omega)
        rw [Int.sub_mul, Int.one_mul] at hmul
        exact ⟨Int.mul_nonneg hm0 (by omega), by omega⟩
      have q1 := part n1 s1 d1
      have q2 := part n2 s2 d2
      have : lessL (keyB 3 n1 s1 t1) (keyB 3 n2 s2 t2) = decide (cmpI (mic n1 (s1 : Int)) (mic n2 (s2 : Int)) < 0) := by
        show lessL (be _ 8 ++ be _ 4) (be _ 8 ++ be _ 4) = _
        rw [lessL_len _ _ _ _ (by rw [be_len, be_len]), be_lt 4 _ _ q1.1 (by rw [p256_4]; omega) q2.1 (by rw [p256_4]; omega), be_lt 8 _ _ (by omega) (by rw [p256_8]; omega) (by omega) (by rw [p256_8]; omega)]
        have hP := parts_order' (a := n1 * p10 (6 - s1)) (b := n2 * p10 (6 - s2)) 1000000 (by decide)
        rw [mic_ediv n1 s1 d1.sc, mic_ediv n2 s2 d2.sc, mic_emod n1 s1 d1.sc, mic_emod n2 s2 d2.sc] at hP
        unfold mic
        rw [Int.toNat_natCast, Int.toNat_natCast, ← hP]
        by_cases c : n1 / p10 s1 = n2 / p10 s2
        · rw [c, if_pos rfl, if_pos (cmpI_eq_zero.2 rfl), decide_eq_decide, cmpI_lt']
        · rw [if_neg (fun h => c (by have := be_inj (k := 8) (by omega) (by rw [p256_8]; omega) (by omega) (by rw [p256_8]; omega) h; omega)), if_neg (fun h => c (cmpI_eq_zero.1 h)), decide_eq_decide, cmpI_lt']
          omega
      rw [this]
    rw [if_neg c3]
    by_cases c0 : k1 = 0
    · subst c0
      have g1 := st_empty (right_empty m1.r (by decide) (by decide))
      have g2 := st_empty (right_empty m2.r (by decide) (by decide))
      rw [g1, g2, cmpT_eq_zero.2 rfl]
      rfl
    have h45 : k1 = 4 ∨ k1 = 5 := by omega
    have eB : ∀ n s t, keyB k1 n s t = escL (byteL t) := fun n s t => by
      unfold keyB
      rw [if_neg c1, if_neg c2, if_neg c3, if_pos h45]
    rw [eB, eB, cmpT_lt, less_bytes]
    by_cases c : byteL t1 = byteL t2
    · rw [c, lessL_irrefl, lessL_irrefl]
    · have := esc_less [] [] (byteL t1) (byteL t2) (byteL_isB _) (byteL_isB _) c
      rw [List.append_nil, List.append_nil] at this
      exact this
  · have e2 : (k1 == k2) = false := by simpa using e
    rw [if_neg e, e2, Bool.false_and, Bool.or_false, decide_eq_decide, cmpI_lt']
end Go.Proofs.Ytjacflmgbmfhcaa.K
namespace Go.Proofs.Ytjacflmgbmfhcaa.K
open Go.RowKit Go.Proofs.YtjacflmgbmfhcaaW.PrintWords Go.Proofs.YtjacflmgbmfhcaaW.PrintLast Go.Proofs.YtjacflmgbmfhcaaW.PrintMore
attribute [local go_sem] max2_int min2_int max_two min_two max_three min_three max_four min_four
attribute [local go_sem high] own_gtr own_leq own_geq own_cell_set Option.map_some fld24_3
set_option linter.unusedVariables false
set_option linter.unusedSimpArgs false
theorem known2_three : federationlaw2_known.f 300 = some true := by decide +kernel
theorem known2_ge {k : Nat} (h : 300 ≤ k) : federationlaw2_known.f k = some true := at_rounds federationlaw2_known.mono h known2_three
theorem within2_eq (a n : Int) (ha : I64 a) (h0 : 0 < n) (h1 : n ≤ 4611686018427387904) : federationlaw2_within.f a n = some (a % n) := by
  unfold federationlaw2_within.f I64 at *
  rw [if_neg (by omega)]
  have e3 := Int.emod_lt_of_pos a h0
  have e4 := Int.emod_nonneg a (show n ≠ 0 by omega)
  rcases tdm a n h0 with ⟨c, e1, e2⟩ | ⟨c, e1, e2⟩
  · rw [if_pos c, wrap64_of (by omega) (by omega), e2]
  · rw [if_neg c, e2]
theorem made_int {a : Int} (h : I64 a) : Made 2 a 0 (⟨#[]⟩ : ByteArray) where
  r := by unfold rightB; rw [if_neg (by decide), if_neg (by decide), if_pos rfl, noS_empty]; rfl
  v := ⟨h, fun e => absurd e (by decide)⟩
  sz := by decide
  k0 := by decide
  k5 := by decide
  z := fun _ => rfl
theorem made_dec {n : Int} {s : Nat} (h : RD n s) : Made 3 n s (⟨#[]⟩ : ByteArray) where
  r := right_RD h
  v := ⟨by have := h.lo; have := h.hi; unfold I64; omega, fun _ => h⟩
  sz := by decide
  k0 := by decide
  k5 := by decide
  z := fun e => absurd rfl e
end Go.Proofs.Ytjacflmgbmfhcaa.K
namespace Go.Proofs.Ytjacflmgbmfhcaa.K
open Go.RowKit Go.Proofs.YtjacflmgbmfhcaaW.PrintWords Go.Proofs.YtjacflmgbmfhcaaW.PrintLast Go.Proofs.YtjacflmgbmfhcaaW.PrintMore
attribute [local go_sem] max2_int min2_int max_two min_two max_three min_three max_four min_four
attribute [local go_sem high] own_gtr own_leq own_geq own_cell_set Option.map_some fld24_3
set_option linter.unusedVariables false
set_option linter.unusedSimpArgs false
theorem I64_of {x : Int} (h : (Lit.int .i64 x).wf = true) : I64 x := by
  have h1 : IntKind.i64.min = -9223372036854775808 := by decide
  have h2 : IntKind.i64.max = 9223372036854775807 := by decide
  simp only [Lit.wf, Bool.and_eq_true, decide_eq_true_eq, h1, h2] at h
  exact h
end Go.Proofs.Ytjacflmgbmfhcaa.K
namespace Go.Proofs.Ytjacflmgbmfhcaa.Pure
open Go.RowKit Go.Proofs.Ytjacflmgbmfhcaa.K Go.Proofs.YtjacflmgbmfhcaaW.PrintWords Go.Proofs.YtjacflmgbmfhcaaW.PrintLast Go.Proofs.YtjacflmgbmfhcaaW.PrintMore
theorem KeyInts : federationlaw2_KeyInts.Pure := by
  intro a0 a1 a2 a3 w0 w1 w2 w3
  refine ⟨500, ?_⟩
  have i0 := I64_of w0; have i1 := I64_of w1; have i2 := I64_of w2; have i3 := I64_of w3
  have b2 := emod_bd a2 2000001 (by decide)
  have b3 := emod_bd a3 7 (by decide)
  have b0 := emod_bd a0 2001 (by decide)
  have t3 := I64_tdiv a3 7 i3 (by decide)
  have b4 := emod_bd (wrap64 (a3.tdiv 7)) 4 (by decide)
  unfold federationlaw2_KeyInts.f
  rw [known2_ge (by decide), Option.bind_some, if_pos rfl, within2_eq a2 2000001 i2 (by decide) (by decide), Option.bind_some, within2_eq a3 7 i3 (by decide) (by decide), Option.bind_some]
  obtain ⟨s, hs⟩ : ∃ s : Nat, a3 % 7 = (s : Int) := ⟨(a3 % 7).toNat, by omega⟩
  obtain ⟨t, ht⟩ : ∃ t : Nat, wrap64 (a3.tdiv 7) % 4 = (t : Int) := ⟨(wrap64 (a3.tdiv 7) % 4).toNat, by omega⟩
  have hD := RD_red (a2 % 2000001 - 1000000) s (by omega) (by omega) (by omega)
  have hE := RD_red (a0 % 2001 - 1000) t (by omega) (by omega) (by omega)
  rw [hs, wrap64_of (x := a2 % 2000001 - 1000000) (by omega) (by omega), ref_Norm_eq 500 s _ _ (by omega) (by omega) (by omega) (by omega), Option.bind_some]
  dsimp only
  rw [within2_eq a0 2001 i0 (by decide) (by decide), Option.bind_some, within2_eq _ 4 t3.1 (by decide) (by decide), Option.bind_some, ht, wrap64_of (x := a0 % 2001 - 1000) (by omega) (by omega), ref_Norm_eq 500 t _ _ (by omega) (by omega) (by omega) (by omega), Option.bind_some]
  dsimp only
  have mx := made_int i0
  have my := made_int i1
  have md := made_dec hD
  have me := made_dec hE
  have kx := key_Key_eq mx 500 (by decide)
  have ky := key_Key_eq my 500 (by decide)
  have hlx := keyL_less mx my
  have hld := keyL_less md me
  rw [show ((0 : Nat) : Int) = 0 from rfl] at kx ky
  rw [kx, Option.bind_some, ky, Option.bind_some, less_son (keyL_isB mx) (keyL_isB my), hlx]
  have ho : ordB 2 a0 ((0 : Nat) : Int) (⟨#[]⟩ : ByteArray) 2 a1 ((0 : Nat) : Int) (⟨#[]⟩ : ByteArray) = cmpI a0 a1 := by
    unfold ordB; rw [if_pos rfl, if_pos (Or.inr rfl)]
  have l9 : (keyL 2 a0 0 (⟨#[]⟩ : ByteArray)).length = 9 := by
    show (keyB 2 a0 0 (⟨#[]⟩ : ByteArray)).length + 1 = 9
    have : keyB 2 a0 0 (⟨#[]⟩ : ByteArray) = be (a0 + 9223372036854775808) 8 := rfl
    rw [this, be_len]
  have l13 : ∀ n s, (keyL 3 n s (⟨#[]⟩ : ByteArray)).length = 13 := fun n s => by
    show (keyB 3 n s (⟨#[]⟩ : ByteArray)).length + 1 = 13
    have : keyB 3 n s (⟨#[]⟩ : ByteArray) = be (n / p10 s + 9223372036854775808) 8 ++ be (n % p10 s * p10 (6 - s)) 4 := rfl
    rw [this, List.length_append, be_len, be_len]
  rw [ho, cmpI_lt, if_pos (by simp), Option.bind_some, son_size, l9, if_pos (by decide), key_Key_eq md 500 (by decide), Option.bind_some, son_size, l13, if_pos (by decide), Option.bind_some, key_Key_eq me 500 (by decide), Option.bind_some,
    ref_Order_eq 500 3 _ _ _ 3 _ _ _ (by decide) (fun _ => ⟨hD.sc, hD.lo, hD.hi⟩) (fun _ => ⟨hE.sc, hE.lo, hE.hi⟩), Option.bind_some, less_son (keyL_isB md) (keyL_isB me), hld]
  simp
end Go.Proofs.Ytjacflmgbmfhcaa.Pure
