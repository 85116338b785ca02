import Derived.Test.YtglffgneikoeaaaDen6
import Derived.IntWalk
namespace Go.Proofs.Ytglffgneikoeaaa.Den
open Go Go.RowKit Go.Proofs.Ytglffgneikoeaaa
def addOk (a b : Int) : Bool := plusOk (decide (a < 0)) (decide (b < 0)) (decide (IntKind.i64.wrap (a + b) < 0))
def subOk (a b : Int) : Bool := minusOk (decide (a < 0)) (decide (b < 0)) (decide (IntKind.i64.wrap (a - b) < 0))
def negOk (a : Int) : Bool := minusOk false (decide (a < 0)) (decide (IntKind.i64.wrap (0 - a) < 0))
/-! ### Products, as the reference tells them -/
def rtD (q m0 l1 m1 l0 : Bool) : List (BinOp × PV × PV × PV) := [(.eql, .atom 0, .int .i64 0, .bool false), (.eql, .atom 1, .int .i64 0, .bool false), (.mul, .atom 0, .atom 1, .atom 2), (.quo, .atom 2, .atom 1, .atom 3), (.eql, .atom 3, .atom 0, .bool q), (.eql, .atom 0, .int .i64 (-1), .bool m0), (.eql, .atom 1, .int .i64 (-1), .bool m1), (.eql, .atom 0, .int .i64 (-9223372036854775808), .bool l0), (.eql, .atom 1, .int .i64 (-9223372036854775808), .bool l1)]
def rtC (z0 : Bool) : List (BinOp × PV × PV × PV) := [(.eql, .atom 0, .int .i64 0, .bool z0), (.eql, .atom 1, .int .i64 0, .bool !z0)]
def rtC' : List (BinOp × PV × PV × PV) := [(.eql, .atom 0, .int .i64 0, .bool true), (.eql, .atom 1, .int .i64 0, .bool true)]
def refN (a b : Int) : Int := if a = 0 ∨ b = 0 then 0 else IntKind.i64.wrap (a * b)
def refOk (a b : Int) : Bool := if a = 0 ∨ b = 0 then true else
  IntKind.i64.wrap ((IntKind.i64.wrap (a * b)).tdiv b) == a && !(a == -1 && b == -9223372036854775808) && !(b == -1 && a == -9223372036854775808)
theorem rkR_ev {P : Program} (hP : progOk P = true) {k : Nat} {F : FuncId}
    (hC : (bl fun s0 => okR (condR true (.int .i64 0)) (callF P (Tab.orc { bins := rtC s0 }) k F [.int .i64 6, vI (.atom 0), vI (.atom 1)] [])) = true)
    (hC' : (okR (condR true (.int .i64 0)) (callF P (Tab.orc { bins := rtC' }) k F [.int .i64 6, vI (.atom 0), vI (.atom 1)] [])) = true)
    (hD : (bl fun q => bl fun m0 => bl fun l1 => bl fun m1 => bl fun l0 => okR (condR (q && !(m0 && l1) && !(m1 && l0)) (.atom 2)) (callF P (Tab.orc { bins := rtD q m0 l1 m1 l0 }) k F [.int .i64 6, vI (.atom 0), vI (.atom 1)] [])) = true) (a b : Int) :
    Ev P F [.int .i64 6, vI (.int .i64 a), vI (.int .i64 b)] (condR (refOk a b) (.int .i64 (refN a b))) := by
  unfold refOk refN
  by_cases hz : a = 0 ∨ b = 0
  · rw [if_pos hz, if_pos hz]
    by_cases hz2 : a = 0 ∧ b = 0
    · obtain ⟨rfl, rfl⟩ := hz2
      exact Ev.bins hP (l := [.int .i64 0, .int .i64 0]) (ints_clean (l := [0, 0])) (by
        intro t ht
        simp only [rtC', List.mem_cons, List.not_mem_nil, or_false] at ht
        rcases ht with rfl | rfl
        all_goals exact binK (by intro h; cases h) (by intro h; cases h) rfl rfl rfl) hC' rfl (by simp [vI, sub1, sub0, nuL, PV.pure, PV.pureL, PV.shut, PV.clean])
    · exact Ev.bins hP (l := [.int .i64 a, .int .i64 b]) (ints_clean (l := [a, b])) (by
        intro t ht
        simp only [rtC, List.mem_cons, List.not_mem_nil, or_false] at ht
        rcases ht with rfl | rfl
        · exact binK (r := .bool (decide (a = 0))) (by intro h; cases h) (by intro h; cases h) rfl rfl (by simp [intP, sub0]; rw [Bool.eq_iff_iff]; simp)
        · exact binK (by intro h; cases h) (by intro h; cases h) rfl rfl (by simp [intP, sub0]; rw [Bool.eq_iff_iff]; simp; omega)) (bl_all hC (decide (a = 0))) rfl (by simp [vI, sub1, sub0, nuL, PV.pure, PV.pureL, PV.shut, PV.clean])
  · rw [if_neg hz, if_neg hz]
    exact Ev.bins hP (l := [.int .i64 a, .int .i64 b, .int .i64 (IntKind.i64.wrap (a * b)), .int .i64 (IntKind.i64.wrap ((IntKind.i64.wrap (a * b)).tdiv b))]) (ints_clean (l := [a, b, _, _])) (by
        intro t ht
        simp only [rtD, List.mem_cons, List.not_mem_nil, or_false] at ht
        rcases ht with rfl | rfl | rfl | rfl | rfl | rfl | rfl | rfl | rfl
        · exact binK (by intro h; cases h) (by intro h; cases h) rfl rfl (by simp [intP, sub0]; omega)
        · exact binK (by intro h; cases h) (by intro h; cases h) rfl rfl (by simp [intP, sub0]; omega)
        · exact binK (by intro h; cases h) (by intro h; cases h) rfl rfl rfl
        · exact binK (by intro h; cases h) (by intro h; cases h) rfl rfl (by simp [intP, sub0, nuL]; omega)
        all_goals exact binK (by intro h; cases h) (by intro h; cases h) rfl rfl rfl) (bl_all (bl_all (bl_all (bl_all (bl_all hD _) _) _) _) _) rfl (by simp [vI, sub1, sub0, nuL, PV.pure, PV.pureL, PV.shut, PV.clean])
theorem wrap_i64 (a : Int) (h : -9223372036854775808 ≤ a ∧ a < 9223372036854775808) : IntKind.i64.wrap a = a := Go.IntWalk.i64_in a (by omega)
theorem wrap_top : IntKind.i64.wrap 9223372036854775808 = -9223372036854775808 := by decide
/-- Both tell the same products. -/
theorem ref_mul (a b : Int) (ha : -9223372036854775808 ≤ a ∧ a < 9223372036854775808) (hb : -9223372036854775808 ≤ b ∧ b < 9223372036854775808) : refOk a b = mulOk a b ∧ (refN a b = mulN a b) := by
  unfold refOk refN mulOk mulN minusOk
  by_cases h1 : a = -1
  · subst h1
    by_cases hb0 : b = 0
    · subst hb0; decide
    · by_cases hbl : b = -9223372036854775808
      · subst hbl; decide
      · have e1 : IntKind.i64.wrap (-1 * b) = -b := by rw [wrap_i64 _ (by omega)]; omega
        have e2 : IntKind.i64.wrap (0 - b) = -b := by rw [wrap_i64 _ (by omega)]; omega
        have e3 : (-b).tdiv b = -1 := by rw [Int.neg_tdiv, Int.tdiv_self hb0]
        have e4 : IntKind.i64.wrap (-1) = -1 := by decide
        have e5 : (-b < 0) = ¬ (b < 0) := by rw [eq_iff_iff]; omega
        rw [e1, e2, e3, e4]
        refine ⟨?_, by simp [hb0]⟩
        simp only [Bool.and_eq_true, e5]
        cases h6 : decide (b < 0) <;> simp_all
  · by_cases h2 : b = -1
    · subst h2
      by_cases ha0 : a = 0
      · subst ha0; decide
      · by_cases hal : a = -9223372036854775808
        · subst hal; decide
        · have e1 : IntKind.i64.wrap (a * -1) = -a := by rw [wrap_i64 _ (by omega)]; omega
          have e2 : IntKind.i64.wrap (0 - a) = -a := by rw [wrap_i64 _ (by omega)]; omega
          have e3 : (-a).tdiv (-1) = a := by rw [Int.tdiv_neg, Int.neg_tdiv, Int.tdiv_one]; omega
          have e4 : IntKind.i64.wrap a = a := wrap_i64 _ ha
          have e5 : (-a < 0) = ¬ (a < 0) := by rw [eq_iff_iff]; omega
          rw [e1, e2, e3, e4]
          refine ⟨?_, by simp [ha0, h1]⟩
          simp only [e5]
          cases h6 : decide (a < 0) <;> simp_all
    · by_cases hz : a = 0 ∨ b = 0
      · simp [h1, h2, hz]
      · have f1 : (a == -1) = false := by simpa using h1
        have f2 : (b == -1) = false := by simpa using h2
        simp [h1, h2, hz, f1, f2]
end Go.Proofs.Ytglffgneikoeaaa.Den
