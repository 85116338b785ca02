import Derived.Test.YtglffgneikoeaaaDen3
import Derived.Test.YtglffgneikoeaaaDen7
namespace Go.Proofs.Ytglffgneikoeaaa.Den
open Go Go.RowKit Go.Proofs.Ytglffgneikoeaaa
theorem vadd_ev (a b : Int) : Ev Try.prog 64 [.int .i64 7, vI (.int .i64 a), vI (.int .i64 b)] (condR (addOk a b) (.int .i64 (IntKind.i64.wrap (a + b)))) := rk_ev prog_ok (k := 60) (op := .add) (ok := plusOk) (by decide) (by decide) (by kernel_rfl) a b _ rfl
theorem vsub_ev (a b : Int) : Ev Try.prog 64 [.int .i64 8, vI (.int .i64 a), vI (.int .i64 b)] (condR (subOk a b) (.int .i64 (IntKind.i64.wrap (a - b)))) := rk_ev prog_ok (k := 60) (op := .sub) (ok := minusOk) (by decide) (by decide) (by kernel_rfl) a b _ rfl
theorem vneg_ev (a : Int) : Ev Try.prog 64 [.int .i64 4, vI (.int .i64 a), vI (.int .i64 a)] (condR (negOk a) (.int .i64 (IntKind.i64.wrap (0 - a)))) := rkV_ev prog_ok (k := 60) (by kernel_rfl) a
theorem radd_ev (a b : Int) : Ev Try.prog 30 [.int .i64 7, vI (.int .i64 a), vI (.int .i64 b)] (condR (addOk a b) (.int .i64 (IntKind.i64.wrap (a + b)))) := rk_ev prog_ok (k := 60) (op := .add) (ok := plusOk) (by decide) (by decide) (by kernel_rfl) a b _ rfl
theorem rsub_ev (a b : Int) : Ev Try.prog 30 [.int .i64 8, vI (.int .i64 a), vI (.int .i64 b)] (condR (subOk a b) (.int .i64 (IntKind.i64.wrap (a - b)))) := rk_ev prog_ok (k := 60) (op := .sub) (ok := minusOk) (by decide) (by decide) (by kernel_rfl) a b _ rfl
theorem rneg_ev (a : Int) : Ev Try.prog 30 [.int .i64 4, vI (.int .i64 a), vZ] (condR (negOk a) (.int .i64 (IntKind.i64.wrap (0 - a)))) := rkN_ev prog_ok (k := 60) (by kernel_rfl) a
theorem vmul_ev (a b : Int) : Ev Try.prog 64 [.int .i64 6, vI (.int .i64 a), vI (.int .i64 b)] (condR (mulOk a b) (.int .i64 (mulN a b))) := rkM_ev prog_ok (k := 60) (by kernel_rfl) (by kernel_rfl) (by kernel_rfl) (by kernel_rfl) (by kernel_rfl) a b
theorem rmul_ev (a b : Int) (ha : -9223372036854775808 ≤ a ∧ a < 9223372036854775808) (hb : -9223372036854775808 ≤ b ∧ b < 9223372036854775808) : Ev Try.prog 30 [.int .i64 6, vI (.int .i64 a), vI (.int .i64 b)] (condR (mulOk a b) (.int .i64 (mulN a b))) := by
  have h := rkR_ev prog_ok (k := 60) (F := 30) (by kernel_rfl) (by kernel_rfl) (by kernel_rfl) a b
  obtain ⟨h1, h2⟩ := ref_mul a b ha hb
  rw [h1, h2] at h
  exact h
/-- What is told ahead, of the i-th kind. -/
def reckO (i : Int) (K : Int) (p q : Bool) : Orc := Tab.orc { prims := [(29, [.atom 2, .int .i64 3], .int .i64 i), (64, [.int .i64 K, vI (.atom 0), vI (.atom 1)], condR p (.atom 3)), (30, [.int .i64 K, vI (.atom 0), vI (.atom 1)], condR p (.atom 3)), (64, [.int .i64 4, vI (.atom 0), vI (.atom 0)], condR q (.atom 4)), (30, [.int .i64 4, vI (.atom 0), vZ], condR q (.atom 4))], eqs := [(.eql, 28, vI (.atom 3), vI (.atom 3), .bool true), (.eql, 28, vI (.atom 4), vI (.atom 4), .bool true)] }
theorem reckO_k : ([((0 : Int), (6 : Int)), (1, 7), (2, 8)].all fun ik => bl fun p => bl fun q => okB (callF Try.prog (reckO ik.1 ik.2 p q) 60 8 [.atom 0, .atom 1, .atom 2] [])) = true := by kernel_rfl
def eqG (b : Bool) : Option PV := match (match b with | true => some true | false => some false : Option Bool) with | some b => some (PV.bool b) | none => none
theorem eqI_k (n m : Int) : binP Try.prog .eql 28 (vI (.int .i64 n)) (vI (.int .i64 m)) = eqG (n == m) := by kernel_rfl
theorem eqI_ok (n : Int) : binP Try.prog .eql 28 (vI (.int .i64 n)) (vI (.int .i64 n)) = some (.bool true) := by
  have h : (n == n) = true := by simp
  rw [eqI_k, h]; rfl
theorem wf_i64 {a : Int} (w : (Lit.int .i64 a).wf = true) : -9223372036854775808 ≤ a ∧ a < 9223372036854775808 := by
  simp only [Lit.wf, Bool.and_eq_true, decide_eq_true_eq] at w
  have e1 : IntKind.i64.min = -9223372036854775808 := by decide
  have e2 : IntKind.i64.max = 9223372036854775807 := by decide
  omega
theorem reckons_top (a b c i K n : Int) (p q : Bool) (hk : okB (callF Try.prog (reckO i K p q) 60 8 [.atom 0, .atom 1, .atom 2] []) = true) (hi : wthn c 3 = i)
    (hv : Ev Try.prog 64 [.int .i64 K, vI (.int .i64 a), vI (.int .i64 b)] (condR p (.int .i64 n))) (hr : Ev Try.prog 30 [.int .i64 K, vI (.int .i64 a), vI (.int .i64 b)] (condR p (.int .i64 n))) (hq : negOk a = q) :
    Ev Try.prog 8 [.int .i64 a, .int .i64 b, .int .i64 c] (.bool true) := by
  have h1 := vneg_ev a
  have h2 := rneg_ev a
  rw [hq] at h1 h2
  have hw := within_ev c 3 (by decide)
  rw [hi] at hw
  have hnu : NuOk (nuL [.int .i64 a, .int .i64 b, .int .i64 c, .int .i64 n, .int .i64 (IntKind.i64.wrap (0 - a))]) := nuL_ok (by simp [PV.clean, PV.pure])
  have h0 : TabOk Try.prog (nuL [.int .i64 a, .int .i64 b, .int .i64 c, .int .i64 n, .int .i64 (IntKind.i64.wrap (0 - a))]) ⟨[], [], fun _ _ => false, [(.eql, 28, vI (.atom 3), vI (.atom 3), .bool true), (.eql, 28, vI (.atom 4), vI (.atom 4), .bool true)]⟩ :=
    ⟨(fun _ _ _ h => by simp at h), (fun _ _ _ _ h => by simp at h), fun op ty x y r hm => by
      simp only [List.mem_cons, List.not_mem_nil, or_false, Prod.mk.injEq] at hm
      rcases hm with ⟨rfl, rfl, rfl, rfl, rfl⟩ | ⟨rfl, rfl, rfl, rfl, rfl⟩
      · exact ⟨eqI_ok n, rfl⟩
      · exact ⟨eqI_ok _, rfl⟩⟩
  cases p <;> cases q <;> exact Ev.of prog_ok hnu (TabOk.orc hnu (((((h0.prim h2 rfl rfl rfl rfl).prim h1 rfl rfl rfl rfl).prim hr rfl rfl rfl rfl).prim hv rfl rfl rfl rfl).prim hw rfl rfl rfl trivial)) (okB_eq hk) (by simp [sub1, sub0, nuL, PV.pure, PV.shut, PV.clean, PV.one]) rfl rfl
theorem reckons_ev (a b c : Int) (w0 : (Lit.int .i64 a).wf = true) (w1 : (Lit.int .i64 b).wf = true) : Ev Try.prog 8 [.int .i64 a, .int .i64 b, .int .i64 c] (.bool true) := by
  have ha : -9223372036854775808 ≤ a ∧ a < 9223372036854775808 := wf_i64 w0
  have hb : -9223372036854775808 ≤ b ∧ b < 9223372036854775808 := wf_i64 w1
  obtain ⟨h1, h2⟩ := wthn_range c 3 (by decide) (by decide)
  have hk := List.all_eq_true.1 reckO_k
  have h : wthn c 3 = 0 ∨ wthn c 3 = 1 ∨ wthn c 3 = 2 := by omega
  rcases h with h | h | h
  · exact reckons_top a b c 0 6 _ _ _ (bl_all (bl_all (hk (0, 6) (by simp)) _) _) h (vmul_ev a b) (rmul_ev a b ha hb) rfl
  · exact reckons_top a b c 1 7 _ _ _ (bl_all (bl_all (hk (1, 7) (by simp)) _) _) h (vadd_ev a b) (radd_ev a b) rfl
  · exact reckons_top a b c 2 8 _ _ _ (bl_all (bl_all (hk (2, 8) (by simp)) _) _) h (vsub_ev a b) (rsub_ev a b) rfl
end Go.Proofs.Ytglffgneikoeaaa.Den
