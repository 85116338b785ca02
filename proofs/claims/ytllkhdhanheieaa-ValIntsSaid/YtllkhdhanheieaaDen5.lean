import Derived.Test.YtllkhdhanheieaaDen4
import Derived.Test.YtllkhdhanheieaaDen3
namespace Go.Proofs.Ytllkhdhanheieaa.Den
open Go Go.RowKit Go.Proofs.Ytllkhdhanheieaa
def okT : Option (PV × List Res) → Bool
  | some (.bool true, []) => true
  | _ => false
theorem okT_eq {o : Option (PV × List Res)} (h : okT o = true) : o = some (.bool true, []) := by
  unfold okT at h
  split at h
  · rfl
  · cases h
theorem vadd_ev (a b : Int) : Ev Try.prog 20 [.int .i64 7, vI (.int .i64 a), vI (.int .i64 b)] (condR (addOk a b) (.int .i64 (IntKind.i64.wrap (a + b)))) := rk_ev prog_ok (k := 60) (op := .add) (ok := plusOk) (by decide) (by decide) (by kernel_rfl) a b _ rfl
theorem vsub_ev (a b : Int) : Ev Try.prog 20 [.int .i64 8, vI (.int .i64 a), vI (.int .i64 b)] (condR (subOk a b) (.int .i64 (IntKind.i64.wrap (a - b)))) := rk_ev prog_ok (k := 60) (op := .sub) (ok := minusOk) (by decide) (by decide) (by kernel_rfl) a b _ rfl
theorem vmul_ev (a b : Int) : Ev Try.prog 20 [.int .i64 6, vI (.int .i64 a), vI (.int .i64 b)] (condR (mulOk a b) (.int .i64 (mulN a b))) := rkM_ev prog_ok (k := 60) (by kernel_rfl) (by kernel_rfl) (by kernel_rfl) (by kernel_rfl) (by kernel_rfl) a b
def eqG (b : Bool) : Option PV := match (match b with | true => some true | false => some false : Option Bool) with | some b => some (PV.bool b) | none => none
theorem eqI_k (n m : Int) : binP Try.prog .eql 23 (vI (.int .i64 n)) (vI (.int .i64 m)) = eqG (n == m) := by kernel_rfl
theorem eqI_ok (n : Int) : binP Try.prog .eql 23 (vI (.int .i64 n)) (vI (.int .i64 n)) = some (.bool true) := by
  have h : (n == n) = true := by simp
  rw [eqI_k, h]; rfl
def vv (i j : Nat) : List PV := [vI (.atom i), vI (.atom j)]
def pr (ps pd pm : Bool) : List (FuncId × List PV × PV) := [(20, .int .i64 7 :: vv 0 1, condR ps (.atom 2)), (20, .int .i64 8 :: vv 0 1, condR pd (.atom 3)), (20, .int .i64 6 :: vv 0 1, condR pm (.atom 4))]
def prs (ps pd pm : Bool) : List (FuncId × List PV × PV) := match ps with
  | true => (20, .int .i64 8 :: vv 2 1, .tup [vI (.atom 0), .int .i64 0]) :: pr ps pd pm
  | false => pr ps pd pm
def bns (s0 s1 e : Bool) : List (BinOp × PV × PV × PV) := [(.add, .atom 0, .atom 1, .atom 2), (.eql, .atom 2, .atom 2, .bool true), (.lss, .atom 0, .int .i64 0, .bool s0), (.lss, .atom 1, .int .i64 0, .bool s1), (.sub, .atom 0, .atom 1, .atom 3), (.eql, .atom 3, .atom 3, .bool true), (.mul, .atom 0, .atom 1, .atom 5), (.eql, .atom 4, .atom 5, .bool e)]
/-- What is told ahead where the numbers are any. -/
def intsO (s0 s1 ps pd pm e : Bool) : Orc := Tab.orc { prims := prs ps pd pm, bins := bns s0 s1 e, eqs := [(.eql, 23, vI (.atom 0), vI (.atom 0), .bool true)] }
theorem intsO_k : (bl fun s0 => bl fun s1 => bl fun ps => bl fun pd => bl fun pm => bl fun e => (!ps && s0 != s1) || (!pd && s0 == s1) || (pm && !e) || okT (callF Try.prog (intsO s0 s1 ps pd pm e) 60 10 [.atom 0, .atom 1, .bool false] [])) = true := by kernel_rfl
def smallB : List (BinOp × PV × PV × PV) := [(.sub, .atom 2, .int .i64 1073741824, .atom 4), (.sub, .atom 3, .int .i64 1073741824, .atom 5), (.add, .atom 4, .atom 5, .atom 6), (.eql, .atom 6, .atom 6, .bool true), (.sub, .atom 4, .atom 5, .atom 7), (.eql, .atom 7, .atom 7, .bool true), (.mul, .atom 4, .atom 5, .atom 8), (.eql, .atom 8, .atom 8, .bool true)]
def smallO : Orc := Tab.orc { prims := [(17, [.atom 0, .int .i64 2147483648], .atom 2), (17, [.atom 1, .int .i64 2147483648], .atom 3), (20, .int .i64 7 :: vv 4 5, .tup [vI (.atom 6), .int .i64 0]), (20, .int .i64 8 :: vv 4 5, .tup [vI (.atom 7), .int .i64 0]), (20, .int .i64 6 :: vv 4 5, .tup [vI (.atom 8), .int .i64 0])], bins := smallB }
theorem smallO_k : okT (callF Try.prog smallO 60 10 [.atom 0, .atom 1, .bool true] []) = true := by kernel_rfl
theorem wf_i64 {a : Int} (w : (Lit.int .i64 a).wf = true) : -9223372036854775808 ≤ a ∧ a < 9223372036854775808 := by
  simp only [Lit.wf, Bool.and_eq_true, decide_eq_true_eq] at w
  have e1 : IntKind.i64.min = -9223372036854775808 := by decide
  have e2 : IntKind.i64.max = 9223372036854775807 := by decide
  omega
theorem addOk_in {a b : Int} (ha : -9223372036854775808 ≤ a ∧ a < 9223372036854775808) (hb : -9223372036854775808 ≤ b ∧ b < 9223372036854775808) (h : addOk a b = true) : IntKind.i64.wrap (a + b) = a + b := by
  unfold addOk plusOk at h
  rw [IntKind.wrap_i64] at h ⊢
  simp only [Bool.or_eq_true, bne_iff_ne, ne_eq, beq_iff_eq, decide_eq_decide] at h
  omega
theorem sub_back {a b : Int} (ha : -9223372036854775808 ≤ a ∧ a < 9223372036854775808) (hb : -9223372036854775808 ≤ b ∧ b < 9223372036854775808) : subOk (a + b) b = true ∧ IntKind.i64.wrap (a + b - b) = a := by
  have e : IntKind.i64.wrap (a + b - b) = a := by rw [wrap_i64 _ (by omega)]; omega
  refine ⟨?_, e⟩
  unfold subOk minusOk
  rw [e]
  simp only [Bool.or_eq_true, beq_iff_eq, decide_eq_decide]
  omega
theorem mulOk_in {a b : Int} (ha : -9223372036854775808 ≤ a ∧ a < 9223372036854775808) (hb : -9223372036854775808 ≤ b ∧ b < 9223372036854775808) (h : mulOk a b = true) : mulN a b = IntKind.i64.wrap (a * b) := by
  unfold mulN
  split
  · rename_i e; subst e; congr 1; omega
  · split
    · rename_i e; subst e; congr 1; omega
    · split
      · rename_i e; rcases e with rfl | rfl
        · rw [Int.zero_mul]; decide
        · rw [Int.mul_zero]; decide
      · rfl
theorem small_ok {a b : Int} (ha : -1073741824 ≤ a ∧ a < 1073741824) (hb : -1073741824 ≤ b ∧ b < 1073741824) : addOk a b = true ∧ subOk a b = true ∧ mulOk a b = true := by
  refine ⟨?_, ?_, ?_⟩
  · unfold addOk plusOk
    rw [wrap_i64 _ (by omega)]
    simp only [Bool.or_eq_true, bne_iff_ne, ne_eq, beq_iff_eq, decide_eq_decide]
    omega
  · unfold subOk minusOk
    rw [wrap_i64 _ (by omega)]
    simp only [Bool.or_eq_true, beq_iff_eq, decide_eq_decide]
    omega
  · unfold mulOk minusOk
    split
    · rw [wrap_i64 _ (by omega)]
      simp only [Bool.or_eq_true, beq_iff_eq, Bool.false_eq, decide_eq_false_iff_not]
      omega
    · split
      · rw [wrap_i64 _ (by omega)]
        simp only [Bool.or_eq_true, beq_iff_eq, Bool.false_eq, decide_eq_false_iff_not]
        omega
      · split
        · rfl
        · rename_i hz
          have h1 : a.natAbs ≤ 1073741824 := by omega
          have h2 : b.natAbs ≤ 1073741824 := by omega
          have h3 := Nat.mul_le_mul h1 h2
          rw [← Int.natAbs_mul] at h3
          have e1 : IntKind.i64.wrap (a * b) = a * b := wrap_i64 _ (by omega)
          have e2 : (a * b).tdiv b = a := Int.mul_tdiv_cancel a (by omega)
          rw [e1, e2, wrap_i64 _ (by omega)]
          simp
theorem ints_any (a b : Int) (ha : -9223372036854775808 ≤ a ∧ a < 9223372036854775808) (hb : -9223372036854775808 ≤ b ∧ b < 9223372036854775808) : Ev Try.prog 10 [.int .i64 a, .int .i64 b, .bool false] (.bool true) := by
  let l : List PV := [.int .i64 a, .int .i64 b, .int .i64 (IntKind.i64.wrap (a + b)), .int .i64 (IntKind.i64.wrap (a - b)), .int .i64 (mulN a b), .int .i64 (IntKind.i64.wrap (a * b))]
  have hnu : NuOk (nuL l) := nuL_ok (by simp [l, PV.clean, PV.pure])
  have h0 : TabOk Try.prog (nuL l) ⟨[], bns (decide (a < 0)) (decide (b < 0)) (mulN a b == IntKind.i64.wrap (a * b)), fun _ _ => false, [(.eql, 23, vI (.atom 0), vI (.atom 0), .bool true)]⟩ :=
    ⟨(fun _ _ _ h => by simp at h), (fun op x y r ht => by
      simp only [bns, List.mem_cons, List.not_mem_nil, or_false, Prod.mk.injEq] at ht
      rcases ht with ⟨rfl, rfl, rfl, rfl⟩ | ⟨rfl, rfl, rfl, rfl⟩ | ⟨rfl, rfl, rfl, rfl⟩ | ⟨rfl, rfl, rfl, rfl⟩ | ⟨rfl, rfl, rfl, rfl⟩ | ⟨rfl, rfl, rfl, rfl⟩ | ⟨rfl, rfl, rfl, rfl⟩ | ⟨rfl, rfl, rfl, rfl⟩
      all_goals
        refine binK (by intro h; cases h) (by intro h; cases h) rfl rfl ?_
        first
          | rfl
          | (simp [intP, sub0])), fun op ty x y r hm => by
      simp only [List.mem_cons, List.not_mem_nil, or_false, Prod.mk.injEq] at hm
      obtain ⟨rfl, rfl, rfl, rfl, rfl⟩ := hm
      exact ⟨eqI_ok a, rfl⟩⟩
  have v1 := vadd_ev a b
  have v2 := vsub_ev a b
  have v3 := vmul_ev a b
  have v4 : addOk a b = true → Ev Try.prog 20 [.int .i64 8, vI (.int .i64 (IntKind.i64.wrap (a + b))), vI (.int .i64 b)] (.tup [vI (.int .i64 a), .int .i64 0]) := fun h => by
    obtain ⟨h1, h2⟩ := sub_back ha hb
    have := vsub_ev (a + b) b
    rw [h1, h2] at this
    rw [addOk_in ha hb h]
    exact this
  have hk := bl_all (bl_all (bl_all (bl_all (bl_all (bl_all intsO_k (decide (a < 0))) (decide (b < 0))) (addOk a b)) (subOk a b)) (mulOk a b)) (mulN a b == IntKind.i64.wrap (a * b))
  have c1 : (!addOk a b && (decide (a < 0) != decide (b < 0))) = false := by
    unfold addOk plusOk
    cases decide (a < 0) != decide (b < 0) <;> simp
  have c2 : (!subOk a b && (decide (a < 0) == decide (b < 0))) = false := by
    unfold subOk minusOk
    cases decide (a < 0) == decide (b < 0) <;> simp
  have c3 : (mulOk a b && !(mulN a b == IntKind.i64.wrap (a * b))) = false := by
    cases h : mulOk a b with
    | false => rfl
    | true => rw [mulOk_in ha hb h]; simp
  rw [c1, c2, c3] at hk
  simp only [Bool.false_or] at hk
  revert v1 v2 v3 v4 hk
  generalize addOk a b = ps
  generalize subOk a b = pd
  generalize mulOk a b = pm
  intro v1 v2 v3 v4 hk
  cases ps with
  | true => cases pd <;> cases pm <;> exact Ev.of prog_ok hnu (TabOk.orc hnu ((((h0.prim v3 rfl rfl rfl rfl).prim v2 rfl rfl rfl rfl).prim v1 rfl rfl rfl rfl).prim (v4 rfl) rfl rfl rfl rfl)) (okT_eq hk) (by simp [l, sub1, sub0, nuL, PV.pure, PV.shut, PV.clean, PV.one]) rfl rfl
  | false => cases pd <;> cases pm <;> exact Ev.of prog_ok hnu (TabOk.orc hnu (((h0.prim v3 rfl rfl rfl rfl).prim v2 rfl rfl rfl rfl).prim v1 rfl rfl rfl rfl)) (okT_eq hk) (by simp [l, sub1, sub0, nuL, PV.pure, PV.shut, PV.clean, PV.one]) rfl rfl
theorem ints_small (a b : Int) : Ev Try.prog 10 [.int .i64 a, .int .i64 b, .bool true] (.bool true) := by
  obtain ⟨r1, r2⟩ := wthn_range a 2147483648 (by decide) (by decide)
  obtain ⟨r3, r4⟩ := wthn_range b 2147483648 (by decide) (by decide)
  have hw := within_ev a 2147483648 (by decide)
  have hx := within_ev b 2147483648 (by decide)
  revert hw hx r1 r2 r3 r4
  generalize wthn a 2147483648 = m
  generalize wthn b 2147483648 = n
  intro r1 r2 r3 r4 hw hx
  have e1 : IntKind.i64.wrap (m - 1073741824) = m - 1073741824 := wrap_i64 _ (by omega)
  have e2 : IntKind.i64.wrap (n - 1073741824) = n - 1073741824 := wrap_i64 _ (by omega)
  obtain ⟨k1, k2, k3⟩ := small_ok (a := m - 1073741824) (b := n - 1073741824) (by omega) (by omega)
  have v1 := vadd_ev (m - 1073741824) (n - 1073741824)
  have v2 := vsub_ev (m - 1073741824) (n - 1073741824)
  have v3 := vmul_ev (m - 1073741824) (n - 1073741824)
  rw [mulOk_in (by omega) (by omega) k3] at v3
  rw [k1] at v1
  rw [k2] at v2
  rw [k3] at v3
  let l : List PV := [.int .i64 a, .int .i64 b, .int .i64 m, .int .i64 n, .int .i64 (m - 1073741824), .int .i64 (n - 1073741824), .int .i64 (IntKind.i64.wrap (m - 1073741824 + (n - 1073741824))), .int .i64 (IntKind.i64.wrap (m - 1073741824 - (n - 1073741824))), .int .i64 (IntKind.i64.wrap ((m - 1073741824) * (n - 1073741824)))]
  have hnu : NuOk (nuL l) := nuL_ok (by simp [l, PV.clean, PV.pure])
  have h0 : TabOk Try.prog (nuL l) ⟨[], smallB, fun _ _ => false, []⟩ :=
    ⟨(fun _ _ _ h => by simp at h), (fun op x y r ht => by
      simp only [smallB, List.mem_cons, List.not_mem_nil, or_false, Prod.mk.injEq] at ht
      rcases ht with ⟨rfl, rfl, rfl, rfl⟩ | ⟨rfl, rfl, rfl, rfl⟩ | ⟨rfl, rfl, rfl, rfl⟩ | ⟨rfl, rfl, rfl, rfl⟩ | ⟨rfl, rfl, rfl, rfl⟩ | ⟨rfl, rfl, rfl, rfl⟩ | ⟨rfl, rfl, rfl, rfl⟩ | ⟨rfl, rfl, rfl, rfl⟩
      · exact binK (a := m) (b := 1073741824) (by intro h; cases h) (by intro h; cases h) rfl rfl (by show some (PV.int .i64 (IntKind.i64.wrap (m - 1073741824))) = some (.int .i64 (m - 1073741824)); rw [e1])
      · exact binK (a := n) (b := 1073741824) (by intro h; cases h) (by intro h; cases h) rfl rfl (by show some (PV.int .i64 (IntKind.i64.wrap (n - 1073741824))) = some (.int .i64 (n - 1073741824)); rw [e2])
      all_goals
        refine binK (by intro h; cases h) (by intro h; cases h) rfl rfl ?_
        first
          | rfl
          | (simp [intP, sub0])), (fun _ _ _ _ _ h => by simp at h)⟩
  exact Ev.of prog_ok hnu (TabOk.orc hnu (((((h0.prim v3 rfl rfl rfl rfl).prim v2 rfl rfl rfl rfl).prim v1 rfl rfl rfl rfl).prim hx rfl rfl rfl rfl).prim hw rfl rfl rfl rfl)) (okT_eq smallO_k) (by simp [l, sub1, sub0, nuL, PV.pure, PV.shut, PV.clean, PV.one]) rfl rfl
theorem ints_ev (a b : Int) (c : Bool) (w0 : (Lit.int .i64 a).wf = true) (w1 : (Lit.int .i64 b).wf = true) : Ev Try.prog 10 [.int .i64 a, .int .i64 b, .bool c] (.bool true) := by
  cases c with
  | true => exact ints_small a b
  | false => exact ints_any a b (wf_i64 w0) (wf_i64 w1)
end Go.Proofs.Ytllkhdhanheieaa.Den
