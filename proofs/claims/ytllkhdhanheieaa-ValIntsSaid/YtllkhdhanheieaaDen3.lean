import Derived.Test.YtllkhdhanheieaaDen2
import Derived.IntWalk
namespace Go.Proofs.Ytllkhdhanheieaa.Den
open Go Go.RowKit
def okR (e : PV) : Option (PV × List Res) → Bool
  | some (p, []) => PV.same p e
  | _ => false
theorem okR_eq {e : PV} {o : Option (PV × List Res)} (h : okR e o = true) : o = some (e, []) := by
  unfold okR at h
  split at h
  · rw [same_eq _ _ h]
  · cases h
/-- A whole number; what a reckoning tells. -/
def vI (p : PV) : PV := .agg [.int .i64 2, p, .int .i64 0, .str []]
def vZ : PV := .agg [.int .i64 0, .int .i64 0, .int .i64 0, .str []]
def condR (b : Bool) (p : PV) : PV := match b with
  | true => .tup [vI p, .int .i64 0]
  | false => .tup [vZ, .int .i64 10]
def bl (f : Bool → Bool) : Bool := f true && f false
theorem bl_all {f : Bool → Bool} (h : bl f = true) (b : Bool) : f b = true := by
  unfold bl at h
  rw [Bool.and_eq_true] at h
  cases b <;> simp [h]
def sgn (s0 s1 s2 : Bool) (op : BinOp) : List (BinOp × PV × PV × PV) := [(op, .atom 0, .atom 1, .atom 2), (.lss, .atom 0, .int .i64 0, .bool s0), (.lss, .atom 1, .int .i64 0, .bool s1), (.lss, .atom 2, .int .i64 0, .bool s2), (.geq, .atom 0, .int .i64 0, .bool !s0), (.geq, .atom 1, .int .i64 0, .bool !s1), (.geq, .atom 2, .int .i64 0, .bool !s2)]
def plusOk (s0 s1 s2 : Bool) : Bool := s0 != s1 || s2 == s0
def minusOk (s0 s1 s2 : Bool) : Bool := s0 == s1 || s2 == s0
theorem wI (a : Int) : sub1 (nuL []) (vI (.int .i64 a)) = vI (.int .i64 a) := rfl
theorem binK {nu : Nat → PV} {op : BinOp} {x y r : PV} {a b : Int} (h1 : op ≠ .shl) (h2 : op ≠ .shr) (hx : sub0 nu x = .int .i64 a) (hy : sub0 nu y = .int .i64 b) (h : intP op .i64 a b = some (sub0 nu r)) : BinOk nu op x y r := BinOk.int h1 h2 hx hy h
theorem geP (a : Int) : intP .geq .i64 a 0 = some (.bool !decide (a < 0)) := by
  simp only [intP, Option.some.injEq, PV.bool.injEq]
  rw [Bool.eq_iff_iff]; simp
theorem sgn_ok {op : BinOp} (h1 : op ≠ .shl) (h2 : op ≠ .shr) {a b c : Int} (hc : intP op .i64 a b = some (.int .i64 c)) : ∀ t ∈ sgn (decide (a < 0)) (decide (b < 0)) (decide (c < 0)) op, BinOk (nuL [.int .i64 a, .int .i64 b, .int .i64 c]) t.1 t.2.1 t.2.2.1 t.2.2.2 := by
  intro t ht
  simp only [sgn, List.mem_cons, List.not_mem_nil, or_false] at ht
  rcases ht with rfl | rfl | rfl | rfl | rfl | rfl | rfl
  · exact binK h1 h2 rfl rfl hc
  all_goals
    refine binK (by intro h; cases h) (by intro h; cases h) rfl rfl ?_
    first
      | rfl
      | exact geP _
theorem sub2_cond (nu : Nat → PV) (b : Bool) (p : PV) : sub2 nu (condR b p) = condR b (sub0 nu p) := by cases b <;> rfl
theorem cond_pure (b : Bool) (c : Int) : (condR b (.int .i64 c)).pure = true := by cases b <;> rfl
theorem cond_shut (b : Bool) (c : Int) : (condR b (.int .i64 c)).shut2 = true := by cases b <;> rfl
/-- A table of two-handed operations alone. -/
theorem Ev.bins {P : Program} (hP : progOk P = true) {l : List PV} (hl : ∀ p ∈ l, p.clean = true ∧ p.pure = true) {bs : List (BinOp × PV × PV × PV)} (hb : ∀ t ∈ bs, BinOk (nuL l) t.1 t.2.1 t.2.2.1 t.2.2.2) {k : Nat} {g : FuncId} {args : List PV} {ok : Bool} {p : PV} {c : Int}
    (h : okR (condR ok p) (callF P (Tab.orc { bins := bs }) k g args []) = true) (hp : sub0 (nuL l) p = .int .i64 c) (hargs : ∀ p ∈ args, (sub1 (nuL l) p).pure = true ∧ p.shut = true ∧ ∀ i, p = .atom i → (nuL l i).one = true) :
    Ev P g (args.map (sub1 (nuL l))) (condR ok (.int .i64 c)) := by
  have hnu : NuOk (nuL l) := nuL_ok hl
  have hT : TabOk P (nuL l) { bins := bs } := ⟨(fun _ _ _ h => by simp at h), fun _ _ _ _ hm => hb _ hm, (fun _ _ _ _ _ h => by simp at h)⟩
  have := Ev.of hP hnu (TabOk.orc hnu hT) (okR_eq h) hargs (by rw [sub2_cond, hp]; exact cond_pure ok c) (by rw [sub2_cond, hp]; exact cond_shut ok c)
  rw [sub2_cond, hp] at this
  exact this
theorem ints_clean {l : List Int} : ∀ p ∈ l.map (PV.int .i64), p.clean = true ∧ p.pure = true := by
  intro p hp
  obtain ⟨a, _, rfl⟩ := List.mem_map.1 hp
  exact ⟨rfl, rfl⟩
/-- Sums, differences. -/
theorem rk_ev {P : Program} (hP : progOk P = true) {k : Nat} {F : FuncId} {K : Int} {op : BinOp} (h1 : op ≠ .shl) (h2 : op ≠ .shr) {ok : Bool → Bool → Bool → Bool}
    (hk : (bl fun s0 => bl fun s1 => bl fun s2 => okR (condR (ok s0 s1 s2) (.atom 2)) (callF P (Tab.orc { bins := sgn s0 s1 s2 op }) k F [.int .i64 K, vI (.atom 0), vI (.atom 1)] [])) = true) (a b c : Int) (hc : intP op .i64 a b = some (.int .i64 c)) :
    Ev P F [.int .i64 K, vI (.int .i64 a), vI (.int .i64 b)] (condR (ok (decide (a < 0)) (decide (b < 0)) (decide (c < 0))) (.int .i64 c)) :=
  Ev.bins hP (l := [.int .i64 a, .int .i64 b, .int .i64 c]) (ints_clean (l := [a, b, c])) (sgn_ok h1 h2 hc) (bl_all (bl_all (bl_all hk _) _) _) rfl (by simp [vI, sub1, sub0, nuL, PV.pure, PV.pureL, PV.shut, PV.clean])
def sgnN (s0 s1 : Bool) : List (BinOp × PV × PV × PV) := [(.sub, .int .i64 0, .atom 0, .atom 1), (.lss, .atom 0, .int .i64 0, .bool s0), (.lss, .atom 1, .int .i64 0, .bool s1), (.geq, .atom 0, .int .i64 0, .bool !s0), (.geq, .atom 1, .int .i64 0, .bool !s1)]
/-- Signs. -/
theorem rkN_ev {P : Program} (hP : progOk P = true) {k : Nat} {F : FuncId}
    (hk : (bl fun s0 => bl fun s1 => okR (condR (minusOk false s0 s1) (.atom 1)) (callF P (Tab.orc { bins := sgnN s0 s1 }) k F [.int .i64 4, vI (.atom 0), vZ] [])) = true) (a : Int) :
    Ev P F [.int .i64 4, vI (.int .i64 a), vZ] (condR (minusOk false (decide (a < 0)) (decide (IntKind.i64.wrap (0 - a) < 0))) (.int .i64 (IntKind.i64.wrap (0 - a)))) :=
  Ev.bins hP (l := [.int .i64 a, .int .i64 (IntKind.i64.wrap (0 - a))]) (ints_clean (l := [a, _])) (by
    intro t ht
    simp only [sgnN, List.mem_cons, List.not_mem_nil, or_false] at ht
    rcases ht with rfl | rfl | rfl | rfl | rfl
    · exact binK (by intro h; cases h) (by intro h; cases h) rfl rfl rfl
    all_goals
      refine binK (by intro h; cases h) (by intro h; cases h) rfl rfl ?_
      first
        | rfl
        | exact geP _) (bl_all (bl_all hk _) _) rfl (by simp [vI, vZ, sub1, sub0, nuL, PV.pure, PV.pureL, PV.shut, PV.clean])
/-- Signs, as val is asked. -/
theorem rkV_ev {P : Program} (hP : progOk P = true) {k : Nat} {F : FuncId}
    (hk : (bl fun s0 => bl fun s1 => okR (condR (minusOk false s0 s1) (.atom 1)) (callF P (Tab.orc { bins := sgnN s0 s1 }) k F [.int .i64 4, vI (.atom 0), vI (.atom 0)] [])) = true) (a : Int) :
    Ev P F [.int .i64 4, vI (.int .i64 a), vI (.int .i64 a)] (condR (minusOk false (decide (a < 0)) (decide (IntKind.i64.wrap (0 - a) < 0))) (.int .i64 (IntKind.i64.wrap (0 - a)))) :=
  Ev.bins hP (l := [.int .i64 a, .int .i64 (IntKind.i64.wrap (0 - a))]) (ints_clean (l := [a, _])) (by
    intro t ht
    simp only [sgnN, List.mem_cons, List.not_mem_nil, or_false] at ht
    rcases ht with rfl | rfl | rfl | rfl | rfl
    · exact binK (by intro h; cases h) (by intro h; cases h) rfl rfl rfl
    all_goals
      refine binK (by intro h; cases h) (by intro h; cases h) rfl rfl ?_
      first
        | rfl
        | exact geP _) (bl_all (bl_all hk _) _) rfl (by simp [vI, vZ, sub1, sub0, nuL, PV.pure, PV.pureL, PV.shut, PV.clean])
/-! ### Products -/
def mulN (a b : Int) : Int :=
  if a = -1 then IntKind.i64.wrap (0 - b) else if b = -1 then IntKind.i64.wrap (0 - a) else if a = 0 ∨ b = 0 then 0 else IntKind.i64.wrap (a * b)
def mulOk (a b : Int) : Bool :=
  if a = -1 then minusOk false (decide (b < 0)) (decide (IntKind.i64.wrap (0 - b) < 0)) else if b = -1 then minusOk false (decide (a < 0)) (decide (IntKind.i64.wrap (0 - a) < 0)) else if a = 0 ∨ b = 0 then true else
    IntKind.i64.wrap ((IntKind.i64.wrap (a * b)).tdiv b) == a
def mtA (s1 s2 : Bool) : List (BinOp × PV × PV × PV) := [(.eql, .atom 0, .int .i64 (-1), .bool true), (.sub, .int .i64 0, .atom 1, .atom 2), (.lss, .atom 1, .int .i64 0, .bool s1), (.lss, .atom 2, .int .i64 0, .bool s2)]
def mtB (s1 s2 : Bool) : List (BinOp × PV × PV × PV) := [(.eql, .atom 0, .int .i64 (-1), .bool false), (.eql, .atom 1, .int .i64 (-1), .bool true), (.sub, .int .i64 0, .atom 0, .atom 2), (.lss, .atom 0, .int .i64 0, .bool s1), (.lss, .atom 2, .int .i64 0, .bool s2)]
def mtC (z0 : Bool) : List (BinOp × PV × PV × PV) := [(.eql, .atom 0, .int .i64 (-1), .bool false), (.eql, .atom 1, .int .i64 (-1), .bool false), (.eql, .atom 0, .int .i64 0, .bool z0), (.eql, .atom 1, .int .i64 0, .bool !z0)]
def mtC' : List (BinOp × PV × PV × PV) := [(.eql, .atom 0, .int .i64 (-1), .bool false), (.eql, .atom 1, .int .i64 (-1), .bool false), (.eql, .atom 0, .int .i64 0, .bool true), (.eql, .atom 1, .int .i64 0, .bool true)]
def mtD (q : Bool) : List (BinOp × PV × PV × PV) := [(.eql, .atom 0, .int .i64 (-1), .bool false), (.eql, .atom 1, .int .i64 (-1), .bool false), (.eql, .atom 0, .int .i64 0, .bool false), (.eql, .atom 1, .int .i64 0, .bool false), (.mul, .atom 0, .atom 1, .atom 2), (.quo, .atom 2, .atom 1, .atom 3), (.eql, .atom 3, .atom 0, .bool q)]
theorem rkM_ev {P : Program} (hP : progOk P = true) {k : Nat} {F : FuncId}
    (hA : (bl fun s0 => bl fun s1 => okR (condR (minusOk false s0 s1) (.atom 2)) (callF P (Tab.orc { bins := mtA s0 s1 }) k F [.int .i64 6, vI (.atom 0), vI (.atom 1)] [])) = true)
    (hB : (bl fun s0 => bl fun s1 => okR (condR (minusOk false s0 s1) (.atom 2)) (callF P (Tab.orc { bins := mtB s0 s1 }) k F [.int .i64 6, vI (.atom 0), vI (.atom 1)] [])) = true)
    (hC : (bl fun s0 => okR (condR true (.int .i64 0)) (callF P (Tab.orc { bins := mtC s0 }) k F [.int .i64 6, vI (.atom 0), vI (.atom 1)] [])) = true)
    (hC' : (okR (condR true (.int .i64 0)) (callF P (Tab.orc { bins := mtC' }) k F [.int .i64 6, vI (.atom 0), vI (.atom 1)] [])) = true)
    (hD : (bl fun q => okR (condR q (.atom 2)) (callF P (Tab.orc { bins := mtD q }) k F [.int .i64 6, vI (.atom 0), vI (.atom 1)] [])) = true) (a b : Int) :
    Ev P F [.int .i64 6, vI (.int .i64 a), vI (.int .i64 b)] (condR (mulOk a b) (.int .i64 (mulN a b))) := by
  unfold mulOk mulN
  by_cases ha : a = -1
  · subst ha
    rw [if_pos rfl, if_pos rfl]
    exact Ev.bins hP (l := [.int .i64 (-1), .int .i64 b, .int .i64 (IntKind.i64.wrap (0 - b))]) (ints_clean (l := [-1, b, _])) (by
      intro t ht
      simp only [mtA, List.mem_cons, List.not_mem_nil, or_false] at ht
      rcases ht with rfl | rfl | rfl | rfl
      all_goals exact binK (by intro h; cases h) (by intro h; cases h) rfl rfl rfl) (bl_all (bl_all hA _) _) rfl (by simp [vI, sub1, sub0, nuL, PV.pure, PV.pureL, PV.shut, PV.clean])
  · rw [if_neg ha, if_neg ha]
    by_cases hb : b = -1
    · subst hb
      rw [if_pos rfl, if_pos rfl]
      exact Ev.bins hP (l := [.int .i64 a, .int .i64 (-1), .int .i64 (IntKind.i64.wrap (0 - a))]) (ints_clean (l := [a, -1, _])) (by
        intro t ht
        simp only [mtB, List.mem_cons, List.not_mem_nil, or_false] at ht
        rcases ht with rfl | rfl | rfl | rfl | rfl
        · exact binK (by intro h; cases h) (by intro h; cases h) rfl rfl (by simp [intP, sub0]; exact ha)
        all_goals exact binK (by intro h; cases h) (by intro h; cases h) rfl rfl rfl) (bl_all (bl_all hB _) _) rfl (by simp [vI, sub1, sub0, nuL, PV.pure, PV.pureL, PV.shut, PV.clean])
    · rw [if_neg hb, if_neg hb]
      by_cases hz : a = 0 ∨ b = 0
      · rw [if_pos hz, if_pos hz]
        by_cases hz2 : a = 0 ∧ b = 0
        · obtain ⟨rfl, rfl⟩ := hz2
          exact Ev.bins hP (l := [.int .i64 0, .int .i64 0]) (ints_clean (l := [0, 0])) (by
            intro t ht
            simp only [mtC', List.mem_cons, List.not_mem_nil, or_false] at ht
            rcases ht with rfl | rfl | rfl | rfl
            all_goals exact binK (by intro h; cases h) (by intro h; cases h) rfl rfl rfl) hC' rfl (by simp [vI, sub1, sub0, nuL, PV.pure, PV.pureL, PV.shut, PV.clean])
        · exact Ev.bins hP (l := [.int .i64 a, .int .i64 b]) (ints_clean (l := [a, b])) (by
            intro t ht
            simp only [mtC, List.mem_cons, List.not_mem_nil, or_false] at ht
            rcases ht with rfl | rfl | rfl | rfl
            · exact binK (by intro h; cases h) (by intro h; cases h) rfl rfl (by simp [intP, sub0]; exact ha)
            · exact binK (by intro h; cases h) (by intro h; cases h) rfl rfl (by simp [intP, sub0]; exact hb)
            · exact binK (r := .bool (decide (a = 0))) (by intro h; cases h) (by intro h; cases h) rfl rfl (by simp [intP, sub0]; rw [Bool.eq_iff_iff]; simp)
            · exact binK (by intro h; cases h) (by intro h; cases h) rfl rfl (by simp [intP, sub0]; rw [Bool.eq_iff_iff]; simp; omega)) (bl_all hC (decide (a = 0))) rfl (by simp [vI, sub1, sub0, nuL, PV.pure, PV.pureL, PV.shut, PV.clean])
      · rw [if_neg hz, if_neg hz]
        exact Ev.bins hP (l := [.int .i64 a, .int .i64 b, .int .i64 (IntKind.i64.wrap (a * b)), .int .i64 (IntKind.i64.wrap ((IntKind.i64.wrap (a * b)).tdiv b))]) (ints_clean (l := [a, b, _, _])) (by
            intro t ht
            simp only [mtD, List.mem_cons, List.not_mem_nil, or_false] at ht
            rcases ht with rfl | rfl | rfl | rfl | rfl | rfl | rfl
            · exact binK (by intro h; cases h) (by intro h; cases h) rfl rfl (by simp [intP, sub0]; exact ha)
            · exact binK (by intro h; cases h) (by intro h; cases h) rfl rfl (by simp [intP, sub0]; exact hb)
            · exact binK (by intro h; cases h) (by intro h; cases h) rfl rfl (by simp [intP, sub0]; omega)
            · exact binK (by intro h; cases h) (by intro h; cases h) rfl rfl (by simp [intP, sub0]; omega)
            · exact binK (by intro h; cases h) (by intro h; cases h) rfl rfl rfl
            · exact binK (by intro h; cases h) (by intro h; cases h) rfl rfl (by simp [intP, sub0, nuL]; omega)
            · exact binK (by intro h; cases h) (by intro h; cases h) rfl rfl rfl) (bl_all hD _) rfl (by simp [vI, sub1, sub0, nuL, PV.pure, PV.pureL, PV.shut, PV.clean])
end Go.Proofs.Ytllkhdhanheieaa.Den
namespace Go.Proofs.Ytllkhdhanheieaa.Den
open Go Go.RowKit
def addOk (a b : Int) : Bool := plusOk (decide (a < 0)) (decide (b < 0)) (decide (IntKind.i64.wrap (a + b) < 0))
def subOk (a b : Int) : Bool := minusOk (decide (a < 0)) (decide (b < 0)) (decide (IntKind.i64.wrap (a - b) < 0))
def negOk (a : Int) : Bool := minusOk false (decide (a < 0)) (decide (IntKind.i64.wrap (0 - a) < 0))
/-! ### Products, as the reference tells them -/
def rtD (q m0 l1 m1 l0 : Bool) : List (BinOp × PV × PV × PV) := [(.eql, .atom 0, .int .i64 0, .bool false), (.eql, .atom 1, .int .i64 0, .bool false), (.mul, .atom 0, .atom 1, .atom 2), (.quo, .atom 2, .atom 1, .atom 3), (.eql, .atom 3, .atom 0, .bool q), (.eql, .atom 0, .int .i64 (-1), .bool m0), (.eql, .atom 1, .int .i64 (-1), .bool m1), (.eql, .atom 0, .int .i64 (-9223372036854775808), .bool l0), (.eql, .atom 1, .int .i64 (-9223372036854775808), .bool l1)]
def rtC (z0 : Bool) : List (BinOp × PV × PV × PV) := [(.eql, .atom 0, .int .i64 0, .bool z0), (.eql, .atom 1, .int .i64 0, .bool !z0)]
def rtC' : List (BinOp × PV × PV × PV) := [(.eql, .atom 0, .int .i64 0, .bool true), (.eql, .atom 1, .int .i64 0, .bool true)]
def refN (a b : Int) : Int := if a = 0 ∨ b = 0 then 0 else IntKind.i64.wrap (a * b)
def refOk (a b : Int) : Bool := if a = 0 ∨ b = 0 then true else
  IntKind.i64.wrap ((IntKind.i64.wrap (a * b)).tdiv b) == a && !(a == -1 && b == -9223372036854775808) && !(b == -1 && a == -9223372036854775808)
theorem rkR_ev {P : Program} (hP : progOk P = true) {k : Nat} {F : FuncId}
    (hC : (bl fun s0 => okR (condR true (.int .i64 0)) (callF P (Tab.orc { bins := rtC s0 }) k F [.int .i64 6, vI (.atom 0), vI (.atom 1)] [])) = true)
    (hC' : (okR (condR true (.int .i64 0)) (callF P (Tab.orc { bins := rtC' }) k F [.int .i64 6, vI (.atom 0), vI (.atom 1)] [])) = true)
    (hD : (bl fun q => bl fun m0 => bl fun l1 => bl fun m1 => bl fun l0 => okR (condR (q && !(m0 && l1) && !(m1 && l0)) (.atom 2)) (callF P (Tab.orc { bins := rtD q m0 l1 m1 l0 }) k F [.int .i64 6, vI (.atom 0), vI (.atom 1)] [])) = true) (a b : Int) :
    Ev P F [.int .i64 6, vI (.int .i64 a), vI (.int .i64 b)] (condR (refOk a b) (.int .i64 (refN a b))) := by
  unfold refOk refN
  by_cases hz : a = 0 ∨ b = 0
  · rw [if_pos hz, if_pos hz]
    by_cases hz2 : a = 0 ∧ b = 0
    · obtain ⟨rfl, rfl⟩ := hz2
      exact Ev.bins hP (l := [.int .i64 0, .int .i64 0]) (ints_clean (l := [0, 0])) (by
        intro t ht
        simp only [rtC', List.mem_cons, List.not_mem_nil, or_false] at ht
        rcases ht with rfl | rfl
        all_goals exact binK (by intro h; cases h) (by intro h; cases h) rfl rfl rfl) hC' rfl (by simp [vI, sub1, sub0, nuL, PV.pure, PV.pureL, PV.shut, PV.clean])
    · exact Ev.bins hP (l := [.int .i64 a, .int .i64 b]) (ints_clean (l := [a, b])) (by
        intro t ht
        simp only [rtC, List.mem_cons, List.not_mem_nil, or_false] at ht
        rcases ht with rfl | rfl
        · exact binK (r := .bool (decide (a = 0))) (by intro h; cases h) (by intro h; cases h) rfl rfl (by simp [intP, sub0]; rw [Bool.eq_iff_iff]; simp)
        · exact binK (by intro h; cases h) (by intro h; cases h) rfl rfl (by simp [intP, sub0]; rw [Bool.eq_iff_iff]; simp; omega)) (bl_all hC (decide (a = 0))) rfl (by simp [vI, sub1, sub0, nuL, PV.pure, PV.pureL, PV.shut, PV.clean])
  · rw [if_neg hz, if_neg hz]
    exact Ev.bins hP (l := [.int .i64 a, .int .i64 b, .int .i64 (IntKind.i64.wrap (a * b)), .int .i64 (IntKind.i64.wrap ((IntKind.i64.wrap (a * b)).tdiv b))]) (ints_clean (l := [a, b, _, _])) (by
        intro t ht
        simp only [rtD, List.mem_cons, List.not_mem_nil, or_false] at ht
        rcases ht with rfl | rfl | rfl | rfl | rfl | rfl | rfl | rfl | rfl
        · exact binK (by intro h; cases h) (by intro h; cases h) rfl rfl (by simp [intP, sub0]; omega)
        · exact binK (by intro h; cases h) (by intro h; cases h) rfl rfl (by simp [intP, sub0]; omega)
        · exact binK (by intro h; cases h) (by intro h; cases h) rfl rfl rfl
        · exact binK (by intro h; cases h) (by intro h; cases h) rfl rfl (by simp [intP, sub0, nuL]; omega)
        all_goals exact binK (by intro h; cases h) (by intro h; cases h) rfl rfl rfl) (bl_all (bl_all (bl_all (bl_all (bl_all hD _) _) _) _) _) rfl (by simp [vI, sub1, sub0, nuL, PV.pure, PV.pureL, PV.shut, PV.clean])
theorem wrap_i64 (a : Int) (h : -9223372036854775808 ≤ a ∧ a < 9223372036854775808) : IntKind.i64.wrap a = a := Go.IntWalk.i64_in a (by omega)
theorem wrap_top : IntKind.i64.wrap 9223372036854775808 = -9223372036854775808 := by decide
/-- Both tell the same products. -/
theorem ref_mul (a b : Int) (ha : -9223372036854775808 ≤ a ∧ a < 9223372036854775808) (hb : -9223372036854775808 ≤ b ∧ b < 9223372036854775808) : refOk a b = mulOk a b ∧ (refN a b = mulN a b) := by
  unfold refOk refN mulOk mulN minusOk
  by_cases h1 : a = -1
  · subst h1
    by_cases hb0 : b = 0
    · subst hb0; decide
    · by_cases hbl : b = -9223372036854775808
      · subst hbl; decide
      · have e1 : IntKind.i64.wrap (-1 * b) = -b := by rw [wrap_i64 _ (by omega)]; omega
        have e2 : IntKind.i64.wrap (0 - b) = -b := by rw [wrap_i64 _ (by omega)]; omega
        have e3 : (-b).tdiv b = -1 := by rw [Int.neg_tdiv, Int.tdiv_self hb0]
        have e4 : IntKind.i64.wrap (-1) = -1 := by decide
        have e5 : (-b < 0) = ¬ (b < 0) := by rw [eq_iff_iff]; omega
        rw [e1, e2, e3, e4]
        refine ⟨?_, by simp [hb0]⟩
        simp only [Bool.and_eq_true, e5]
        cases h6 : decide (b < 0) <;> simp_all
  · by_cases h2 : b = -1
    · subst h2
      by_cases ha0 : a = 0
      · subst ha0; decide
      · by_cases hal : a = -9223372036854775808
        · subst hal; decide
        · have e1 : IntKind.i64.wrap (a * -1) = -a := by rw [wrap_i64 _ (by omega)]; omega
          have e2 : IntKind.i64.wrap (0 - a) = -a := by rw [wrap_i64 _ (by omega)]; omega
          have e3 : (-a).tdiv (-1) = a := by rw [Int.tdiv_neg, Int.neg_tdiv, Int.tdiv_one]; omega
          have e4 : IntKind.i64.wrap a = a := wrap_i64 _ ha
          have e5 : (-a < 0) = ¬ (a < 0) := by rw [eq_iff_iff]; omega
          rw [e1, e2, e3, e4]
          refine ⟨?_, by simp [ha0, h1]⟩
          simp only [e5]
          cases h6 : decide (a < 0) <;> simp_all
    · by_cases hz : a = 0 ∨ b = 0
      · simp [h1, h2, hz]
      · have f1 : (a == -1) = false := by simpa using h1
        have f2 : (b == -1) = false := by simpa using h2
        simp [h1, h2, hz, f1, f2]
end Go.Proofs.Ytllkhdhanheieaa.Den
