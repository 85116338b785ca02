import Derived.Test.YtglffgneikoeaaaDen1
import Derived.IntWalk
import Derived.Test.YtglffgneikoeaaaProg
import Derived.OpenShut
import Derived.WideShapes
import Derived.ChangeSlices
namespace Go.Proofs.Ytglffgneikoeaaa.Den
open Go Go.RowKit
/-- What some atoms stand for. -/
def nuL (l : List PV) (j : Nat) : PV := l.getD j (.bool false)
theorem nuL_ok {l : List PV} (h : ∀ p ∈ l, p.clean = true ∧ p.pure = true) : NuOk (nuL l) := by
  have : ∀ j, (nuL l j).clean = true ∧ (nuL l j).pure = true := fun j => by
    unfold nuL
    rw [List.getD_eq_getElem?_getD]
    cases hj : l[j]? with
    | none => exact ⟨rfl, rfl⟩
    | some p => exact h p (List.mem_of_getElem? hj)
  exact ⟨fun j => (this j).1, fun j => (this j).2⟩
/-- The remainder that is not below 0. -/
def wthn (a n : Int) : Int := if a.tmod n < 0 then IntKind.i64.wrap (a.tmod n + n) else a.tmod n
theorem TabOk.mk3 {P : Program} {nu : Nat → PV} {ps : List (FuncId × List PV × PV)} {bs : List (BinOp × PV × PV × PV)} {ow : TypeId → Nat → Bool} {es : List (BinOp × TypeId × PV × PV × PV)}
    (h1 : ∀ g args r, (g, args, r) ∈ ps → Ev P g (args.map (sub1 nu)) (sub2 nu r) ∧ (∀ p ∈ args, (sub1 nu p).pure = true) ∧ (sub2 nu r).pure = true ∧ r.shut2 = true ∧ (∀ j, r = .atom j → (nu j).one = true) ∧ (∀ vs, r = .tup vs → ∀ j, PV.atom j ∈ vs → (nu j).one = true))
    (h2 : ∀ op x y r, (op, x, y, r) ∈ bs → BinOk nu op x y r) (h3 : ∀ op ty x y r, (op, ty, x, y, r) ∈ es → binP P op ty (sub1 nu x) (sub1 nu y) = some (sub0 nu r) ∧ (sub0 nu r).one = true) : TabOk P nu ⟨ps, bs, ow, es, [], [], []⟩ :=
  { prims := h1, bins := h2, eqs := h3 }
theorem emptyTab_ok (P : Program) (nu : Nat → PV) {ow : TypeId → Nat → Bool} : TabOk P nu ⟨[], [], ow, [], [], [], []⟩ := .mk3 (fun _ _ _ h => by simp at h) (fun _ _ _ _ h => by simp at h) (fun _ _ _ _ _ h => by simp at h)
theorem TabOk.bin {P : Program} {nu : Nat → PV} {ps : List (FuncId × List PV × PV)} {bs : List (BinOp × PV × PV × PV)} {ow : TypeId → Nat → Bool} {es : List (BinOp × TypeId × PV × PV × PV)} {rs : List (FuncId × List PV × TypeId × Nat × Nat × List PV)} {ls : List (TypeId × PV × PV)} {xs : List (TypeId × PV × Int × PV)} {op : BinOp} {x y r : PV} (h : TabOk P nu ⟨ps, bs, ow, es, rs, ls, xs⟩) (hb : BinOk nu op x y r) : TabOk P nu ⟨ps, (op, x, y, r) :: bs, ow, es, rs, ls, xs⟩ :=
  { prims := h.prims, eqs := h.eqs, rows := h.rows, lens := h.lens, ixs := h.ixs, bins := fun op' x' y' r' hm => by
      rcases List.mem_cons.1 hm with e | hm
      · cases e; exact hb
      · exact h.bins _ _ _ _ hm }
theorem TabOk.len {P : Program} {nu : Nat → PV} {ps : List (FuncId × List PV × PV)} {bs : List (BinOp × PV × PV × PV)} {ow : TypeId → Nat → Bool} {es : List (BinOp × TypeId × PV × PV × PV)} {rs : List (FuncId × List PV × TypeId × Nat × Nat × List PV)} {ls : List (TypeId × PV × PV)} {xs : List (TypeId × PV × Int × PV)} {ty : TypeId} {x r : PV} (h : TabOk P nu ⟨ps, bs, ow, es, rs, ls, xs⟩) (hb : lenP P ty (sub0 nu x) = some (sub0 nu r)) (h1 : (sub0 nu r).one = true) : TabOk P nu ⟨ps, bs, ow, es, rs, (ty, x, r) :: ls, xs⟩ :=
  { prims := h.prims, eqs := h.eqs, rows := h.rows, bins := h.bins, ixs := h.ixs, lens := fun ty' x' r' hm => by
      rcases List.mem_cons.1 hm with e | hm
      · cases e; exact ⟨hb, h1⟩
      · exact h.lens _ _ _ hm }
theorem TabOk.ix {P : Program} {nu : Nat → PV} {ps : List (FuncId × List PV × PV)} {bs : List (BinOp × PV × PV × PV)} {ow : TypeId → Nat → Bool} {es : List (BinOp × TypeId × PV × PV × PV)} {rs : List (FuncId × List PV × TypeId × Nat × Nat × List PV)} {ls : List (TypeId × PV × PV)} {xs : List (TypeId × PV × Int × PV)} {ty : TypeId} {x c : PV} {i : Int} (h : TabOk P nu ⟨ps, bs, ow, es, rs, ls, xs⟩) (hb : indexAddrP P ty (sub0 nu x) (.int .i64 i) = some (.ref [sub0 nu c])) (h1 : (sub0 nu c).one = true) (h2 : c.clean = true) : TabOk P nu ⟨ps, bs, ow, es, rs, ls, (ty, x, i, c) :: xs⟩ :=
  { prims := h.prims, eqs := h.eqs, rows := h.rows, bins := h.bins, lens := h.lens, ixs := fun ty' x' i' c' hm => by
      rcases List.mem_cons.1 hm with e | hm
      · cases e; exact ⟨hb, h1, h2⟩
      · exact h.ixs _ _ _ _ hm }
theorem TabOk.rowd {P : Program} {nu : Nat → PV} {ps : List (FuncId × List PV × PV)} {bs : List (BinOp × PV × PV × PV)} {ow : TypeId → Nat → Bool} {es : List (BinOp × TypeId × PV × PV × PV)} {rs : List (FuncId × List PV × TypeId × Nat × Nat × List PV)} {ls : List (TypeId × PV × PV)} {xs : List (TypeId × PV × Int × PV)} {g : FuncId} {args : List PV} {e : TypeId} {sz n : Nat} {cs : List PV} (h : TabOk P nu ⟨ps, bs, ow, es, rs, ls, xs⟩) (hg : EvRow P g (args.map (sub1 nu)) e sz n (cs.map (sub0 nu))) : TabOk P nu ⟨ps, bs, ow, es, (g, args, e, sz, n, cs) :: rs, ls, xs⟩ :=
  { prims := h.prims, eqs := h.eqs, ixs := h.ixs, bins := h.bins, lens := h.lens, rows := fun _ _ _ _ _ _ hm => by
      rcases List.mem_cons.1 hm with e | hm
      · cases e; exact hg
      · exact h.rows _ _ _ _ _ _ hm }
theorem TabOk.more {P : Program} {nu : Nat → PV} {ps : List (FuncId × List PV × PV)} {bs : List (BinOp × PV × PV × PV)} {ow : TypeId → Nat → Bool} {es : List (BinOp × TypeId × PV × PV × PV)} {rs : List (FuncId × List PV × TypeId × Nat × Nat × List PV)} {ls : List (TypeId × PV × PV)} {xs : List (TypeId × PV × Int × PV)} {cs : List (BinOp × PV × PV × PV)} (h : TabOk P nu ⟨ps, bs, ow, es, rs, ls, xs⟩) (hc : ∀ t ∈ cs, BinOk nu t.1 t.2.1 t.2.2.1 t.2.2.2) : TabOk P nu ⟨ps, cs ++ bs, ow, es, rs, ls, xs⟩ :=
  { prims := h.prims, eqs := h.eqs, rows := h.rows, lens := h.lens, ixs := h.ixs, bins := fun op x y r hm => by
      rcases List.mem_append.1 hm with hm | hm
      · exact hc _ hm
      · exact h.bins _ _ _ _ hm }
theorem TabOk.prim {P : Program} {nu : Nat → PV} {ps : List (FuncId × List PV × PV)} {bs : List (BinOp × PV × PV × PV)} {ow : TypeId → Nat → Bool} {es : List (BinOp × TypeId × PV × PV × PV)} {rs : List (FuncId × List PV × TypeId × Nat × Nat × List PV)} {ls : List (TypeId × PV × PV)} {xs : List (TypeId × PV × Int × PV)} {g : FuncId} {args : List PV} {r : PV} (h : TabOk P nu ⟨ps, bs, ow, es, rs, ls, xs⟩) (hg : Ev P g (args.map (sub1 nu)) (sub2 nu r))
    (h1 : PV.pureL (args.map (sub1 nu)) = true) (h2 : (sub2 nu r).pure = true) (h3 : r.shut2 = true) (h4 : match r with | .atom j => (nu j).one = true | .tup vs => vs.all (fun | .atom j => (nu j).one | _ => true) = true | _ => True) : TabOk P nu ⟨(g, args, r) :: ps, bs, ow, es, rs, ls, xs⟩ :=
  { bins := h.bins, eqs := h.eqs, rows := h.rows, lens := h.lens, ixs := h.ixs, prims := fun g' args' r' hm => by
      rcases List.mem_cons.1 hm with e | hm
      · cases e
        refine ⟨hg, fun p hp => pureL_mem h1 _ (List.mem_map_of_mem hp), h2, h3, fun j hj => ?_, fun vs hvs j hj => ?_⟩
        · subst hj; exact h4
        · subst hvs
          have := List.all_eq_true.1 h4 _ hj
          exact this
      · exact h.prims _ _ _ hm }
theorem BinOk.int {nu : Nat → PV} {op : BinOp} {x y r : PV} {k : IntKind} {a b : Int} (h1 : op ≠ .shl) (h2 : op ≠ .shr) (hx : sub0 nu x = .int k a) (hy : sub0 nu y = .int k b) (h : intP op k a b = some (sub0 nu r)) : BinOk nu op x y r :=
  .inl ⟨k, a, b, h1, h2, hx, hy, h⟩
theorem wthn_range (a n : Int) (h : 0 < n) (h2 : n < 4611686018427387904) : 0 ≤ wthn a n ∧ wthn a n < n := by
  unfold wthn
  have h3 := Int.tmod_lt_of_pos a h
  have h4 : -n < a.tmod n := Int.lt_tmod_of_pos a h
  split
  · rw [Go.IntWalk.i64_in _ (by omega)]; omega
  · omega
end Go.Proofs.Ytglffgneikoeaaa.Den
namespace Go.Proofs.Ytglffgneikoeaaa.Den
open Go Go.RowKit
def okR (e : PV) : Option (PV × List Res) → Bool
  | some (p, []) => PV.same p e
  | _ => false
theorem okR_eq {e : PV} {o : Option (PV × List Res)} (h : okR e o = true) : o = some (e, []) := by
  unfold okR at h
  split at h
  · rw [same_eq _ _ h]
  · cases h
/-- A whole number; what a reckoning tells. -/
def vI (p : PV) : PV := .agg [.int .i64 2, p, .int .i64 0, .str []]
def vZ : PV := .agg [.int .i64 0, .int .i64 0, .int .i64 0, .str []]
def condR (b : Bool) (p : PV) : PV := match b with
  | true => .tup [vI p, .int .i64 0]
  | false => .tup [vZ, .int .i64 10]
def bl (f : Bool → Bool) : Bool := f true && f false
theorem bl_all {f : Bool → Bool} (h : bl f = true) (b : Bool) : f b = true := by
  unfold bl at h
  rw [Bool.and_eq_true] at h
  cases b <;> simp [h]
def sgn (s0 s1 s2 : Bool) (op : BinOp) : List (BinOp × PV × PV × PV) := [(op, .atom 0, .atom 1, .atom 2), (.lss, .atom 0, .int .i64 0, .bool s0), (.lss, .atom 1, .int .i64 0, .bool s1), (.lss, .atom 2, .int .i64 0, .bool s2), (.geq, .atom 0, .int .i64 0, .bool !s0), (.geq, .atom 1, .int .i64 0, .bool !s1), (.geq, .atom 2, .int .i64 0, .bool !s2)]
def plusOk (s0 s1 s2 : Bool) : Bool := s0 != s1 || s2 == s0
def minusOk (s0 s1 s2 : Bool) : Bool := s0 == s1 || s2 == s0
theorem wI (a : Int) : sub1 (nuL []) (vI (.int .i64 a)) = vI (.int .i64 a) := rfl
theorem binK {nu : Nat → PV} {op : BinOp} {x y r : PV} {a b : Int} (h1 : op ≠ .shl) (h2 : op ≠ .shr) (hx : sub0 nu x = .int .i64 a) (hy : sub0 nu y = .int .i64 b) (h : intP op .i64 a b = some (sub0 nu r)) : BinOk nu op x y r := BinOk.int h1 h2 hx hy h
theorem geP (a : Int) : intP .geq .i64 a 0 = some (.bool !decide (a < 0)) := by
  simp only [intP, Option.some.injEq, PV.bool.injEq]
  rw [Bool.eq_iff_iff]; simp
theorem sgn_ok {op : BinOp} (h1 : op ≠ .shl) (h2 : op ≠ .shr) {a b c : Int} (hc : intP op .i64 a b = some (.int .i64 c)) : ∀ t ∈ sgn (decide (a < 0)) (decide (b < 0)) (decide (c < 0)) op, BinOk (nuL [.int .i64 a, .int .i64 b, .int .i64 c]) t.1 t.2.1 t.2.2.1 t.2.2.2 := by
  intro t ht
  simp only [sgn, List.mem_cons, List.not_mem_nil, or_false] at ht
  rcases ht with rfl | rfl | rfl | rfl | rfl | rfl | rfl
  · exact binK h1 h2 rfl rfl hc
  all_goals
    refine binK (by intro h; cases h) (by intro h; cases h) rfl rfl ?_
    first
      | rfl
      | exact geP _
theorem sub2_cond (nu : Nat → PV) (b : Bool) (p : PV) : sub2 nu (condR b p) = condR b (sub0 nu p) := by cases b <;> rfl
theorem cond_pure (b : Bool) (c : Int) : (condR b (.int .i64 c)).pure = true := by cases b <;> rfl
theorem cond_shut (b : Bool) (c : Int) : (condR b (.int .i64 c)).shut2 = true := by cases b <;> rfl
/-- A table of two-handed operations alone. -/
theorem Ev.bins {P : Program} (hP : progOk P = true) {l : List PV} (hl : ∀ p ∈ l, p.clean = true ∧ p.pure = true) {bs : List (BinOp × PV × PV × PV)} (hb : ∀ t ∈ bs, BinOk (nuL l) t.1 t.2.1 t.2.2.1 t.2.2.2) {k : Nat} {g : FuncId} {args : List PV} {ok : Bool} {p : PV} {c : Int}
    (h : okR (condR ok p) (callF P (Tab.orc { bins := bs }) k g args []) = true) (hp : sub0 (nuL l) p = .int .i64 c) (hargs : ∀ p ∈ args, (sub1 (nuL l) p).pure = true ∧ p.shut = true ∧ ∀ i, p = .atom i → (nuL l i).one = true) :
    Ev P g (args.map (sub1 (nuL l))) (condR ok (.int .i64 c)) := by
  have hnu : NuOk (nuL l) := nuL_ok hl
  have hT : TabOk P (nuL l) { bins := bs } := .mk3 (fun _ _ _ h => by simp at h) (fun _ _ _ _ hm => hb _ hm) (fun _ _ _ _ _ h => by simp at h)
  have := Ev.of hP hnu (TabOk.orc hnu hT) (okR_eq h) hargs (by rw [sub2_cond, hp]; exact cond_pure ok c) (by rw [sub2_cond, hp]; exact cond_shut ok c)
  rw [sub2_cond, hp] at this
  exact this
theorem ints_clean {l : List Int} : ∀ p ∈ l.map (PV.int .i64), p.clean = true ∧ p.pure = true := by
  intro p hp
  obtain ⟨a, _, rfl⟩ := List.mem_map.1 hp
  exact ⟨rfl, rfl⟩
/-- Sums, differences. -/
theorem rk_ev {P : Program} (hP : progOk P = true) {k : Nat} {F : FuncId} {K : Int} {op : BinOp} (h1 : op ≠ .shl) (h2 : op ≠ .shr) {ok : Bool → Bool → Bool → Bool}
    (hk : (bl fun s0 => bl fun s1 => bl fun s2 => okR (condR (ok s0 s1 s2) (.atom 2)) (callF P (Tab.orc { bins := sgn s0 s1 s2 op }) k F [.int .i64 K, vI (.atom 0), vI (.atom 1)] [])) = true) (a b c : Int) (hc : intP op .i64 a b = some (.int .i64 c)) :
    Ev P F [.int .i64 K, vI (.int .i64 a), vI (.int .i64 b)] (condR (ok (decide (a < 0)) (decide (b < 0)) (decide (c < 0))) (.int .i64 c)) :=
  Ev.bins hP (l := [.int .i64 a, .int .i64 b, .int .i64 c]) (ints_clean (l := [a, b, c])) (sgn_ok h1 h2 hc) (bl_all (bl_all (bl_all hk _) _) _) rfl (by simp [vI, sub1, sub0, nuL, PV.pure, PV.pureL, PV.shut, PV.clean])
def sgnN (s0 s1 : Bool) : List (BinOp × PV × PV × PV) := [(.sub, .int .i64 0, .atom 0, .atom 1), (.lss, .atom 0, .int .i64 0, .bool s0), (.lss, .atom 1, .int .i64 0, .bool s1), (.geq, .atom 0, .int .i64 0, .bool !s0), (.geq, .atom 1, .int .i64 0, .bool !s1)]
/-- Signs. -/
theorem rkN_ev {P : Program} (hP : progOk P = true) {k : Nat} {F : FuncId}
    (hk : (bl fun s0 => bl fun s1 => okR (condR (minusOk false s0 s1) (.atom 1)) (callF P (Tab.orc { bins := sgnN s0 s1 }) k F [.int .i64 4, vI (.atom 0), vZ] [])) = true) (a : Int) :
    Ev P F [.int .i64 4, vI (.int .i64 a), vZ] (condR (minusOk false (decide (a < 0)) (decide (IntKind.i64.wrap (0 - a) < 0))) (.int .i64 (IntKind.i64.wrap (0 - a)))) :=
  Ev.bins hP (l := [.int .i64 a, .int .i64 (IntKind.i64.wrap (0 - a))]) (ints_clean (l := [a, _])) (by
    intro t ht
    simp only [sgnN, List.mem_cons, List.not_mem_nil, or_false] at ht
    rcases ht with rfl | rfl | rfl | rfl | rfl
    · exact binK (by intro h; cases h) (by intro h; cases h) rfl rfl rfl
    all_goals
      refine binK (by intro h; cases h) (by intro h; cases h) rfl rfl ?_
      first
        | rfl
        | exact geP _) (bl_all (bl_all hk _) _) rfl (by simp [vI, vZ, sub1, sub0, nuL, PV.pure, PV.pureL, PV.shut, PV.clean])
/-- Signs, as val is asked. -/
theorem rkV_ev {P : Program} (hP : progOk P = true) {k : Nat} {F : FuncId}
    (hk : (bl fun s0 => bl fun s1 => okR (condR (minusOk false s0 s1) (.atom 1)) (callF P (Tab.orc { bins := sgnN s0 s1 }) k F [.int .i64 4, vI (.atom 0), vI (.atom 0)] [])) = true) (a : Int) :
    Ev P F [.int .i64 4, vI (.int .i64 a), vI (.int .i64 a)] (condR (minusOk false (decide (a < 0)) (decide (IntKind.i64.wrap (0 - a) < 0))) (.int .i64 (IntKind.i64.wrap (0 - a)))) :=
  Ev.bins hP (l := [.int .i64 a, .int .i64 (IntKind.i64.wrap (0 - a))]) (ints_clean (l := [a, _])) (by
    intro t ht
    simp only [sgnN, List.mem_cons, List.not_mem_nil, or_false] at ht
    rcases ht with rfl | rfl | rfl | rfl | rfl
    · exact binK (by intro h; cases h) (by intro h; cases h) rfl rfl rfl
    all_goals
      refine binK (by intro h; cases h) (by intro h; cases h) rfl rfl ?_
      first
        | rfl
        | exact geP _) (bl_all (bl_all hk _) _) rfl (by simp [vI, vZ, sub1, sub0, nuL, PV.pure, PV.pureL, PV.shut, PV.clean])
/-! ### Products -/
def mulN (a b : Int) : Int :=
  if a = -1 then IntKind.i64.wrap (0 - b) else if b = -1 then IntKind.i64.wrap (0 - a) else if a = 0 ∨ b = 0 then 0 else IntKind.i64.wrap (a * b)
def mulOk (a b : Int) : Bool :=
  if a = -1 then minusOk false (decide (b < 0)) (decide (IntKind.i64.wrap (0 - b) < 0)) else if b = -1 then minusOk false (decide (a < 0)) (decide (IntKind.i64.wrap (0 - a) < 0)) else if a = 0 ∨ b = 0 then true else
    IntKind.i64.wrap ((IntKind.i64.wrap (a * b)).tdiv b) == a
def mtA (s1 s2 : Bool) : List (BinOp × PV × PV × PV) := [(.eql, .atom 0, .int .i64 (-1), .bool true), (.sub, .int .i64 0, .atom 1, .atom 2), (.lss, .atom 1, .int .i64 0, .bool s1), (.lss, .atom 2, .int .i64 0, .bool s2)]
def mtB (s1 s2 : Bool) : List (BinOp × PV × PV × PV) := [(.eql, .atom 0, .int .i64 (-1), .bool false), (.eql, .atom 1, .int .i64 (-1), .bool true), (.sub, .int .i64 0, .atom 0, .atom 2), (.lss, .atom 0, .int .i64 0, .bool s1), (.lss, .atom 2, .int .i64 0, .bool s2)]
def mtC (z0 : Bool) : List (BinOp × PV × PV × PV) := [(.eql, .atom 0, .int .i64 (-1), .bool false), (.eql, .atom 1, .int .i64 (-1), .bool false), (.eql, .atom 0, .int .i64 0, .bool z0), (.eql, .atom 1, .int .i64 0, .bool !z0)]
def mtC' : List (BinOp × PV × PV × PV) := [(.eql, .atom 0, .int .i64 (-1), .bool false), (.eql, .atom 1, .int .i64 (-1), .bool false), (.eql, .atom 0, .int .i64 0, .bool true), (.eql, .atom 1, .int .i64 0, .bool true)]
def mtD (q : Bool) : List (BinOp × PV × PV × PV) := [(.eql, .atom 0, .int .i64 (-1), .bool false), (.eql, .atom 1, .int .i64 (-1), .bool false), (.eql, .atom 0, .int .i64 0, .bool false), (.eql, .atom 1, .int .i64 0, .bool false), (.mul, .atom 0, .atom 1, .atom 2), (.quo, .atom 2, .atom 1, .atom 3), (.eql, .atom 3, .atom 0, .bool q)]
theorem rkM_ev {P : Program} (hP : progOk P = true) {k : Nat} {F : FuncId}
    (hA : (bl fun s0 => bl fun s1 => okR (condR (minusOk false s0 s1) (.atom 2)) (callF P (Tab.orc { bins := mtA s0 s1 }) k F [.int .i64 6, vI (.atom 0), vI (.atom 1)] [])) = true)
    (hB : (bl fun s0 => bl fun s1 => okR (condR (minusOk false s0 s1) (.atom 2)) (callF P (Tab.orc { bins := mtB s0 s1 }) k F [.int .i64 6, vI (.atom 0), vI (.atom 1)] [])) = true)
    (hC : (bl fun s0 => okR (condR true (.int .i64 0)) (callF P (Tab.orc { bins := mtC s0 }) k F [.int .i64 6, vI (.atom 0), vI (.atom 1)] [])) = true)
    (hC' : (okR (condR true (.int .i64 0)) (callF P (Tab.orc { bins := mtC' }) k F [.int .i64 6, vI (.atom 0), vI (.atom 1)] [])) = true)
    (hD : (bl fun q => okR (condR q (.atom 2)) (callF P (Tab.orc { bins := mtD q }) k F [.int .i64 6, vI (.atom 0), vI (.atom 1)] [])) = true) (a b : Int) :
    Ev P F [.int .i64 6, vI (.int .i64 a), vI (.int .i64 b)] (condR (mulOk a b) (.int .i64 (mulN a b))) := by
  unfold mulOk mulN
  by_cases ha : a = -1
  · subst ha
    rw [if_pos rfl, if_pos rfl]
    exact Ev.bins hP (l := [.int .i64 (-1), .int .i64 b, .int .i64 (IntKind.i64.wrap (0 - b))]) (ints_clean (l := [-1, b, _])) (by
      intro t ht
      simp only [mtA, List.mem_cons, List.not_mem_nil, or_false] at ht
      rcases ht with rfl | rfl | rfl | rfl
      all_goals exact binK (by intro h; cases h) (by intro h; cases h) rfl rfl rfl) (bl_all (bl_all hA _) _) rfl (by simp [vI, sub1, sub0, nuL, PV.pure, PV.pureL, PV.shut, PV.clean])
  · rw [if_neg ha, if_neg ha]
    by_cases hb : b = -1
    · subst hb
      rw [if_pos rfl, if_pos rfl]
      exact Ev.bins hP (l := [.int .i64 a, .int .i64 (-1), .int .i64 (IntKind.i64.wrap (0 - a))]) (ints_clean (l := [a, -1, _])) (by
        intro t ht
        simp only [mtB, List.mem_cons, List.not_mem_nil, or_false] at ht
        rcases ht with rfl | rfl | rfl | rfl | rfl
        · exact binK (by intro h; cases h) (by intro h; cases h) rfl rfl (by simp [intP, sub0]; exact ha)
        all_goals exact binK (by intro h; cases h) (by intro h; cases h) rfl rfl rfl) (bl_all (bl_all hB _) _) rfl (by simp [vI, sub1, sub0, nuL, PV.pure, PV.pureL, PV.shut, PV.clean])
    · rw [if_neg hb, if_neg hb]
      by_cases hz : a = 0 ∨ b = 0
      · rw [if_pos hz, if_pos hz]
        by_cases hz2 : a = 0 ∧ b = 0
        · obtain ⟨rfl, rfl⟩ := hz2
          exact Ev.bins hP (l := [.int .i64 0, .int .i64 0]) (ints_clean (l := [0, 0])) (by
            intro t ht
            simp only [mtC', List.mem_cons, List.not_mem_nil, or_false] at ht
            rcases ht with rfl | rfl | rfl | rfl
            all_goals exact binK (by intro h; cases h) (by intro h; cases h) rfl rfl rfl) hC' rfl (by simp [vI, sub1, sub0, nuL, PV.pure, PV.pureL, PV.shut, PV.clean])
        · exact Ev.bins hP (l := [.int .i64 a, .int .i64 b]) (ints_clean (l := [a, b])) (by
            intro t ht
            simp only [mtC, List.mem_cons, List.not_mem_nil, or_false] at ht
            rcases ht with rfl | rfl | rfl | rfl
            · exact binK (by intro h; cases h) (by intro h; cases h) rfl rfl (by simp [intP, sub0]; exact ha)
            · exact binK (by intro h; cases h) (by intro h; cases h) rfl rfl (by simp [intP, sub0]; exact hb)
            · exact binK (r := .bool (decide (a = 0))) (by intro h; cases h) (by intro h; cases h) rfl rfl (by simp [intP, sub0]; rw [Bool.eq_iff_iff]; simp)
            · exact binK (by intro h; cases h) (by intro h; cases h) rfl rfl (by simp [intP, sub0]; rw [Bool.eq_iff_iff]; simp; omega)) (bl_all hC (decide (a = 0))) rfl (by simp [vI, sub1, sub0, nuL, PV.pure, PV.pureL, PV.shut, PV.clean])
      · rw [if_neg hz, if_neg hz]
        exact Ev.bins hP (l := [.int .i64 a, .int .i64 b, .int .i64 (IntKind.i64.wrap (a * b)), .int .i64 (IntKind.i64.wrap ((IntKind.i64.wrap (a * b)).tdiv b))]) (ints_clean (l := [a, b, _, _])) (by
            intro t ht
            simp only [mtD, List.mem_cons, List.not_mem_nil, or_false] at ht
            rcases ht with rfl | rfl | rfl | rfl | rfl | rfl | rfl
            · exact binK (by intro h; cases h) (by intro h; cases h) rfl rfl (by simp [intP, sub0]; exact ha)
            · exact binK (by intro h; cases h) (by intro h; cases h) rfl rfl (by simp [intP, sub0]; exact hb)
            · exact binK (by intro h; cases h) (by intro h; cases h) rfl rfl (by simp [intP, sub0]; omega)
            · exact binK (by intro h; cases h) (by intro h; cases h) rfl rfl (by simp [intP, sub0]; omega)
            · exact binK (by intro h; cases h) (by intro h; cases h) rfl rfl rfl
            · exact binK (by intro h; cases h) (by intro h; cases h) rfl rfl (by simp [intP, sub0, nuL]; omega)
            · exact binK (by intro h; cases h) (by intro h; cases h) rfl rfl rfl) (bl_all hD _) rfl (by simp [vI, sub1, sub0, nuL, PV.pure, PV.pureL, PV.shut, PV.clean])
end Go.Proofs.Ytglffgneikoeaaa.Den
namespace Go.Proofs.Ytglffgneikoeaaa.Den
open Go Go.RowKit Go.Proofs.Ytglffgneikoeaaa
theorem prog_ok : progOk Try.prog = true := by kernel_rfl
theorem wthn_kt : callF Try.prog (Tab.orc { bins := [(.rem, .atom 0, .atom 1, .atom 2), (.lss, .atom 2, .int .i64 0, .bool true), (.add, .atom 2, .atom 1, .atom 3)] }) 5 29 [.atom 0, .atom 1] [] = some (.atom 3, []) := by kernel_rfl
theorem wthn_kf : callF Try.prog (Tab.orc { bins := [(.rem, .atom 0, .atom 1, .atom 2), (.lss, .atom 2, .int .i64 0, .bool false)] }) 5 29 [.atom 0, .atom 1] [] = some (.atom 2, []) := by kernel_rfl
theorem within_ev (a n : Int) (hn : n ≠ 0) : Ev Try.prog 29 [.int .i64 a, .int .i64 n] (.int .i64 (wthn a n)) := by
  by_cases hc : a.tmod n < 0
  · have hnu : NuOk (nuL [.int .i64 a, .int .i64 n, .int .i64 (a.tmod n), .int .i64 (IntKind.i64.wrap (a.tmod n + n))]) := nuL_ok (by simp [PV.clean, PV.pure])
    have := Ev.of prog_ok hnu (TabOk.orc hnu (((emptyTab_ok _ _).bin (.int (k := .i64) (a := a.tmod n) (b := n) (by decide) (by decide) rfl rfl rfl)).bin (.int (k := .i64) (a := a.tmod n) (b := 0) (by decide) (by decide) rfl rfl (by simp [intP, hc, sub0])) |>.bin (.int (k := .i64) (a := a) (b := n) (by decide) (by decide) rfl rfl (by simp [intP, hn, sub0, nuL])))) wthn_kt (by simp [sub1, sub0, nuL, PV.pure, PV.shut, PV.clean, PV.one]) rfl rfl
    have e : wthn a n = IntKind.i64.wrap (a.tmod n + n) := if_pos hc
    rw [e]
    exact this
  · have hnu : NuOk (nuL [.int .i64 a, .int .i64 n, .int .i64 (a.tmod n)]) := nuL_ok (by simp [PV.clean, PV.pure])
    have := Ev.of prog_ok hnu (TabOk.orc hnu (((emptyTab_ok _ _).bin (.int (k := .i64) (a := a.tmod n) (b := 0) (by decide) (by decide) rfl rfl (by simp [intP, hc, sub0]))).bin (.int (k := .i64) (a := a) (b := n) (by decide) (by decide) rfl rfl (by simp [intP, hn, sub0, nuL])))) wthn_kf (by simp [sub1, sub0, nuL, PV.pure, PV.shut, PV.clean, PV.one]) rfl rfl
    have e : wthn a n = a.tmod n := if_neg hc
    rw [e]
    exact this
end Go.Proofs.Ytglffgneikoeaaa.Den
namespace Go.Proofs.Ytglffgneikoeaaa.Den
open Go Go.RowKit Go.Proofs.Ytglffgneikoeaaa
def okB : Option (PV × List Res) → Bool
  | some (.bool true, []) => true
  | _ => false
theorem okB_eq {o : Option (PV × List Res)} (h : okB o = true) : o = some (.bool true, []) := by
  unfold okB at h
  split at h
  · rfl
  · cases h
theorem errs_k : ((List.range 17).all fun i => okB (callF Try.prog (Tab.orc { prims := [(29, [.atom 0, .int .i64 17], .int .i64 i)] }) 60 7 [.atom 0] [])) = true := by kernel_rfl
theorem errs_ev (a : Int) : Ev Try.prog 7 [.int .i64 a] (.bool true) := by
  obtain ⟨h1, h2⟩ := wthn_range a 17 (by decide) (by decide)
  have hk := List.all_eq_true.1 errs_k (wthn a 17).toNat (by rw [List.mem_range]; omega)
  have e : (((wthn a 17).toNat : Nat) : Int) = wthn a 17 := by omega
  rw [e] at hk
  have hnu : NuOk (nuL [.int .i64 a]) := nuL_ok (by simp [PV.clean, PV.pure])
  exact Ev.of prog_ok hnu (TabOk.orc hnu ((emptyTab_ok _ _).prim (within_ev a 17 (by decide)) rfl rfl rfl trivial)) (okB_eq hk) (by simp [sub1, sub0, nuL, PV.pure, PV.shut, PV.clean, PV.one]) rfl rfl
end Go.Proofs.Ytglffgneikoeaaa.Den
namespace Go.Proofs.Ytglffgneikoeaaa.Den
open Go Go.RowKit
open Go.ChangeShapes Go.WideShapes
/-- All that stands in a world, as settled. -/
def worldMap (W : World) : Map := ⟨fun b o => W.cell? ⟨b, o, none⟩, fun _ => none, fun _ _ => none, fun _ => .any⟩
theorem worldMap_ok (W : World) : (worldMap W).Ok W := fun _ _ _ h => h
/-- A slice of ints that comes in. -/
theorem ints_arg {H : Type} {enc : TypeId × Value → H} {P : Program} {W : World} {base : Nat} {t e : TypeId} {v : Value} {d : DataW H} {p : List MemPlace} (ht : P.underlying t = some (.slice e)) (he : P.underlying e = some (.int .i64)) (hc : P.cellsOf e = 1)
    (hv : Value.okWide P W .any base t v) (h : DataW.Trod enc P W 0 (fun _ => true) true t v d p) :
    ∃ (xs : List Int) (pv : PV), (pv = .slice 1 (xs.map (.int .i64)) ∨ (pv = .nilslice ∧ xs = [])) ∧ R (worldMap W) pv v ∧ xs.length ≤ maxLen ∧ ∀ n ∈ xs, (Lit.int .i64 n).wf = true := by
  obtain ⟨a0, len0, cap0, rfl⟩ := okWide_slice ht hv
  obtain ⟨fuel, hf⟩ := h
  rcases open_ints ht he hc hf with ⟨hcs, _⟩ | ⟨x, l, c, zs, hcs, _, hl, hm, hz, _, hcell, hwz⟩
  · simp [Value.cells] at hcs
    obtain ⟨rfl, rfl, rfl⟩ := hcs
    exact ⟨[], .nilslice, .inr ⟨rfl, rfl⟩, .nilslice, by simp, by simp⟩
  · simp [Value.cells] at hcs
    obtain ⟨rfl, rfl, rfl⟩ := hcs
    have hsp : x.spot = none := by
      simp only [Value.okWide, ht, Cell.okWide, Cell.ok] at hv
      exact hv.2.2.2.1
    obtain ⟨b, o, sp⟩ := x
    simp only at hsp
    subst hsp
    have hz' : zs.length = cap0 := by simpa using hz
    have hlen : (zs.take len0).length = len0 := by simp; omega
    have hcell' : ∀ i, i < zs.length → W.cell? ⟨b, o + i, none⟩ = some (.int .i64 (zs.getD i 0)) := fun i hi => by
      have := hcell i hi
      rwa [add_plain] at this
    have hfl : (((zs.take len0).map (PV.int .i64)).flatMap PV.cellsD) = (zs.take len0).map (PV.int .i64) := by
      generalize zs.take len0 = l
      induction l with
      | nil => rfl
      | cons y l ih => simp only [List.map_cons, List.flatMap_cons, ih]; rfl
    have hget : ∀ j c, ((zs.take len0).map (PV.int .i64))[j]? = some c → j < zs.length ∧ c = .int .i64 (zs.getD j 0) := fun j c hj => by
      rw [List.getElem?_map] at hj
      cases hq : (zs.take len0)[j]? with
      | none => rw [hq] at hj; cases hj
      | some q =>
        rw [hq] at hj
        obtain rfl := Option.some.inj hj
        have hjl : j < (zs.take len0).length := (List.getElem?_eq_some_iff.1 hq).1
        have hjz : j < zs.length := by simp at hjl; omega
        refine ⟨hjz, ?_⟩
        rw [List.getElem?_take_of_lt (by simp at hjl; omega), List.getElem?_eq_getElem hjz] at hq
        rw [List.getD_eq_getElem?_getD, List.getElem?_eq_getElem hjz]
        cases hq; rfl
    refine ⟨zs.take len0, _, .inl rfl, ?_, by rw [hlen]; omega, fun n hn => hwz n (List.mem_of_mem_take hn)⟩
    have := R.slice (X := worldMap W) 1 ((zs.take len0).map (PV.int .i64)) b o cap0 (fun j => .int .i64 (zs.getD j 0)) (fun x hx => by
      obtain ⟨q, _, rfl⟩ := List.mem_map.1 hx; rfl) (by decide) (by simp; omega)
      (fun j c hj => by rw [hfl] at hj; exact hcell' j (hget j c hj).1)
      (fun j c hj => by rw [hfl] at hj; rw [(hget j c hj).2]; exact .int _ _)
      (fun j c hj => by rw [hfl] at hj; rw [(hget j c hj).2]; exact ⟨rfl, rfl⟩)
    rw [List.length_map, hlen] at this
    exact this
end Go.Proofs.Ytglffgneikoeaaa.Den
