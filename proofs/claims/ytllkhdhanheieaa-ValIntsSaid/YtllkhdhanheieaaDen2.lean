import Derived.Test.YtllkhdhanheieaaDen1
import Derived.IntWalk
namespace Go.Proofs.Ytllkhdhanheieaa.Den
open Go Go.RowKit
/-- What some atoms stand for. -/
def nuL (l : List PV) (j : Nat) : PV := l.getD j (.bool false)
theorem nuL_ok {l : List PV} (h : ∀ p ∈ l, p.clean = true ∧ p.pure = true) : NuOk (nuL l) := by
  have : ∀ j, (nuL l j).clean = true ∧ (nuL l j).pure = true := fun j => by
    unfold nuL
    rw [List.getD_eq_getElem?_getD]
    cases hj : l[j]? with
    | none => exact ⟨rfl, rfl⟩
    | some p => exact h p (List.mem_of_getElem? hj)
  exact ⟨fun j => (this j).1, fun j => (this j).2⟩
/-- The remainder that is not below 0. -/
def wthn (a n : Int) : Int := if a.tmod n < 0 then IntKind.i64.wrap (a.tmod n + n) else a.tmod n
theorem emptyTab_ok (P : Program) (nu : Nat → PV) {ow : TypeId → Nat → Bool} : TabOk P nu ⟨[], [], ow, []⟩ := ⟨(fun _ _ _ h => by simp at h), (fun _ _ _ _ h => by simp at h), (fun _ _ _ _ _ h => by simp at h)⟩
theorem TabOk.bin {P : Program} {nu : Nat → PV} {ps : List (FuncId × List PV × PV)} {bs : List (BinOp × PV × PV × PV)} {ow : TypeId → Nat → Bool} {es : List (BinOp × TypeId × PV × PV × PV)} {op : BinOp} {x y r : PV} (h : TabOk P nu ⟨ps, bs, ow, es⟩) (hb : BinOk nu op x y r) : TabOk P nu ⟨ps, (op, x, y, r) :: bs, ow, es⟩ :=
  ⟨h.prims, fun op' x' y' r' hm => by
    rcases List.mem_cons.1 hm with e | hm
    · cases e; exact hb
    · exact h.bins _ _ _ _ hm, h.eqs⟩
theorem TabOk.prim {P : Program} {nu : Nat → PV} {ps : List (FuncId × List PV × PV)} {bs : List (BinOp × PV × PV × PV)} {ow : TypeId → Nat → Bool} {es : List (BinOp × TypeId × PV × PV × PV)} {g : FuncId} {args : List PV} {r : PV} (h : TabOk P nu ⟨ps, bs, ow, es⟩) (hg : Ev P g (args.map (sub1 nu)) (sub2 nu r))
    (h1 : PV.pureL (args.map (sub1 nu)) = true) (h2 : (sub2 nu r).pure = true) (h3 : r.shut2 = true) (h4 : match r with | .atom j => (nu j).one = true | .tup vs => vs.all (fun | .atom j => (nu j).one | _ => true) = true | _ => True) : TabOk P nu ⟨(g, args, r) :: ps, bs, ow, es⟩ :=
  ⟨fun g' args' r' hm => by
    rcases List.mem_cons.1 hm with e | hm
    · cases e
      refine ⟨hg, fun p hp => pureL_mem h1 _ (List.mem_map_of_mem hp), h2, h3, fun j hj => ?_, fun vs hvs j hj => ?_⟩
      · subst hj; exact h4
      · subst hvs
        have := List.all_eq_true.1 h4 _ hj
        exact this
    · exact h.prims _ _ _ hm, h.bins, h.eqs⟩
theorem BinOk.int {nu : Nat → PV} {op : BinOp} {x y r : PV} {k : IntKind} {a b : Int} (h1 : op ≠ .shl) (h2 : op ≠ .shr) (hx : sub0 nu x = .int k a) (hy : sub0 nu y = .int k b) (h : intP op k a b = some (sub0 nu r)) : BinOk nu op x y r :=
  .inl ⟨k, a, b, h1, h2, hx, hy, h⟩
theorem wthn_range (a n : Int) (h : 0 < n) (h2 : n < 4611686018427387904) : 0 ≤ wthn a n ∧ wthn a n < n := by
  unfold wthn
  have h3 := Int.tmod_lt_of_pos a h
  have h4 : -n < a.tmod n := Int.lt_tmod_of_pos a h
  split
  · rw [Go.IntWalk.i64_in _ (by omega)]; omega
  · omega
end Go.Proofs.Ytllkhdhanheieaa.Den
