import Derived.Test.YtglffgneikoeaaaDen3
namespace Go.Proofs.Ytglffgneikoeaaa.Den
open Go Go.RowKit Go.Proofs.Ytglffgneikoeaaa
/-- All that is asked of two numbers, by whether the first is less, the same. -/
def cmpTab (l e : Bool) : List (BinOp × PV × PV × PV) :=
  [(.neq, .atom 0, .atom 0, .bool false), (.neq, .atom 1, .atom 1, .bool false), (.lss, .atom 0, .atom 0, .bool false), (.lss, .atom 1, .atom 1, .bool false), (.gtr, .atom 0, .atom 0, .bool false), (.gtr, .atom 1, .atom 1, .bool false),
   (.leq, .atom 0, .atom 0, .bool true), (.neq, .atom 0, .atom 1, .bool !e),
   (.lss, .atom 0, .atom 1, .bool l), (.lss, .atom 1, .atom 0, .bool (!l && !e)), (.gtr, .atom 0, .atom 1, .bool (!l && !e)), (.gtr, .atom 1, .atom 0, .bool l), (.leq, .atom 0, .atom 1, .bool (l || e))]
theorem intP_bool {op : BinOp} {a b : Int} {q r : Bool} (h : intP op .i64 a b = some (.bool q)) (hq : q = r) : intP op .i64 a b = some (.bool r) := by rw [h, hq]
theorem cmpTab_ok (P : Program) (a b : Int) (l : List PV) : ∀ t ∈ cmpTab (decide (a < b)) (decide (a = b)), BinOk (nuL (.int .i64 a :: .int .i64 b :: l)) t.1 t.2.1 t.2.2.1 t.2.2.2 := by
  intro t ht
  simp only [cmpTab, List.mem_cons, List.not_mem_nil, or_false] at ht
  rcases ht with rfl | rfl | rfl | rfl | rfl | rfl | rfl | rfl | rfl | rfl | rfl | rfl | rfl
  all_goals
    refine .int (k := .i64) (by intro h; cases h) (by intro h; cases h) rfl rfl (intP_bool rfl ?_)
    refine Bool.eq_iff_iff.2 ?_
    simp <;> omega
theorem TabOk.more {P : Program} {nu : Nat → PV} {ps : List (FuncId × List PV × PV)} {bs cs : List (BinOp × PV × PV × PV)} {ow : TypeId → Nat → Bool} (h : TabOk P nu ⟨ps, bs, ow⟩) (hc : ∀ t ∈ cs, BinOk nu t.1 t.2.1 t.2.2.1 t.2.2.2) : TabOk P nu ⟨ps, cs ++ bs, ow⟩ :=
  ⟨h.prims, fun op x y r hm => by
    rcases List.mem_append.1 hm with hm | hm
    · exact hc _ hm
    · exact h.bins _ _ _ _ hm⟩
def cmpO (l e z : Bool) (i : Int) : Orc := Tab.orc { own := fun t n => Nat.beq t 42 && Nat.beq n 4, prims := [(29, [.atom 2, .int .i64 4], .atom 3), (29, [.atom 2, .int .i64 2], .int .i64 i)], bins := cmpTab l e ++ [(.eql, .atom 3, .int .i64 0, .bool z)] }
theorem compares_k : ([(true, false), (false, true), (false, false)].all fun le => [true, false].all fun z => (List.range 2).all fun i => okB (callF Try.prog (cmpO le.1 le.2 z i) 60 5 [.atom 0, .atom 1, .atom 2] [])) = true := by kernel_rfl
theorem compares_ev (a b c : Int) : Ev Try.prog 5 [.int .i64 a, .int .i64 b, .int .i64 c] (.bool true) := by
  obtain ⟨h1, h2⟩ := wthn_range c 2 (by decide) (by decide)
  have hnu : NuOk (nuL [.int .i64 a, .int .i64 b, .int .i64 c, .int .i64 (wthn c 4)]) := nuL_ok (by simp [PV.clean, PV.pure])
  have hle : (decide (a < b), decide (a = b)) ∈ [(true, false), (false, true), (false, false)] := by
    by_cases h3 : a < b
    · have : ¬ a = b := by omega
      simp [h3, this]
    · by_cases h4 : a = b <;> simp [h3, h4]
  have hz : decide (wthn c 4 = 0) ∈ [true, false] := by cases decide (wthn c 4 = 0) <;> simp
  have hk := List.all_eq_true.1 (List.all_eq_true.1 (List.all_eq_true.1 compares_k _ hle) _ hz) (wthn c 2).toNat (by rw [List.mem_range]; omega)
  have e1 : (((wthn c 2).toNat : Nat) : Int) = wthn c 2 := by omega
  rw [e1] at hk
  exact Ev.of prog_ok hnu (TabOk.orc hnu (((((emptyTab_ok _ _).bin (.int (k := .i64) (a := wthn c 4) (b := 0) (by decide) (by decide) rfl rfl (intP_bool rfl (by rw [Bool.eq_iff_iff]; simp)))).more (cmpTab_ok Try.prog a b _)).prim (within_ev c 2 (by decide)) rfl rfl rfl trivial).prim (within_ev c 4 (by decide)) rfl rfl rfl rfl)) (okB_eq hk) (by simp [sub1, sub0, nuL, PV.pure, PV.shut, PV.clean, PV.one]) rfl rfl
end Go.Proofs.Ytglffgneikoeaaa.Den
