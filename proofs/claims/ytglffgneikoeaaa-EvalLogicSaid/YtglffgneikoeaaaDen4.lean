import Derived.Test.YtglffgneikoeaaaDen3
namespace Go.Proofs.Ytglffgneikoeaaa.Den
open Go Go.RowKit Go.Proofs.Ytglffgneikoeaaa
theorem logic_k : ((List.range 3).all fun i => (List.range 3).all fun j => okB (callF Try.prog (Tab.orc { prims := [(29, [.atom 0, .int .i64 3], .int .i64 i), (29, [.atom 1, .int .i64 3], .int .i64 j)] }) 60 4 [.atom 0, .atom 1] [])) = true := by kernel_rfl
theorem logic_ev (a b : Int) : Ev Try.prog 4 [.int .i64 a, .int .i64 b] (.bool true) := by
  obtain ⟨h1, h2⟩ := wthn_range a 3 (by decide) (by decide)
  obtain ⟨h3, h4⟩ := wthn_range b 3 (by decide) (by decide)
  have hk := List.all_eq_true.1 (List.all_eq_true.1 logic_k (wthn a 3).toNat (by rw [List.mem_range]; omega)) (wthn b 3).toNat (by rw [List.mem_range]; omega)
  have e1 : (((wthn a 3).toNat : Nat) : Int) = wthn a 3 := by omega
  have e2 : (((wthn b 3).toNat : Nat) : Int) = wthn b 3 := by omega
  rw [e1, e2] at hk
  have hnu : NuOk (nuL [.int .i64 a, .int .i64 b]) := nuL_ok (by simp [PV.clean, PV.pure])
  exact Ev.of prog_ok hnu (TabOk.orc hnu (((emptyTab_ok _ _).prim (within_ev b 3 (by decide)) rfl rfl rfl trivial).prim (within_ev a 3 (by decide)) rfl rfl rfl trivial)) (okB_eq hk) (by simp [sub1, sub0, nuL, PV.pure, PV.shut, PV.clean, PV.one]) rfl rfl
/-- True, false, null. -/
def truthV (i : Int) : PV := .agg [.int .i64 (if i = 2 then 0 else 1), .int .i64 (if i = 0 then 1 else 0), .int .i64 0, .str []]
theorem truth_k0 : callF Try.prog (Tab.orc { prims := [(29, [.atom 0, .int .i64 3], .int .i64 0)] }) 60 25 [.atom 0] [] = some (truthV 0, []) := by kernel_rfl
theorem truth_k1 : callF Try.prog (Tab.orc { prims := [(29, [.atom 0, .int .i64 3], .int .i64 1)] }) 60 25 [.atom 0] [] = some (truthV 1, []) := by kernel_rfl
theorem truth_k2 : callF Try.prog (Tab.orc { prims := [(29, [.atom 0, .int .i64 3], .int .i64 2)] }) 60 25 [.atom 0] [] = some (truthV 2, []) := by kernel_rfl
theorem truth_ev (a : Int) : Ev Try.prog 25 [.int .i64 a] (truthV (wthn a 3)) := by
  obtain ⟨h1, h2⟩ := wthn_range a 3 (by decide) (by decide)
  have hnu : NuOk (nuL [.int .i64 a]) := nuL_ok (by simp [PV.clean, PV.pure])
  have hw := within_ev a 3 (by decide)
  have h : wthn a 3 = 0 ∨ wthn a 3 = 1 ∨ wthn a 3 = 2 := by omega
  rcases h with h | h | h <;> rw [h] at hw ⊢
  · exact Ev.of prog_ok hnu (TabOk.orc hnu ((emptyTab_ok _ _).prim hw rfl rfl rfl trivial)) truth_k0 (by simp [sub1, sub0, nuL, PV.pure, PV.shut, PV.clean, PV.one]) rfl rfl
  · exact Ev.of prog_ok hnu (TabOk.orc hnu ((emptyTab_ok _ _).prim hw rfl rfl rfl trivial)) truth_k1 (by simp [sub1, sub0, nuL, PV.pure, PV.shut, PV.clean, PV.one]) rfl rfl
  · exact Ev.of prog_ok hnu (TabOk.orc hnu ((emptyTab_ok _ _).prim hw rfl rfl rfl trivial)) truth_k2 (by simp [sub1, sub0, nuL, PV.pure, PV.shut, PV.clean, PV.one]) rfl rfl
theorem first_k : ((List.range 6).all fun i => okB (callF Try.prog (Tab.orc { prims := [(29, [.atom 0, .int .i64 6], .int .i64 i), (25, [.atom 1], .agg [.atom 3, .atom 4, .int .i64 0, .str []]), (25, [.atom 2], .agg [.atom 5, .atom 6, .int .i64 0, .str []])], bins := [(.add, .atom 1, .int .i64 1, .atom 2)] }) 60 9 [.atom 0, .atom 1] [])) = true := by kernel_rfl
theorem first_ev (a b : Int) : Ev Try.prog 9 [.int .i64 a, .int .i64 b] (.bool true) := by
  obtain ⟨h1, h2⟩ := wthn_range a 6 (by decide) (by decide)
  have hk := List.all_eq_true.1 first_k (wthn a 6).toNat (by rw [List.mem_range]; omega)
  have e1 : (((wthn a 6).toNat : Nat) : Int) = wthn a 6 := by omega
  rw [e1] at hk
  have hnu : NuOk (nuL [.int .i64 a, .int .i64 b, .int .i64 (IntKind.i64.wrap (b + 1)), .int .i64 (if wthn b 3 = 2 then 0 else 1), .int .i64 (if wthn b 3 = 0 then 1 else 0),
    .int .i64 (if wthn (IntKind.i64.wrap (b + 1)) 3 = 2 then 0 else 1), .int .i64 (if wthn (IntKind.i64.wrap (b + 1)) 3 = 0 then 1 else 0)]) := nuL_ok (by simp [PV.clean, PV.pure])
  exact Ev.of prog_ok hnu (TabOk.orc hnu ((((((emptyTab_ok _ _).bin (.int (k := .i64) (a := b) (b := 1) (by decide) (by decide) rfl rfl rfl)).prim (truth_ev (IntKind.i64.wrap (b + 1))) rfl rfl rfl trivial)).prim (truth_ev b) rfl rfl rfl trivial).prim (within_ev a 6 (by decide)) rfl rfl rfl trivial)) (okB_eq hk) (by simp [sub1, sub0, nuL, PV.pure, PV.shut, PV.clean, PV.one]) rfl rfl
end Go.Proofs.Ytglffgneikoeaaa.Den
