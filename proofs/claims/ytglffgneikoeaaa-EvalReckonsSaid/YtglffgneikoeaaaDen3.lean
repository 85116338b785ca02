import Derived.Test.YtglffgneikoeaaaDen2
namespace Go.Proofs.Ytglffgneikoeaaa.Den
open Go Go.RowKit Go.Proofs.Ytglffgneikoeaaa
def okB : Option (PV × List Res) → Bool
  | some (.bool true, []) => true
  | _ => false
theorem okB_eq {o : Option (PV × List Res)} (h : okB o = true) : o = some (.bool true, []) := by
  unfold okB at h
  split at h
  · rfl
  · cases h
theorem errs_k : ((List.range 17).all fun i => okB (callF Try.prog (Tab.orc { prims := [(29, [.atom 0, .int .i64 17], .int .i64 i)] }) 60 7 [.atom 0] [])) = true := by kernel_rfl
theorem errs_ev (a : Int) : Ev Try.prog 7 [.int .i64 a] (.bool true) := by
  obtain ⟨h1, h2⟩ := wthn_range a 17 (by decide) (by decide)
  have hk := List.all_eq_true.1 errs_k (wthn a 17).toNat (by rw [List.mem_range]; omega)
  have e : (((wthn a 17).toNat : Nat) : Int) = wthn a 17 := by omega
  rw [e] at hk
  have hnu : NuOk (nuL [.int .i64 a]) := nuL_ok (by simp [PV.clean, PV.pure])
  exact Ev.of prog_ok hnu (TabOk.orc hnu ((emptyTab_ok _ _).prim (within_ev a 17 (by decide)) rfl rfl rfl trivial)) (okB_eq hk) (by simp [sub1, sub0, nuL, PV.pure, PV.shut, PV.clean, PV.one]) rfl rfl
end Go.Proofs.Ytglffgneikoeaaa.Den
