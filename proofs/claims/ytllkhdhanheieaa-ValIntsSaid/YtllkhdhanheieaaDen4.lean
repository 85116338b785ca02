import Derived.Test.YtllkhdhanheieaaDen2
import Derived.Test.YtllkhdhanheieaaProg
namespace Go.Proofs.Ytllkhdhanheieaa.Den
open Go Go.RowKit Go.Proofs.Ytllkhdhanheieaa
theorem prog_ok : progOk Try.prog = true := by kernel_rfl
theorem wthn_kt : callF Try.prog (Tab.orc { bins := [(.rem, .atom 0, .atom 1, .atom 2), (.lss, .atom 2, .int .i64 0, .bool true), (.add, .atom 2, .atom 1, .atom 3)] }) 5 17 [.atom 0, .atom 1] [] = some (.atom 3, []) := by kernel_rfl
theorem wthn_kf : callF Try.prog (Tab.orc { bins := [(.rem, .atom 0, .atom 1, .atom 2), (.lss, .atom 2, .int .i64 0, .bool false)] }) 5 17 [.atom 0, .atom 1] [] = some (.atom 2, []) := by kernel_rfl
theorem within_ev (a n : Int) (hn : n ≠ 0) : Ev Try.prog 17 [.int .i64 a, .int .i64 n] (.int .i64 (wthn a n)) := by
  by_cases hc : a.tmod n < 0
  · have hnu : NuOk (nuL [.int .i64 a, .int .i64 n, .int .i64 (a.tmod n), .int .i64 (IntKind.i64.wrap (a.tmod n + n))]) := nuL_ok (by simp [PV.clean, PV.pure])
    have := Ev.of prog_ok hnu (TabOk.orc hnu (((emptyTab_ok _ _).bin (.int (k := .i64) (a := a.tmod n) (b := n) (by decide) (by decide) rfl rfl rfl)).bin (.int (k := .i64) (a := a.tmod n) (b := 0) (by decide) (by decide) rfl rfl (by simp [intP, hc, sub0])) |>.bin (.int (k := .i64) (a := a) (b := n) (by decide) (by decide) rfl rfl (by simp [intP, hn, sub0, nuL])))) wthn_kt (by simp [sub1, sub0, nuL, PV.pure, PV.shut, PV.clean, PV.one]) rfl rfl
    have e : wthn a n = IntKind.i64.wrap (a.tmod n + n) := if_pos hc
    rw [e]
    exact this
  · have hnu : NuOk (nuL [.int .i64 a, .int .i64 n, .int .i64 (a.tmod n)]) := nuL_ok (by simp [PV.clean, PV.pure])
    have := Ev.of prog_ok hnu (TabOk.orc hnu (((emptyTab_ok _ _).bin (.int (k := .i64) (a := a.tmod n) (b := 0) (by decide) (by decide) rfl rfl (by simp [intP, hc, sub0]))).bin (.int (k := .i64) (a := a) (b := n) (by decide) (by decide) rfl rfl (by simp [intP, hn, sub0, nuL])))) wthn_kf (by simp [sub1, sub0, nuL, PV.pure, PV.shut, PV.clean, PV.one]) rfl rfl
    have e : wthn a n = a.tmod n := if_neg hc
    rw [e]
    exact this
end Go.Proofs.Ytllkhdhanheieaa.Den
