-- Written by drive.py and pack.py (programs of this proof's own) through the kit's printer; not trusted: Lean checks it.
import Derived.Test.YtllkhdhanheieaaCValKnown1
import Derived.Test.YtllkhdhanheieaaCValKnown10
import Derived.Test.YtllkhdhanheieaaCValKnown3
import Derived.Test.YtllkhdhanheieaaCValKnown2
import Derived.Test.YtllkhdhanheieaaCValKnown9
import Derived.Test.YtllkhdhanheieaaCValKnown8
import Derived.Test.YtllkhdhanheieaaCValKnown7
import Derived.Test.YtllkhdhanheieaaCValKnown6
import Derived.Test.YtllkhdhanheieaaCValKnown5
import Derived.Test.YtllkhdhanheieaaCValKnown4
import Derived.Lib.Strings
import Derived.Test.YtllkhdhanheieaaCValKnown11
namespace Go.Proofs.Ytllkhdhanheieaa.V
open Go.RowKit Go.Proofs.YtllkhdhanheieaaW.PrintWords Go.Proofs.YtllkhdhanheieaaW.PrintLast Go.Proofs.YtllkhdhanheieaaW.PrintMore
attribute [local go_sem] max2_int min2_int max_two min_two max_three min_three max_four min_four
attribute [local go_sem high] own_gtr own_leq own_geq own_cell_set Option.map_some fld23_1
set_option linter.unusedVariables false
set_option linter.unusedSimpArgs false
def BufAt (w : World) (G : Nat) (l : List Int) : Prop := ∃ cur : Array Value, ∃ m : Nat, w.heap[G]? = some (.cells cur 5 (m, m + 1)) ∧ l.length ≤ m ∧ m = cur.size ∧ ∀ j, j < l.length → cur[j]? = some (.int .u8 (l.getD j 0))
theorem BufAt.cell {w : World} {G : Nat} {l : List Int} (h : BufAt w G l) (j : Nat) (hj : j < l.length) : w.cell? ⟨G, j, none⟩ = some (.int .u8 (l.getD j 0)) := by
  obtain ⟨cur, m, h1, h2, h3, h4⟩ := h
  simp [World.cell?, h1, h4 j hj]
theorem BufAt.set {w : World} {G : Nat} {l : List Int} (h : BufAt w G l) (j : Nat) (x : Int) : BufAt (w.setCell ⟨G, j, none⟩ (.int .u8 x)) G (l.set j x) := by
  obtain ⟨cur, m, h1, h2, h3, h4⟩ := h
  refine ⟨cur.setIfInBounds j (.int .u8 x), m, ?_, by simpa using h2, by simpa using h3, ?_⟩
  · simp [World.setCell, Array.getElem?_modify, h1]
  · intro i hi
    rw [List.length_set] at hi
    rw [Array.getElem?_setIfInBounds]
    by_cases e : j = i
    · subst e
      rw [if_pos rfl, if_pos (by omega)]
      simp [List.getD, hi]
    · rw [if_neg e, h4 i hi]
      simp [List.getD, List.getElem?_set_ne e]
theorem BufAt.drewN {w : World} {G : Nat} {l : List Int} (h : BufAt w G l) (n : Nat) : BufAt (w.drewN n) G l := by
  obtain ⟨cur, m, h1, h⟩ := h
  exact ⟨cur, m, by simpa using h1, h⟩
end Go.Proofs.Ytllkhdhanheieaa.V
namespace Go.Proofs.Ytllkhdhanheieaa.V
open Go.RowKit Go.Proofs.YtllkhdhanheieaaW.PrintWords Go.Proofs.YtllkhdhanheieaaW.PrintLast Go.Proofs.YtllkhdhanheieaaW.PrintMore
attribute [local go_sem] max2_int min2_int max_two min_two max_three min_three max_four min_four
attribute [local go_sem high] own_gtr own_leq own_geq own_cell_set Option.map_some fld23_1
set_option linter.unusedVariables false
set_option linter.unusedSimpArgs false
theorem wrap64_of {x : Int} (h0 : -9223372036854775808 ≤ x) (h1 : x ≤ 9223372036854775807) : wrap64 x = x := by
  unfold wrap64; omega
end Go.Proofs.Ytllkhdhanheieaa.V
namespace Go.Proofs.Ytllkhdhanheieaa.V
open Go.RowKit Go.Proofs.YtllkhdhanheieaaW.PrintWords Go.Proofs.YtllkhdhanheieaaW.PrintLast Go.Proofs.YtllkhdhanheieaaW.PrintMore
attribute [local go_sem] max2_int min2_int max_two min_two max_three min_three max_four min_four
attribute [local go_sem high] own_gtr own_leq own_geq own_cell_set Option.map_some fld23_1
set_option linter.unusedVariables false
set_option linter.unusedSimpArgs false
def I64 (x : Int) : Prop := -9223372036854775808 ≤ x ∧ x ≤ 9223372036854775807
end Go.Proofs.Ytllkhdhanheieaa.V
namespace Go.Proofs.Ytllkhdhanheieaa.V
open Go.RowKit Go.Proofs.YtllkhdhanheieaaW.PrintWords Go.Proofs.YtllkhdhanheieaaW.PrintLast Go.Proofs.YtllkhdhanheieaaW.PrintMore
attribute [local go_sem] max2_int min2_int max_two min_two max_three min_three max_four min_four
attribute [local go_sem high] own_gtr own_leq own_geq own_cell_set Option.map_some fld23_1
set_option linter.unusedVariables false
set_option linter.unusedSimpArgs false
theorem within_eq (a n : Int) (ha : I64 a) (h0 : 0 < n) (h1 : n ≤ 4611686018427387904) : federationlaw1_within.f a n = some (a % n) := by
  unfold federationlaw1_within.f I64 at *
  rw [if_neg (by omega)]
  have e1 := Int.mul_tdiv_add_tmod a n
  have e2 := Int.mul_ediv_add_emod a n
  have e3 := Int.emod_lt_of_pos a h0
  have e4 := Int.emod_nonneg a (show n ≠ 0 by omega)
  have e5 := Int.tmod_lt_of_pos a h0
  have e6 := Int.tmod_lt_of_pos (-a) h0
  rw [Int.neg_tmod] at e6
  by_cases c : a.tmod n < 0
  · rw [if_pos c, wrap64_of (by omega) (by omega)]
    have := ((Int.ediv_emod_unique (a := a) (r := a.tmod n + n) (q := a.tdiv n - 1) h0).2 ⟨by rw [Int.mul_sub, Int.mul_one]; omega, by omega, by omega⟩).2
    rw [this]
  · rw [if_neg c]
    have := ((Int.ediv_emod_unique (a := a) (r := a.tmod n) (q := a.tdiv n) h0).2 ⟨by omega, by omega, by omega⟩).2
    rw [this]
theorem emod_bd (a n : Int) (h0 : 0 < n) : 0 ≤ a % n ∧ a % n < n := ⟨Int.emod_nonneg a (by omega), Int.emod_lt_of_pos a h0⟩
end Go.Proofs.Ytllkhdhanheieaa.V
namespace Go.Proofs.Ytllkhdhanheieaa.V
open Go.RowKit Go.Proofs.YtllkhdhanheieaaW.PrintWords Go.Proofs.YtllkhdhanheieaaW.PrintLast Go.Proofs.YtllkhdhanheieaaW.PrintMore
attribute [local go_sem] max2_int min2_int max_two min_two max_three min_three max_four min_four
attribute [local go_sem high] own_gtr own_leq own_geq own_cell_set Option.map_some fld23_1
set_option linter.unusedVariables false
set_option linter.unusedSimpArgs false
theorem I64_of {x : Int} (h : (Lit.int .i64 x).wf = true) : I64 x := by
  have h1 : IntKind.i64.min = -9223372036854775808 := by decide
  have h2 : IntKind.i64.max = 9223372036854775807 := by decide
  simp only [Lit.wf, Bool.and_eq_true, decide_eq_true_eq, h1, h2] at h
  exact h
theorem known_two : federationlaw1_known.f 200 = some true := by decide +kernel
theorem known_ge {k : Nat} (h : 200 ≤ k) : federationlaw1_known.f k = some true := at_rounds federationlaw1_known.mono h known_two
end Go.Proofs.Ytllkhdhanheieaa.V
namespace Go.Proofs.Ytllkhdhanheieaa.Pure
open Go.RowKit Go.Proofs.Ytllkhdhanheieaa.V Go.Proofs.YtllkhdhanheieaaW.PrintWords Go.Proofs.YtllkhdhanheieaaW.PrintLast Go.Proofs.YtllkhdhanheieaaW.PrintMore
theorem num_int (n : Int) : federationlaw1_num.f n (-1) = some (2, n, 0, (⟨#[]⟩ : ByteArray)) := by
  unfold federationlaw1_num.f
  rw [if_pos (by decide)]
theorem num_dec (n s : Int) (h : ¬ s < 0) : federationlaw1_num.f n s = some (3, n, s, (⟨#[]⟩ : ByteArray)) := by
  unfold federationlaw1_num.f
  rw [if_neg h]
set_option maxRecDepth 100000 in
theorem ValKnown : federationlaw1_ValKnown.Pure := by
  intro a0 w0
  refine ⟨300, ?_⟩
  have i0 := I64_of w0
  unfold federationlaw1_ValKnown.f
  rw [known_ge (by decide), Option.bind_some, if_pos rfl]
  repeat (first | rw [num_int, Option.bind_some] | rw [num_dec _ 0 (by decide), Option.bind_some] | rw [num_dec _ 1 (by decide), Option.bind_some] | rw [num_dec _ 2 (by decide), Option.bind_some] | rw [num_dec _ 6 (by decide), Option.bind_some])
  repeat rw [Option.bind_some]
  dsimp only
  have e : federationlaw1_within.f a0 ((12 : Nat) : Int) = some (a0 % 12) := within_eq a0 12 i0 (by decide) (by decide)
  simp only [List.length_cons, List.length_nil, Nat.zero_add, Nat.reduceAdd]
  have b := emod_bd a0 12 (by decide)
  rw [e, Option.bind_some]
  generalize a0 % 12 = t at *
  have c : t = 0 ∨ t = 1 ∨ t = 2 ∨ t = 3 ∨ t = 4 ∨ t = 5 ∨ t = 6 ∨ t = 7 ∨ t = 8 ∨ t = 9 ∨ t = 10 ∨ t = 11 := by omega
  clear e b i0
  rcases c with rfl | rfl | rfl | rfl | rfl | rfl | rfl | rfl | rfl | rfl | rfl | rfl <;> decide +kernel
end Go.Proofs.Ytllkhdhanheieaa.Pure
