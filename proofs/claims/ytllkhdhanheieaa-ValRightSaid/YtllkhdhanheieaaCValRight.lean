/- Whether any value may be is the document's; so is one of which one thing was turned; normed it is the document's. Conditions: none. -/
-- Written by drive.py and pack.py (programs of this proof's own) through the kit's printer; not trusted: Lean checks it.
import Derived.Test.YtllkhdhanheieaaRows
import Derived.Test.YtllkhdhanheieaaCValRight13
import Derived.Test.YtllkhdhanheieaaCValRight14
import Derived.WalkKit
import Derived.ProofKit
import Derived.OpenShut
import Derived.ShutString
import Derived.ChangeOld
import Derived.Below
import Derived.SizedLaws
import Derived.Lib.SmallJoins
namespace Go.Proofs.Ytllkhdhanheieaa.valRight
open Go.ChangeShapes Go.WideShapes Go.ChangeAt Go.RowKit Go.Joins
open Go.ChangeMaps (open_string shut_string)
set_option linter.unusedVariables false
theorem own : ownKnob Try.prog.godebug = none := by kernel_rfl
theorem cells4 : Try.prog.cellsOf 23 = 4 := by kernel_rfl
theorem I64_wf {x : Int} (h : (Lit.int .i64 x).wf = true) : V.I64 x := V.I64_of h
theorem walk (x0 x1 x2 : Int) (x3 : ByteArray) (a1 a2 : Int) (a3 : ByteArray) (a4 a5 : Int) (w : World) (u1 : (Lit.int .i64 x1).wf = true) (u2 : (Lit.int .i64 x2).wf = true) (w1 : (Lit.int .i64 a1).wf = true) (w2 : (Lit.int .i64 a2).wf = true) (w3 : a3.size ≤ 140737488351232) (w4 : (Lit.int .i64 a4).wf = true) (w5 : (Lit.int .i64 a5).wf = true) :
    Calls Try.prog 3 #[.agg #[.int .i64 x0, .int .i64 x1, .int .i64 x2, .string x3], .int .i64 a1, .int .i64 a2, .string a3, .int .i64 a4, .int .i64 a5] w fun e w' => e = .returned (.bool true) ∧ Below w.heap.size w w' := by
  obtain ⟨k, h⟩ := Pure.ValRight x0 x1 x2 x3 a1 a2 a3 a4 a5 (I64_wf u1) (I64_wf u2) (I64_wf w1) (I64_wf w2) w3 (I64_wf w4) (I64_wf w5)
  exact V.federationlaw1_ValRight.calls k x0 x1 x2 x3 a1 a2 a3 a4 a5 true w h
set_option maxRecDepth 100000 in
theorem lifted (os : Os) (started : os.Started) (H : Type) (enc : TypeId × Value → H) :
    ReturnsInHanded {} Try.checked os 3 .any (Rows.valRightSpec.pre6 enc Try.prog Try.f3 Rows.valRightRow.domain false) (Rows.valRightSpec.post enc Try.prog Try.f3 false true false false) := by
  refine returnsInHanded_of_change_sized (C := Try.checked) own started (by kernel_rfl) Try.func3
    (ChangeSpec.witness6 (enc := enc) (C := Try.checked) false ⟨#[], #[.agg #[.int .i64 0, .int .i64 0, .int .i64 0, .string ByteArray.empty], .int .i64 0, .int .i64 0, .string ByteArray.empty, .int .i64 0, .int .i64 0], []⟩ 8 (by kernel_rfl) (by kernel_rfl) (by kernel_rfl) (by kernel_rfl)) ?_
  intro W base args ds gs before hval0 hW hcnd hsz0 _
  have hsz : (DataW.weightsEach Try.prog (Try.f3.params.toList ++ Rows.valRightSpec.plain.varTypes Try.prog) (ds ++ gs)).all (· ≤ reachBytes) = true := hsz0
  have hval : ∀ (j : Nat) t v, Try.f3.params[j]? = some t → args[j]? = some v → Value.okWide Try.prog W .any base t v := hval0
  have hW' := hW
  obtain ⟨p, q, hA0, hV, rfl, hfz, hnd⟩ := hW
  have hA : DataW.TrodAll enc Try.prog W 0 (fun _ => true) true Try.f3.params.toList args.toList ds p := hA0
  rw [Try.params3] at hA hval hsz
  obtain ⟨v0, vs0, d0, ds0, p0, q0, hargs, rfl, rfl, h0, r0⟩ := trodAll_cons hA
  obtain ⟨v1, vs1, d1, ds1, p1, q1, rfl, rfl, rfl, h1, r1⟩ := trodAll_cons r0
  obtain ⟨v2, vs2, d2, ds2, p2, q2, rfl, rfl, rfl, h2, r2⟩ := trodAll_cons r1
  obtain ⟨v3, vs3, d3, ds3, p3, q3, rfl, rfl, rfl, h3, r3⟩ := trodAll_cons r2
  obtain ⟨v4, vs4, d4, ds4, p4, q4, rfl, rfl, rfl, h4, r4⟩ := trodAll_cons r3
  obtain ⟨v5, vs5, d5, ds5, p5, q5, rfl, rfl, rfl, h5, r5⟩ := trodAll_cons r4
  obtain ⟨rfl, rfl, rfl⟩ := trodAll_nil r5
  obtain rfl : args = #[v0, v1, v2, v3, v4, v5] := by cases args; simp_all
  obtain ⟨rfl, rfl⟩ := trodVars_none hV
  obtain ⟨c0, c1, c2, c3, y0, y1, y2, y3, m, rfl, rfl, rfl, g0, g1, g2, g3⟩ := open_agg4 Try.underlying23 (by kernel_rfl) cells4 (hval 0 23 v0 rfl rfl) h0
  obtain ⟨x0, e0, rfl, u0⟩ := DataW.trod_int Try.underlying3 g0
  obtain ⟨x1, e1, rfl, u1⟩ := DataW.trod_int Try.underlying3 g1
  obtain ⟨x2, e2, rfl, u2⟩ := DataW.trod_int Try.underlying3 g2
  obtain ⟨x3, e3, rfl, u3⟩ := DataW.trod_string Try.underlying9 g3
  simp at e0 e1 e2 e3
  subst e0 e1 e2 e3
  obtain ⟨a1, rfl, rfl, rfl, w1⟩ := open_int Try.underlying3 (hval 1 3 v1 rfl rfl) h1
  obtain ⟨a2, rfl, rfl, rfl, w2⟩ := open_int Try.underlying3 (hval 2 3 v2 rfl rfl) h2
  obtain ⟨a3, rfl, rfl, rfl, z3⟩ := open_string Try.underlying9 (hval 3 9 v3 rfl rfl) h3
  have w3 : a3.size ≤ 140737488351232 := by
    have z := sized_string hsz (j := 3) (t := 9) rfl rfl
    rw [Array.length_toList] at z
    exact z
  obtain ⟨a4, rfl, rfl, rfl, w4⟩ := open_int Try.underlying3 (hval 4 3 v4 rfl rfl) h4
  obtain ⟨a5, rfl, rfl, rfl, w5⟩ := open_int Try.underlying3 (hval 5 3 v5 rfl rfl) h5
  clear hA0 hval0 hsz0 hsz
  simp only [List.append_nil] at hW'
  have structReads : ∀ (W' : World) (sp : Nat → Bool), DataW.Trod enc Try.prog W' 0 sp true 23 (.agg #[.int .i64 x0, .int .i64 x1, .int .i64 x2, .string x3]) (.agg [.lit (.int .i64 x0), .lit (.int .i64 x1), .lit (.int .i64 x2), .lit (.string x3.data.toList)]) [] := fun W' sp =>
    shut_agg4 (y0 := (.lit (.int .i64 x0), [])) (y1 := (.lit (.int .i64 x1), [])) (y2 := (.lit (.int .i64 x2), [])) (y3 := (.lit (.string x3.data.toList), [])) Try.underlying23 (by kernel_rfl) cells4 ⟨1, by simp [DataW.trod, Try.underlying3, u0]⟩ ⟨1, by simp [DataW.trod, Try.underlying3, u1]⟩ ⟨1, by simp [DataW.trod, Try.underlying3, u2]⟩ ⟨1, by simp [DataW.trod, Try.underlying9, u3]⟩
  refine (walk x0 x1 x2 x3 a1 a2 a3 a4 a5 W u1 u2 w1 w2 w3 w4 w5).mono fun e W' ⟨he, bel⟩ => ?_
  subst he
  exact ⟨_, rfl, _, _, _, [], _, [], hW', trodAll_mk1 (shut_bool Try.underlying4 _), (trodAll_cons_mk (structReads _ _) (trodAll_cons_mk (shut_int Try.underlying3 w1) (trodAll_cons_mk (shut_int Try.underlying3 w2) (trodAll_cons_mk (shut_string Try.underlying9 z3) (trodAll_cons_mk (shut_int Try.underlying3 w4) (trodAll_cons_mk (shut_int Try.underlying3 w5) trodAll_mk0)))))), rfl, bel.frame _, fun h => by cases h⟩
theorem over : Rows.valRightRow.holds Try.pinned (OpenSpec.ofChange Rows.valRightSpec) :=
  OpenClaim.holds_of_wide 3 Try.f3 rfl rfl rfl rfl rfl rfl rfl ⟨rfl, rfl, rfl, rfl, rfl⟩ rfl rfl rfl rfl rfl (by kernel_rfl) Try.func3 (by kernel_rfl)
    (of_decide_eq_true (by kernel_rfl)) (by unfold Func.isWrapper; first | (rw [if_pos (by decide +kernel)]; kernel_rfl) | (rw [if_neg (by decide +kernel)]; exact ⟨rfl, rfl⟩))
    (fun os started H enc _ => lifted os started H enc)
theorem proved : Rows.ValRightSaid := over
#print axioms proved
end Go.Proofs.Ytllkhdhanheieaa.valRight
namespace Go.Proofs.Ytllkhdhanheieaa
theorem valRight_holds : Rows.ValRightSaid := valRight.proved
end Go.Proofs.Ytllkhdhanheieaa
