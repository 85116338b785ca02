-- Written by drive.py and pack.py (programs of this proof's own) through the kit's printer; not trusted: Lean checks it.
import Derived.Test.YtllkhdhanheieaaCValReckons1
namespace Go.Proofs.Ytllkhdhanheieaa.R
open Go.RowKit Go.Proofs.YtllkhdhanheieaaW.PrintWords Go.Proofs.YtllkhdhanheieaaW.PrintLast Go.Proofs.YtllkhdhanheieaaW.PrintMore
attribute [local go_sem] max2_int min2_int max_two min_two max_three min_three max_four min_four
attribute [local go_sem high] own_gtr own_leq own_geq own_cell_set Option.map_some fld23_1
set_option linter.unusedVariables false
set_option linter.unusedSimpArgs false
def federationref1_number.f (a0_0:Int) (a0_1:Int) (a0_2:Int) (a0_3:ByteArray):Option (Bool):=if a0_0 = 0 then (some true) else (if a0_0 = 2 then (some true) else (some (a0_0 == 3)))
set_option maxHeartbeats 8000000 in
set_option maxRecDepth 100000 in
theorem federationref1_number.calls (a0_0:Int) (a0_1:Int) (a0_2:Int) (a0_3:ByteArray) (r:Bool) (w:World) (h:federationref1_number.f a0_0 a0_1 a0_2 a0_3 = some r) :
  Calls Try.prog 33 #[.agg #[.int .i64 a0_0, .int .i64 a0_1, .int .i64 a0_2, .string a0_3]] w fun e w'=>e = .returned (.bool r) ∧ Below w.heap.size w w':=by
 have hu23:=Try.underlying23
 have HB:=z_ (Below.refl w.heap.size w)
 have H:(if a0_0 = 0 then (some true) else (if a0_0 = 2 then (some true) else (some (a0_0 == 3)))) = some r:=h
 clear h
 by_cases c2:a0_0 = 0
 ·rw [if_pos c2] at H
  have c2b0:(a0_0 == 0) = true:=beq_iff_eq.mpr c2
  have c2b1:(a0_0 != 0) = false:=bne_eq_false_iff_eq.mpr c2
  clear c2
  obtain rfl:=Option.some.inj H
  go_enter Try.func33,Try.ntmps33
  go_wp2_with (first|((with_reducible refine gate_dst (N:=1) rfl ?_);refine box_event ?hg (N:=1) ?hd (cs:=#[.int .i64 a0_0, .int .i64 a0_1, .int .i64 a0_2, .string a0_3]) (t:=23) ?hr ?_;(case hd=>rfl);(case hg=>rfl);(case hr=>first|(go_simp;done)|(go_simp;rfl));intro gb101 hg w3 hbox hb;have n0_:=z_ (below_step (by repeat first|(with_reducible first|exact HB.out|apply zA|apply zN|apply z1)|exact HB.out) hb);have n1_:=z_ (hbox);have n2_:=z_ ((by rw [hg];exact (zBs (by repeat first|(with_reducible first|exact HB.out|apply zA|apply zN|apply z1)|exact HB.out)):w.heap.size ≤ gb101));have n3_:=z_ ((by rw [hg];exact (zBs (by repeat first|(with_reducible first|exact HB.out|apply zA|apply zN|apply z1)|exact HB.out)):w.heap.size ≤ gb101));clear HB;have HB:=n0_;have BK101:=n1_;have GW101:=n2_;have GE101:=n3_;clear n0_ n1_ n2_ n3_;clear hb hbox hg;have hcz4_0:w3.cell? ⟨gb101,0,none⟩ = some (.int .i64 a0_0):=(zce BK101.out 0).trans rfl;have hcz4_1:w3.cell? ⟨gb101,1,none⟩ = some (.int .i64 a0_1):=(zce BK101.out 1).trans rfl;have hcz4_2:w3.cell? ⟨gb101,2,none⟩ = some (.int .i64 a0_2):=(zce BK101.out 2).trans rfl;have hcz4_3:w3.cell? ⟨gb101,3,none⟩ = some (.string a0_3):=(zce BK101.out 3).trans rfl;have hfz4_0:=zfz BK101.out 0;have hfz4_1:=zfz BK101.out 1;have hfz4_2:=zfz BK101.out 2;have hfz4_3:=zfz BK101.out 3))
  go_ret
  exact ⟨by first|rfl|(simp [errW_none,errW_some] <;> rfl)|(simp [*,errW_none,errW_some] <;> rfl),by repeat first|(with_reducible first|exact HB.out|apply zA|apply zN|apply z1|refine zS ?_ GE101.out)|exact HB.out⟩
 ·rw [if_neg c2] at H
  have c2b0:(a0_0 == 0) = false:=beq_eq_false_iff_ne.mpr c2
  have c2b1:(a0_0 != 0) = true:=bne_iff_ne.mpr c2
  by_cases c5:a0_0 = 2
  ·rw [if_pos c5] at H
   have c5b0:(a0_0 == 2) = true:=beq_iff_eq.mpr c5
   have c5b1:(a0_0 != 2) = false:=bne_eq_false_iff_eq.mpr c5
   clear c5
   obtain rfl:=Option.some.inj H
   go_enter Try.func33,Try.ntmps33
   go_wp2_with (first|((with_reducible refine gate_dst (N:=1) rfl ?_);refine box_event ?hg (N:=1) ?hd (cs:=#[.int .i64 a0_0, .int .i64 a0_1, .int .i64 a0_2, .string a0_3]) (t:=23) ?hr ?_;(case hd=>rfl);(case hg=>rfl);(case hr=>first|(go_simp;done)|(go_simp;rfl));intro gb101 hg w6 hbox hb;have n0_:=z_ (below_step (by repeat first|(with_reducible first|exact HB.out|apply zA|apply zN|apply z1)|exact HB.out) hb);have n1_:=z_ (hbox);have n2_:=z_ ((by rw [hg];exact (zBs (by repeat first|(with_reducible first|exact HB.out|apply zA|apply zN|apply z1)|exact HB.out)):w.heap.size ≤ gb101));have n3_:=z_ ((by rw [hg];exact (zBs (by repeat first|(with_reducible first|exact HB.out|apply zA|apply zN|apply z1)|exact HB.out)):w.heap.size ≤ gb101));clear HB;have HB:=n0_;have BK101:=n1_;have GW101:=n2_;have GE101:=n3_;clear n0_ n1_ n2_ n3_;clear hb hbox hg;have hcz7_0:w6.cell? ⟨gb101,0,none⟩ = some (.int .i64 a0_0):=(zce BK101.out 0).trans rfl;have hcz7_1:w6.cell? ⟨gb101,1,none⟩ = some (.int .i64 a0_1):=(zce BK101.out 1).trans rfl;have hcz7_2:w6.cell? ⟨gb101,2,none⟩ = some (.int .i64 a0_2):=(zce BK101.out 2).trans rfl;have hcz7_3:w6.cell? ⟨gb101,3,none⟩ = some (.string a0_3):=(zce BK101.out 3).trans rfl;have hfz7_0:=zfz BK101.out 0;have hfz7_1:=zfz BK101.out 1;have hfz7_2:=zfz BK101.out 2;have hfz7_3:=zfz BK101.out 3))
   go_ret
   exact ⟨by first|rfl|(simp [errW_none,errW_some] <;> rfl)|(simp [*,errW_none,errW_some] <;> rfl),by repeat first|(with_reducible first|exact HB.out|apply zA|apply zN|apply z1|refine zS ?_ GE101.out)|exact HB.out⟩
  ·rw [if_neg c5] at H
   have c5b0:(a0_0 == 2) = false:=beq_eq_false_iff_ne.mpr c5
   have c5b1:(a0_0 != 2) = true:=bne_iff_ne.mpr c5
   obtain rfl:=Option.some.inj H
   go_enter Try.func33,Try.ntmps33
   go_wp2_with (first|((with_reducible refine gate_dst (N:=1) rfl ?_);refine box_event ?hg (N:=1) ?hd (cs:=#[.int .i64 a0_0, .int .i64 a0_1, .int .i64 a0_2, .string a0_3]) (t:=23) ?hr ?_;(case hd=>rfl);(case hg=>rfl);(case hr=>first|(go_simp;done)|(go_simp;rfl));intro gb101 hg w8 hbox hb;have n0_:=z_ (below_step (by repeat first|(with_reducible first|exact HB.out|apply zA|apply zN|apply z1)|exact HB.out) hb);have n1_:=z_ (hbox);have n2_:=z_ ((by rw [hg];exact (zBs (by repeat first|(with_reducible first|exact HB.out|apply zA|apply zN|apply z1)|exact HB.out)):w.heap.size ≤ gb101));have n3_:=z_ ((by rw [hg];exact (zBs (by repeat first|(with_reducible first|exact HB.out|apply zA|apply zN|apply z1)|exact HB.out)):w.heap.size ≤ gb101));clear HB;have HB:=n0_;have BK101:=n1_;have GW101:=n2_;have GE101:=n3_;clear n0_ n1_ n2_ n3_;clear hb hbox hg;have hcz9_0:w8.cell? ⟨gb101,0,none⟩ = some (.int .i64 a0_0):=(zce BK101.out 0).trans rfl;have hcz9_1:w8.cell? ⟨gb101,1,none⟩ = some (.int .i64 a0_1):=(zce BK101.out 1).trans rfl;have hcz9_2:w8.cell? ⟨gb101,2,none⟩ = some (.int .i64 a0_2):=(zce BK101.out 2).trans rfl;have hcz9_3:w8.cell? ⟨gb101,3,none⟩ = some (.string a0_3):=(zce BK101.out 3).trans rfl;have hfz9_0:=zfz BK101.out 0;have hfz9_1:=zfz BK101.out 1;have hfz9_2:=zfz BK101.out 2;have hfz9_3:=zfz BK101.out 3))
   go_ret
   exact ⟨by first|rfl|(simp [errW_none,errW_some] <;> rfl)|(simp [*,errW_none,errW_some] <;> rfl),by repeat first|(with_reducible first|exact HB.out|apply zA|apply zN|apply z1|refine zS ?_ GE101.out)|exact HB.out⟩
end Go.Proofs.Ytllkhdhanheieaa.R
namespace Go.Proofs.Ytllkhdhanheieaa.R
open Go.RowKit Go.Proofs.YtllkhdhanheieaaW.PrintWords Go.Proofs.YtllkhdhanheieaaW.PrintLast Go.Proofs.YtllkhdhanheieaaW.PrintMore
attribute [local go_sem] max2_int min2_int max_two min_two max_three min_three max_four min_four
attribute [local go_sem high] own_gtr own_leq own_geq own_cell_set Option.map_some fld23_1
set_option linter.unusedVariables false
set_option linter.unusedSimpArgs false
def federationref1_plus.f (a0:Int) (a1:Int):Option (Int × Bool):=if ((decide (a0 ≥ 0)) != (decide (a1 ≥ 0))) = true then (some (wrap64 (a0 + a1),true)) else (some (wrap64 (a0 + a1),((decide ((wrap64 (a0 + a1)) ≥ 0)) == (decide (a0 ≥ 0)))))
set_option maxHeartbeats 8000000 in
set_option maxRecDepth 100000 in
theorem federationref1_plus.calls (a0:Int) (a1:Int) (r1:Int) (r2:Bool) (w:World) (h:federationref1_plus.f a0 a1 = some (r1,r2)) :
  Calls Try.prog 51 #[.int .i64 a0, .int .i64 a1] w fun e w'=>e = .returned (.tuple #[.int .i64 r1, .bool r2]) ∧ Drawn0 w w':=by
 have H:(if ((decide (a0 ≥ 0)) != (decide (a1 ≥ 0))) = true then (some (wrap64 (a0 + a1),true)) else (some (wrap64 (a0 + a1),((decide ((wrap64 (a0 + a1)) ≥ 0)) == (decide (a0 ≥ 0)))))) = some (r1,r2):=h
 clear h
 by_cases c3:((decide (a0 ≥ 0)) != (decide (a1 ≥ 0))) = true
 ·rw [if_pos c3] at H
  have c3b0:((decide (a0 ≥ 0)) != (decide (a1 ≥ 0))) = true:=c3
  (try (have c3b1:decide ((decide (a0 ≥ 0)) = (decide (a1 ≥ 0))) = false:=by simpa using c3))
  (try (have c3b2:((decide (a0 ≥ 0)) == (decide (a1 ≥ 0))) = false:=by simpa using c3))
  (try (have c3b3:¬ ((decide (a0 ≥ 0)) = (decide (a1 ≥ 0))):=by simpa using c3))
  clear c3
  simp only [Option.some.injEq,Prod.mk.injEq] at H
  obtain ⟨rfl,rfl⟩:=H
  go_enter Try.func51,Try.ntmps51
  go_wp2
  go_ret2
  exact ⟨by first|rfl|(simp;done)|(simp [*];done),by repeat (first|exact Drawn0.refl _|apply Drawn0.step)⟩
 ·rw [if_neg c3] at H
  have c3b0:((decide (a0 ≥ 0)) != (decide (a1 ≥ 0))) = false:=by simpa using c3
  (try (have c3b1:decide ((decide (a0 ≥ 0)) = (decide (a1 ≥ 0))) = true:=by simpa using c3))
  (try (have c3b2:((decide (a0 ≥ 0)) == (decide (a1 ≥ 0))) = true:=by simpa using c3))
  clear c3
  simp only [Option.some.injEq,Prod.mk.injEq] at H
  obtain ⟨rfl,rfl⟩:=H
  go_enter Try.func51,Try.ntmps51
  go_wp2
  go_ret2
  exact ⟨by first|rfl|(simp;done)|(simp [*];done),by repeat (first|exact Drawn0.refl _|apply Drawn0.step)⟩
end Go.Proofs.Ytllkhdhanheieaa.R
namespace Go.Proofs.Ytllkhdhanheieaa.R
open Go.RowKit Go.Proofs.YtllkhdhanheieaaW.PrintWords Go.Proofs.YtllkhdhanheieaaW.PrintLast Go.Proofs.YtllkhdhanheieaaW.PrintMore
attribute [local go_sem] max2_int min2_int max_two min_two max_three min_three max_four min_four
attribute [local go_sem high] own_gtr own_leq own_geq own_cell_set Option.map_some fld23_1
set_option linter.unusedVariables false
set_option linter.unusedSimpArgs false
def federationref1_times.f (a0:Int) (a1:Int):Option (Int × Bool):=if a0 = 0 then (some (0,true)) else (if a1 = 0 then (some (0,true)) else (if (wrap64 (Int.tdiv (wrap64 (a0 * a1)) a1)) = a0 then (if a0 = (-1) then (if (a1 = (-9223372036854775808)) then (some (wrap64 (a0 * a1),false)) else (if a1 = (-1) then (some (wrap64 (a0 * a1),!(a0 == (-9223372036854775808)))) else (some (wrap64 (a0 * a1),!false)))) else (if a1 = (-1) then (some (wrap64 (a0 * a1),!(a0 == (-9223372036854775808)))) else (some (wrap64 (a0 * a1),!false)))) else (some (wrap64 (a0 * a1),false))))
set_option maxHeartbeats 8000000 in
set_option maxRecDepth 100000 in
theorem federationref1_times.calls (a0:Int) (a1:Int) (r1:Int) (r2:Bool) (w:World) (h:federationref1_times.f a0 a1 = some (r1,r2)) :
  Calls Try.prog 52 #[.int .i64 a0, .int .i64 a1] w fun e w'=>e = .returned (.tuple #[.int .i64 r1, .bool r2]) ∧ Drawn0 w w':=by
 have H:(if a0 = 0 then (some (0,true)) else (if a1 = 0 then (some (0,true)) else (if (wrap64 (Int.tdiv (wrap64 (a0 * a1)) a1)) = a0 then (if a0 = (-1) then (if (a1 = (-9223372036854775808)) then (some (wrap64 (a0 * a1),false)) else (if a1 = (-1) then (some (wrap64 (a0 * a1),!(a0 == (-9223372036854775808)))) else (some (wrap64 (a0 * a1),!false)))) else (if a1 = (-1) then (some (wrap64 (a0 * a1),!(a0 == (-9223372036854775808)))) else (some (wrap64 (a0 * a1),!false)))) else (some (wrap64 (a0 * a1),false))))) = some (r1,r2):=h
 clear h
 by_cases c3:a0 = 0
 ·rw [if_pos c3] at H
  have c3b0:(a0 == 0) = true:=beq_iff_eq.mpr c3
  have c3b1:(a0 != 0) = false:=bne_eq_false_iff_eq.mpr c3
  clear c3
  simp only [Option.some.injEq,Prod.mk.injEq] at H
  obtain ⟨rfl,rfl⟩:=H
  go_enter Try.func52,Try.ntmps52
  go_wp2
  go_ret2
  exact ⟨by first|rfl|(simp;done)|(simp [*];done),by repeat (first|exact Drawn0.refl _|apply Drawn0.step)⟩
 ·rw [if_neg c3] at H
  have c3b0:(a0 == 0) = false:=beq_eq_false_iff_ne.mpr c3
  have c3b1:(a0 != 0) = true:=bne_iff_ne.mpr c3
  by_cases c4:a1 = 0
  ·rw [if_pos c4] at H
   have c4b0:(a1 == 0) = true:=beq_iff_eq.mpr c4
   have c4b1:(a1 != 0) = false:=bne_eq_false_iff_eq.mpr c4
   clear c4
   simp only [Option.some.injEq,Prod.mk.injEq] at H
   obtain ⟨rfl,rfl⟩:=H
   go_enter Try.func52,Try.ntmps52
   go_wp2
   go_ret2
   exact ⟨by first|rfl|(simp;done)|(simp [*];done),by repeat (first|exact Drawn0.refl _|apply Drawn0.step)⟩
  ·rw [if_neg c4] at H
   have c4b0:(a1 == 0) = false:=beq_eq_false_iff_ne.mpr c4
   have c4b1:(a1 != 0) = true:=bne_iff_ne.mpr c4
   by_cases c5:(wrap64 (Int.tdiv (wrap64 (a0 * a1)) a1)) = a0
   ·rw [if_pos c5] at H
    have c5b0:((wrap64 (Int.tdiv (wrap64 (a0 * a1)) a1)) == a0) = true:=beq_iff_eq.mpr c5
    have c5b1:((wrap64 (Int.tdiv (wrap64 (a0 * a1)) a1)) != a0) = false:=bne_eq_false_iff_eq.mpr c5
    clear c5
    by_cases c6:a0 = (-1)
    ·rw [if_pos c6] at H
     have c6b0:(a0 == (-1)) = true:=beq_iff_eq.mpr c6
     have c6b1:(a0 != (-1)) = false:=bne_eq_false_iff_eq.mpr c6
     clear c6
     by_cases c7:(a1 = (-9223372036854775808))
     ·rw [if_pos c7] at H
      have c7b0:(a1 == (-9223372036854775808)) = true:=beq_iff_eq.mpr c7
      have c7b1:(a1 != (-9223372036854775808)) = false:=bne_eq_false_iff_eq.mpr c7
      clear c7
      simp only [Option.some.injEq,Prod.mk.injEq] at H
      obtain ⟨rfl,rfl⟩:=H
      go_enter Try.func52,Try.ntmps52
      go_wp2
      go_ret2
      exact ⟨by first|rfl|(simp;done)|(simp [*];done),by repeat (first|exact Drawn0.refl _|apply Drawn0.step)⟩
     ·rw [if_neg c7] at H
      have c7b0:(a1 == (-9223372036854775808)) = false:=beq_eq_false_iff_ne.mpr c7
      have c7b1:(a1 != (-9223372036854775808)) = true:=bne_iff_ne.mpr c7
      by_cases c8:a1 = (-1)
      ·rw [if_pos c8] at H
       have c8b0:(a1 == (-1)) = true:=beq_iff_eq.mpr c8
       have c8b1:(a1 != (-1)) = false:=bne_eq_false_iff_eq.mpr c8
       clear c8
       simp only [Option.some.injEq,Prod.mk.injEq] at H
       obtain ⟨rfl,rfl⟩:=H
       go_enter Try.func52,Try.ntmps52
       go_wp2
       go_ret2
       exact ⟨by first|rfl|(simp;done)|(simp [*];done),by repeat (first|exact Drawn0.refl _|apply Drawn0.step)⟩
      ·rw [if_neg c8] at H
       have c8b0:(a1 == (-1)) = false:=beq_eq_false_iff_ne.mpr c8
       have c8b1:(a1 != (-1)) = true:=bne_iff_ne.mpr c8
       simp only [Option.some.injEq,Prod.mk.injEq] at H
       obtain ⟨rfl,rfl⟩:=H
       go_enter Try.func52,Try.ntmps52
       go_wp2
       go_ret2
       exact ⟨by first|rfl|(simp;done)|(simp [*];done),by repeat (first|exact Drawn0.refl _|apply Drawn0.step)⟩
    ·rw [if_neg c6] at H
     have c6b0:(a0 == (-1)) = false:=beq_eq_false_iff_ne.mpr c6
     have c6b1:(a0 != (-1)) = true:=bne_iff_ne.mpr c6
     by_cases c9:a1 = (-1)
     ·rw [if_pos c9] at H
      have c9b0:(a1 == (-1)) = true:=beq_iff_eq.mpr c9
      have c9b1:(a1 != (-1)) = false:=bne_eq_false_iff_eq.mpr c9
      clear c9
      simp only [Option.some.injEq,Prod.mk.injEq] at H
      obtain ⟨rfl,rfl⟩:=H
      go_enter Try.func52,Try.ntmps52
      go_wp2
      go_ret2
      exact ⟨by first|rfl|(simp;done)|(simp [*];done),by repeat (first|exact Drawn0.refl _|apply Drawn0.step)⟩
     ·rw [if_neg c9] at H
      have c9b0:(a1 == (-1)) = false:=beq_eq_false_iff_ne.mpr c9
      have c9b1:(a1 != (-1)) = true:=bne_iff_ne.mpr c9
      simp only [Option.some.injEq,Prod.mk.injEq] at H
      obtain ⟨rfl,rfl⟩:=H
      go_enter Try.func52,Try.ntmps52
      go_wp2
      go_ret2
      exact ⟨by first|rfl|(simp;done)|(simp [*];done),by repeat (first|exact Drawn0.refl _|apply Drawn0.step)⟩
   ·rw [if_neg c5] at H
    have c5b0:((wrap64 (Int.tdiv (wrap64 (a0 * a1)) a1)) == a0) = false:=beq_eq_false_iff_ne.mpr c5
    have c5b1:((wrap64 (Int.tdiv (wrap64 (a0 * a1)) a1)) != a0) = true:=bne_iff_ne.mpr c5
    simp only [Option.some.injEq,Prod.mk.injEq] at H
    obtain ⟨rfl,rfl⟩:=H
    go_enter Try.func52,Try.ntmps52
    go_wp2
    go_ret2
    exact ⟨by first|rfl|(simp;done)|(simp [*];done),by repeat (first|exact Drawn0.refl _|apply Drawn0.step)⟩
end Go.Proofs.Ytllkhdhanheieaa.R
namespace Go.Proofs.Ytllkhdhanheieaa.R
open Go.RowKit Go.Proofs.YtllkhdhanheieaaW.PrintWords Go.Proofs.YtllkhdhanheieaaW.PrintLast Go.Proofs.YtllkhdhanheieaaW.PrintMore
attribute [local go_sem] max2_int min2_int max_two min_two max_three min_three max_four min_four
attribute [local go_sem high] own_gtr own_leq own_geq own_cell_set Option.map_some fld23_1
set_option linter.unusedVariables false
set_option linter.unusedSimpArgs false
def federationref1_ints.f (a0:Int) (a1:Int) (a2:Int):Option (Int × Int × Int × ByteArray × Int):=if a0 = 7 then ((federationref1_plus.f a1 a2).bind fun bt102=>(if bt102.2 = true then (some (2,bt102.1,0,(⟨#[]⟩:ByteArray),0)) else (some (0,0,0,(⟨#[]⟩:ByteArray),10)))) else (if a0 = 6 then ((federationref1_times.f a1 a2).bind fun bt104=>(if bt104.2 = true then (some (2,bt104.1,0,(⟨#[]⟩:ByteArray),0)) else (some (0,0,0,(⟨#[]⟩:ByteArray),10)))) else (if ((decide (a1 ≥ 0)) == (decide (a2 ≥ 0))) = true then (some (2,wrap64 (a1 - a2),0,(⟨#[]⟩:ByteArray),0)) else (if (((decide ((wrap64 (a1 - a2)) ≥ 0)) == (decide (a1 ≥ 0))) = true) then (some (2,wrap64 (a1 - a2),0,(⟨#[]⟩:ByteArray),0)) else (some (0,0,0,(⟨#[]⟩:ByteArray),10)))))
set_option maxHeartbeats 8000000 in
set_option maxRecDepth 100000 in
theorem federationref1_ints.calls (a0:Int) (a1:Int) (a2:Int) (r1:Int) (r2:Int) (r3:Int) (r4:ByteArray) (r5:Int) (w:World) (h:federationref1_ints.f a0 a1 a2 = some (r1,r2,r3,r4,r5)) :
  Calls Try.prog 34 #[.int .i64 a0, .int .i64 a1, .int .i64 a2] w fun e w'=>e = .returned (.tuple #[.agg #[.int .i64 r1, .int .i64 r2, .int .i64 r3, .string r4], .int .i64 r5]) ∧ Below w.heap.size w w':=by
 have hu23:=Try.underlying23
 have HB:=z_ (Below.refl w.heap.size w)
 have H:(if a0 = 7 then ((federationref1_plus.f a1 a2).bind fun bt102=>(if bt102.2 = true then (some (2,bt102.1,0,(⟨#[]⟩:ByteArray),0)) else (some (0,0,0,(⟨#[]⟩:ByteArray),10)))) else (if a0 = 6 then ((federationref1_times.f a1 a2).bind fun bt104=>(if bt104.2 = true then (some (2,bt104.1,0,(⟨#[]⟩:ByteArray),0)) else (some (0,0,0,(⟨#[]⟩:ByteArray),10)))) else (if ((decide (a1 ≥ 0)) == (decide (a2 ≥ 0))) = true then (some (2,wrap64 (a1 - a2),0,(⟨#[]⟩:ByteArray),0)) else (if (((decide ((wrap64 (a1 - a2)) ≥ 0)) == (decide (a1 ≥ 0))) = true) then (some (2,wrap64 (a1 - a2),0,(⟨#[]⟩:ByteArray),0)) else (some (0,0,0,(⟨#[]⟩:ByteArray),10)))))) = some (r1,r2,r3,r4,r5):=h
 clear h
 by_cases c4:a0 = 7
 ·rw [if_pos c4] at H
  have c4b0:(a0 == 7) = true:=beq_iff_eq.mpr c4
  have c4b1:(a0 != 7) = false:=bne_eq_false_iff_eq.mpr c4
  clear c4
  replace H:=Option.bind_eq_some_iff.mp H
  obtain ⟨⟨t102,t103⟩,A50,H⟩:=H
  replace H:(if t103 = true then (some (2,t102,0,(⟨#[]⟩:ByteArray),0)) else (some (0,0,0,(⟨#[]⟩:ByteArray),10))) = some (r1,r2,r3,r4,r5):=H
  have A5:=z_ A50
  clear A50
  by_cases c6:t103 = true
  ·subst c6
   have H1:(some (2,t102,0,(⟨#[]⟩:ByteArray),0)) = some (r1,r2,r3,r4,r5):=by rw [if_pos rfl] at H;exact H
   clear H
   have H:=H1
   clear H1
   simp only [Option.some.injEq,Prod.mk.injEq] at H
   obtain ⟨rfl,rfl,rfl,rfl,rfl⟩:=H
   go_enter Try.func34,Try.ntmps34
   go_wp2_with (first|((with_reducible refine gate_dst (N:=6) rfl ?_);refine box_event ?hg (N:=6) ?hd (cs:=#[.int .i64 0, .int .i64 0, .int .i64 0, .string (⟨#[]⟩:ByteArray)]) (t:=23) ?hr ?_;(case hd=>rfl);(case hg=>rfl);(case hr=>first|(go_simp;done)|(go_simp;rfl));intro gb101 hg w7 hbox hb;have n0_:=z_ (below_step (by repeat first|(with_reducible first|exact HB.out|apply zA|apply zN|apply z1)|exact HB.out) hb);have n1_:=z_ (hbox);have n2_:=z_ ((by rw [hg];exact (zBs (by repeat first|(with_reducible first|exact HB.out|apply zA|apply zN|apply z1)|exact HB.out)):w.heap.size ≤ gb101));have n3_:=z_ ((by rw [hg];exact (zBs (by repeat first|(with_reducible first|exact HB.out|apply zA|apply zN|apply z1)|exact HB.out)):w.heap.size ≤ gb101));clear HB;have HB:=n0_;have BK101:=n1_;have GW101:=n2_;have GE101:=n3_;clear n0_ n1_ n2_ n3_;clear hb hbox hg)|((with_reducible refine gate_callee (f:=51) rfl ?_);refine goesL_ (some 31) rfl rfl Try.func51 (by kernel_rfl) rfl #[.int .i64 a1, .int .i64 a2] rfl (by (try simp only [List.map_toArray,List.map_cons,List.map_nil]);first|done|rfl|(simp only [List.length_drop,List.length_take];rfl)) ?_;(with_reducible refine (federationref1_plus.calls a1 a2 t102 true _ A5.out).mono ?_);rintro e w' ⟨rfl,⟨nd,rfl⟩⟩;refine ⟨_,rfl,?_⟩;(try (rw [drewN_self w7];generalize hq_:World.drewN w7 _ = w7;have n0_:Aside0 (w7.heap[gb101]? = some (.cells #[.int .i64 0, .int .i64 0, .int .i64 0, .string (⟨#[]⟩:ByteArray)] 23 (0,0))):=⟨by rw [← hq_];exact (by (with_reducible repeat first|apply zbN|apply zb1|apply zbA);exact BK101.out)⟩;have n1_:Aside0 (Below w.heap.size w w7):=⟨by rw [← hq_];exact (by repeat first|(with_reducible first|exact HB.out|apply zA|apply zN|apply z1|refine zS ?_ GE101.out)|exact HB.out)⟩;clear BK101 HB hq_;have BK101:=n0_;have HB:=n1_;clear n0_ n1_));(try have hcu8_0:w7.cell? ⟨gb101,0,none⟩ = some (.int .i64 0):=(zce BK101.out 0).trans rfl);(try have hcu8_1:w7.cell? ⟨gb101,1,none⟩ = some (.int .i64 0):=(zce BK101.out 1).trans rfl);(try have hcu8_2:w7.cell? ⟨gb101,2,none⟩ = some (.int .i64 0):=(zce BK101.out 2).trans rfl);(try have hcu8_3:w7.cell? ⟨gb101,3,none⟩ = some (.string (⟨#[]⟩:ByteArray)):=(zce BK101.out 3).trans rfl);(try have hfu8_0:=zfz BK101.out 0);(try have hfu8_1:=zfz BK101.out 1);(try have hfu8_2:=zfz BK101.out 2);(try have hfu8_3:=zfz BK101.out 3);have hcz9_0:w7.cell? ⟨gb101,0,none⟩ = some (.int .i64 0):=(zce BK101.out 0).trans rfl;have hcz9_1:w7.cell? ⟨gb101,1,none⟩ = some (.int .i64 0):=(zce BK101.out 1).trans rfl;have hcz9_2:w7.cell? ⟨gb101,2,none⟩ = some (.int .i64 0):=(zce BK101.out 2).trans rfl;have hcz9_3:w7.cell? ⟨gb101,3,none⟩ = some (.string (⟨#[]⟩:ByteArray)):=(zce BK101.out 3).trans rfl;have hfz9_0:=zfz BK101.out 0;have hfz9_1:=zfz BK101.out 1;have hfz9_2:=zfz BK101.out 2;have hfz9_3:=zfz BK101.out 3))
   refine bodyPost_ret (results_ct rfl _ _ gb101 23 #[.int .i64 2, .int .i64 t102, .int .i64 0, .string (⟨#[]⟩:ByteArray)] (0,0) _ rfl (by (with_reducible repeat first|apply zbN|apply zb1|apply zbA);refine zbp (cs:=#[.int .i64 2, .int .i64 t102, .int .i64 0, .string (⟨#[]⟩:ByteArray)]) ?_ 3 _ rfl;(with_reducible repeat first|apply zbN|apply zb1|apply zbA);refine zbp (cs:=#[.int .i64 2, .int .i64 t102, .int .i64 0, .string (⟨#[]⟩:ByteArray)]) ?_ 2 _ rfl;(with_reducible repeat first|apply zbN|apply zb1|apply zbA);refine zbp (cs:=#[.int .i64 2, .int .i64 0, .int .i64 0, .string (⟨#[]⟩:ByteArray)]) ?_ 1 _ rfl;(with_reducible repeat first|apply zbN|apply zb1|apply zbA);refine zbp (cs:=#[.int .i64 0, .int .i64 0, .int .i64 0, .string (⟨#[]⟩:ByteArray)]) ?_ 0 _ rfl;(with_reducible repeat first|apply zbN|apply zb1|apply zbA);exact BK101.out) Try.underlying23 rfl (by kernel_rfl)) rfl ?_
   exact ⟨by first|rfl|(simp [errW_none,errW_some] <;> rfl)|(simp [*,errW_none,errW_some] <;> rfl),by repeat first|(with_reducible first|exact HB.out|apply zA|apply zN|apply z1|refine zS ?_ GE101.out)|exact HB.out⟩
  ·replace c6:=Bool.eq_false_iff.mpr c6
   subst c6
   have H1:(some (0,0,0,(⟨#[]⟩:ByteArray),10)) = some (r1,r2,r3,r4,r5):=by rw [if_neg (show ¬ (false = true) by decide)] at H;exact H
   clear H
   have H:=H1
   clear H1
   simp only [Option.some.injEq,Prod.mk.injEq] at H
   obtain ⟨rfl,rfl,rfl,rfl,rfl⟩:=H
   go_enter Try.func34,Try.ntmps34
   go_wp2_with (first|((with_reducible refine gate_dst (N:=6) rfl ?_);refine box_event ?hg (N:=6) ?hd (cs:=#[.int .i64 0, .int .i64 0, .int .i64 0, .string (⟨#[]⟩:ByteArray)]) (t:=23) ?hr ?_;(case hd=>rfl);(case hg=>rfl);(case hr=>first|(go_simp;done)|(go_simp;rfl));intro gb101 hg w10 hbox hb;have n0_:=z_ (below_step (by repeat first|(with_reducible first|exact HB.out|apply zA|apply zN|apply z1)|exact HB.out) hb);have n1_:=z_ (hbox);have n2_:=z_ ((by rw [hg];exact (zBs (by repeat first|(with_reducible first|exact HB.out|apply zA|apply zN|apply z1)|exact HB.out)):w.heap.size ≤ gb101));have n3_:=z_ ((by rw [hg];exact (zBs (by repeat first|(with_reducible first|exact HB.out|apply zA|apply zN|apply z1)|exact HB.out)):w.heap.size ≤ gb101));clear HB;have HB:=n0_;have BK101:=n1_;have GW101:=n2_;have GE101:=n3_;clear n0_ n1_ n2_ n3_;clear hb hbox hg)|((with_reducible refine gate_callee (f:=51) rfl ?_);refine goesL_ (some 31) rfl rfl Try.func51 (by kernel_rfl) rfl #[.int .i64 a1, .int .i64 a2] rfl (by (try simp only [List.map_toArray,List.map_cons,List.map_nil]);first|done|rfl|(simp only [List.length_drop,List.length_take];rfl)) ?_;(with_reducible refine (federationref1_plus.calls a1 a2 t102 false _ A5.out).mono ?_);rintro e w' ⟨rfl,⟨nd,rfl⟩⟩;refine ⟨_,rfl,?_⟩;(try (rw [drewN_self w10];generalize hq_:World.drewN w10 _ = w10;have n0_:Aside0 (w10.heap[gb101]? = some (.cells #[.int .i64 0, .int .i64 0, .int .i64 0, .string (⟨#[]⟩:ByteArray)] 23 (0,0))):=⟨by rw [← hq_];exact (by (with_reducible repeat first|apply zbN|apply zb1|apply zbA);exact BK101.out)⟩;have n1_:Aside0 (Below w.heap.size w w10):=⟨by rw [← hq_];exact (by repeat first|(with_reducible first|exact HB.out|apply zA|apply zN|apply z1|refine zS ?_ GE101.out)|exact HB.out)⟩;clear BK101 HB hq_;have BK101:=n0_;have HB:=n1_;clear n0_ n1_));(try have hcu11_0:w10.cell? ⟨gb101,0,none⟩ = some (.int .i64 0):=(zce BK101.out 0).trans rfl);(try have hcu11_1:w10.cell? ⟨gb101,1,none⟩ = some (.int .i64 0):=(zce BK101.out 1).trans rfl);(try have hcu11_2:w10.cell? ⟨gb101,2,none⟩ = some (.int .i64 0):=(zce BK101.out 2).trans rfl);(try have hcu11_3:w10.cell? ⟨gb101,3,none⟩ = some (.string (⟨#[]⟩:ByteArray)):=(zce BK101.out 3).trans rfl);(try have hfu11_0:=zfz BK101.out 0);(try have hfu11_1:=zfz BK101.out 1);(try have hfu11_2:=zfz BK101.out 2);(try have hfu11_3:=zfz BK101.out 3);have hcz12_0:w10.cell? ⟨gb101,0,none⟩ = some (.int .i64 0):=(zce BK101.out 0).trans rfl;have hcz12_1:w10.cell? ⟨gb101,1,none⟩ = some (.int .i64 0):=(zce BK101.out 1).trans rfl;have hcz12_2:w10.cell? ⟨gb101,2,none⟩ = some (.int .i64 0):=(zce BK101.out 2).trans rfl;have hcz12_3:w10.cell? ⟨gb101,3,none⟩ = some (.string (⟨#[]⟩:ByteArray)):=(zce BK101.out 3).trans rfl;have hfz12_0:=zfz BK101.out 0;have hfz12_1:=zfz BK101.out 1;have hfz12_2:=zfz BK101.out 2;have hfz12_3:=zfz BK101.out 3))
   refine bodyPost_ret (results_ct rfl _ _ gb101 23 #[.int .i64 0, .int .i64 0, .int .i64 0, .string (⟨#[]⟩:ByteArray)] (0,0) _ rfl (by (with_reducible repeat first|apply zbN|apply zb1|apply zbA);refine zbp (cs:=#[.int .i64 0, .int .i64 0, .int .i64 0, .string (⟨#[]⟩:ByteArray)]) ?_ 3 _ rfl;(with_reducible repeat first|apply zbN|apply zb1|apply zbA);refine zbp (cs:=#[.int .i64 0, .int .i64 0, .int .i64 0, .string (⟨#[]⟩:ByteArray)]) ?_ 2 _ rfl;(with_reducible repeat first|apply zbN|apply zb1|apply zbA);refine zbp (cs:=#[.int .i64 0, .int .i64 0, .int .i64 0, .string (⟨#[]⟩:ByteArray)]) ?_ 1 _ rfl;(with_reducible repeat first|apply zbN|apply zb1|apply zbA);refine zbp (cs:=#[.int .i64 0, .int .i64 0, .int .i64 0, .string (⟨#[]⟩:ByteArray)]) ?_ 0 _ rfl;(with_reducible repeat first|apply zbN|apply zb1|apply zbA);exact BK101.out) Try.underlying23 rfl (by kernel_rfl)) rfl ?_
   exact ⟨by first|rfl|(simp [errW_none,errW_some] <;> rfl)|(simp [*,errW_none,errW_some] <;> rfl),by repeat first|(with_reducible first|exact HB.out|apply zA|apply zN|apply z1|refine zS ?_ GE101.out)|exact HB.out⟩
 ·rw [if_neg c4] at H
  have c4b0:(a0 == 7) = false:=beq_eq_false_iff_ne.mpr c4
  have c4b1:(a0 != 7) = true:=bne_iff_ne.mpr c4
  by_cases c13:a0 = 6
  ·rw [if_pos c13] at H
   have c13b0:(a0 == 6) = true:=beq_iff_eq.mpr c13
   have c13b1:(a0 != 6) = false:=bne_eq_false_iff_eq.mpr c13
   clear c13
   replace H:=Option.bind_eq_some_iff.mp H
   obtain ⟨⟨t104,t105⟩,A140,H⟩:=H
   replace H:(if t105 = true then (some (2,t104,0,(⟨#[]⟩:ByteArray),0)) else (some (0,0,0,(⟨#[]⟩:ByteArray),10))) = some (r1,r2,r3,r4,r5):=H
   have A14:=z_ A140
   clear A140
   by_cases c15:t105 = true
   ·subst c15
    have H1:(some (2,t104,0,(⟨#[]⟩:ByteArray),0)) = some (r1,r2,r3,r4,r5):=by rw [if_pos rfl] at H;exact H
    clear H
    have H:=H1
    clear H1
    simp only [Option.some.injEq,Prod.mk.injEq] at H
    obtain ⟨rfl,rfl,rfl,rfl,rfl⟩:=H
    go_enter Try.func34,Try.ntmps34
    go_wp2_with (first|((with_reducible refine gate_dst (N:=6) rfl ?_);refine box_event ?hg (N:=6) ?hd (cs:=#[.int .i64 0, .int .i64 0, .int .i64 0, .string (⟨#[]⟩:ByteArray)]) (t:=23) ?hr ?_;(case hd=>rfl);(case hg=>rfl);(case hr=>first|(go_simp;done)|(go_simp;rfl));intro gb101 hg w16 hbox hb;have n0_:=z_ (below_step (by repeat first|(with_reducible first|exact HB.out|apply zA|apply zN|apply z1)|exact HB.out) hb);have n1_:=z_ (hbox);have n2_:=z_ ((by rw [hg];exact (zBs (by repeat first|(with_reducible first|exact HB.out|apply zA|apply zN|apply z1)|exact HB.out)):w.heap.size ≤ gb101));have n3_:=z_ ((by rw [hg];exact (zBs (by repeat first|(with_reducible first|exact HB.out|apply zA|apply zN|apply z1)|exact HB.out)):w.heap.size ≤ gb101));clear HB;have HB:=n0_;have BK101:=n1_;have GW101:=n2_;have GE101:=n3_;clear n0_ n1_ n2_ n3_;clear hb hbox hg)|((with_reducible refine gate_callee (f:=52) rfl ?_);refine goesL_ (some 39) rfl rfl Try.func52 (by kernel_rfl) rfl #[.int .i64 a1, .int .i64 a2] rfl (by (try simp only [List.map_toArray,List.map_cons,List.map_nil]);first|done|rfl|(simp only [List.length_drop,List.length_take];rfl)) ?_;(with_reducible refine (federationref1_times.calls a1 a2 t104 true _ A14.out).mono ?_);rintro e w' ⟨rfl,⟨nd,rfl⟩⟩;refine ⟨_,rfl,?_⟩;(try (rw [drewN_self w16];generalize hq_:World.drewN w16 _ = w16;have n0_:Aside0 (w16.heap[gb101]? = some (.cells #[.int .i64 0, .int .i64 0, .int .i64 0, .string (⟨#[]⟩:ByteArray)] 23 (0,0))):=⟨by rw [← hq_];exact (by (with_reducible repeat first|apply zbN|apply zb1|apply zbA);exact BK101.out)⟩;have n1_:Aside0 (Below w.heap.size w w16):=⟨by rw [← hq_];exact (by repeat first|(with_reducible first|exact HB.out|apply zA|apply zN|apply z1|refine zS ?_ GE101.out)|exact HB.out)⟩;clear BK101 HB hq_;have BK101:=n0_;have HB:=n1_;clear n0_ n1_));(try have hcu17_0:w16.cell? ⟨gb101,0,none⟩ = some (.int .i64 0):=(zce BK101.out 0).trans rfl);(try have hcu17_1:w16.cell? ⟨gb101,1,none⟩ = some (.int .i64 0):=(zce BK101.out 1).trans rfl);(try have hcu17_2:w16.cell? ⟨gb101,2,none⟩ = some (.int .i64 0):=(zce BK101.out 2).trans rfl);(try have hcu17_3:w16.cell? ⟨gb101,3,none⟩ = some (.string (⟨#[]⟩:ByteArray)):=(zce BK101.out 3).trans rfl);(try have hfu17_0:=zfz BK101.out 0);(try have hfu17_1:=zfz BK101.out 1);(try have hfu17_2:=zfz BK101.out 2);(try have hfu17_3:=zfz BK101.out 3);have hcz18_0:w16.cell? ⟨gb101,0,none⟩ = some (.int .i64 0):=(zce BK101.out 0).trans rfl;have hcz18_1:w16.cell? ⟨gb101,1,none⟩ = some (.int .i64 0):=(zce BK101.out 1).trans rfl;have hcz18_2:w16.cell? ⟨gb101,2,none⟩ = some (.int .i64 0):=(zce BK101.out 2).trans rfl;have hcz18_3:w16.cell? ⟨gb101,3,none⟩ = some (.string (⟨#[]⟩:ByteArray)):=(zce BK101.out 3).trans rfl;have hfz18_0:=zfz BK101.out 0;have hfz18_1:=zfz BK101.out 1;have hfz18_2:=zfz BK101.out 2;have hfz18_3:=zfz BK101.out 3))
    refine bodyPost_ret (results_ct rfl _ _ gb101 23 #[.int .i64 2, .int .i64 t104, .int .i64 0, .string (⟨#[]⟩:ByteArray)] (0,0) _ rfl (by (with_reducible repeat first|apply zbN|apply zb1|apply zbA);refine zbp (cs:=#[.int .i64 2, .int .i64 t104, .int .i64 0, .string (⟨#[]⟩:ByteArray)]) ?_ 3 _ rfl;(with_reducible repeat first|apply zbN|apply zb1|apply zbA);refine zbp (cs:=#[.int .i64 2, .int .i64 t104, .int .i64 0, .string (⟨#[]⟩:ByteArray)]) ?_ 2 _ rfl;(with_reducible repeat first|apply zbN|apply zb1|apply zbA);refine zbp (cs:=#[.int .i64 2, .int .i64 0, .int .i64 0, .string (⟨#[]⟩:ByteArray)]) ?_ 1 _ rfl;(with_reducible repeat first|apply zbN|apply zb1|apply zbA);refine zbp (cs:=#[.int .i64 0, .int .i64 0, .int .i64 0, .string (⟨#[]⟩:ByteArray)]) ?_ 0 _ rfl;(with_reducible repeat first|apply zbN|apply zb1|apply zbA);exact BK101.out) Try.underlying23 rfl (by kernel_rfl)) rfl ?_
    exact ⟨by first|rfl|(simp [errW_none,errW_some] <;> rfl)|(simp [*,errW_none,errW_some] <;> rfl),by repeat first|(with_reducible first|exact HB.out|apply zA|apply zN|apply z1|refine zS ?_ GE101.out)|exact HB.out⟩
   ·replace c15:=Bool.eq_false_iff.mpr c15
    subst c15
    have H1:(some (0,0,0,(⟨#[]⟩:ByteArray),10)) = some (r1,r2,r3,r4,r5):=by rw [if_neg (show ¬ (false = true) by decide)] at H;exact H
    clear H
    have H:=H1
    clear H1
    simp only [Option.some.injEq,Prod.mk.injEq] at H
    obtain ⟨rfl,rfl,rfl,rfl,rfl⟩:=H
    go_enter Try.func34,Try.ntmps34
    go_wp2_with (first|((with_reducible refine gate_dst (N:=6) rfl ?_);refine box_event ?hg (N:=6) ?hd (cs:=#[.int .i64 0, .int .i64 0, .int .i64 0, .string (⟨#[]⟩:ByteArray)]) (t:=23) ?hr ?_;(case hd=>rfl);(case hg=>rfl);(case hr=>first|(go_simp;done)|(go_simp;rfl));intro gb101 hg w19 hbox hb;have n0_:=z_ (below_step (by repeat first|(with_reducible first|exact HB.out|apply zA|apply zN|apply z1)|exact HB.out) hb);have n1_:=z_ (hbox);have n2_:=z_ ((by rw [hg];exact (zBs (by repeat first|(with_reducible first|exact HB.out|apply zA|apply zN|apply z1)|exact HB.out)):w.heap.size ≤ gb101));have n3_:=z_ ((by rw [hg];exact (zBs (by repeat first|(with_reducible first|exact HB.out|apply zA|apply zN|apply z1)|exact HB.out)):w.heap.size ≤ gb101));clear HB;have HB:=n0_;have BK101:=n1_;have GW101:=n2_;have GE101:=n3_;clear n0_ n1_ n2_ n3_;clear hb hbox hg)|((with_reducible refine gate_callee (f:=52) rfl ?_);refine goesL_ (some 39) rfl rfl Try.func52 (by kernel_rfl) rfl #[.int .i64 a1, .int .i64 a2] rfl (by (try simp only [List.map_toArray,List.map_cons,List.map_nil]);first|done|rfl|(simp only [List.length_drop,List.length_take];rfl)) ?_;(with_reducible refine (federationref1_times.calls a1 a2 t104 false _ A14.out).mono ?_);rintro e w' ⟨rfl,⟨nd,rfl⟩⟩;refine ⟨_,rfl,?_⟩;(try (rw [drewN_self w19];generalize hq_:World.drewN w19 _ = w19;have n0_:Aside0 (w19.heap[gb101]? = some (.cells #[.int .i64 0, .int .i64 0, .int .i64 0, .string (⟨#[]⟩:ByteArray)] 23 (0,0))):=⟨by rw [← hq_];exact (by (with_reducible repeat first|apply zbN|apply zb1|apply zbA);exact BK101.out)⟩;have n1_:Aside0 (Below w.heap.size w w19):=⟨by rw [← hq_];exact (by repeat first|(with_reducible first|exact HB.out|apply zA|apply zN|apply z1|refine zS ?_ GE101.out)|exact HB.out)⟩;clear BK101 HB hq_;have BK101:=n0_;have HB:=n1_;clear n0_ n1_));(try have hcu20_0:w19.cell? ⟨gb101,0,none⟩ = some (.int .i64 0):=(zce BK101.out 0).trans rfl);(try have hcu20_1:w19.cell? ⟨gb101,1,none⟩ = some (.int .i64 0):=(zce BK101.out 1).trans rfl);(try have hcu20_2:w19.cell? ⟨gb101,2,none⟩ = some (.int .i64 0):=(zce BK101.out 2).trans rfl);(try have hcu20_3:w19.cell? ⟨gb101,3,none⟩ = some (.string (⟨#[]⟩:ByteArray)):=(zce BK101.out 3).trans rfl);(try have hfu20_0:=zfz BK101.out 0);(try have hfu20_1:=zfz BK101.out 1);(try have hfu20_2:=zfz BK101.out 2);(try have hfu20_3:=zfz BK101.out 3);have hcz21_0:w19.cell? ⟨gb101,0,none⟩ = some (.int .i64 0):=(zce BK101.out 0).trans rfl;have hcz21_1:w19.cell? ⟨gb101,1,none⟩ = some (.int .i64 0):=(zce BK101.out 1).trans rfl;have hcz21_2:w19.cell? ⟨gb101,2,none⟩ = some (.int .i64 0):=(zce BK101.out 2).trans rfl;have hcz21_3:w19.cell? ⟨gb101,3,none⟩ = some (.string (⟨#[]⟩:ByteArray)):=(zce BK101.out 3).trans rfl;have hfz21_0:=zfz BK101.out 0;have hfz21_1:=zfz BK101.out 1;have hfz21_2:=zfz BK101.out 2;have hfz21_3:=zfz BK101.out 3))
    refine bodyPost_ret (results_ct rfl _ _ gb101 23 #[.int .i64 0, .int .i64 0, .int .i64 0, .string (⟨#[]⟩:ByteArray)] (0,0) _ rfl (by (with_reducible repeat first|apply zbN|apply zb1|apply zbA);refine zbp (cs:=#[.int .i64 0, .int .i64 0, .int .i64 0, .string (⟨#[]⟩:ByteArray)]) ?_ 3 _ rfl;(with_reducible repeat first|apply zbN|apply zb1|apply zbA);refine zbp (cs:=#[.int .i64 0, .int .i64 0, .int .i64 0, .string (⟨#[]⟩:ByteArray)]) ?_ 2 _ rfl;(with_reducible repeat first|apply zbN|apply zb1|apply zbA);refine zbp (cs:=#[.int .i64 0, .int .i64 0, .int .i64 0, .string (⟨#[]⟩:ByteArray)]) ?_ 1 _ rfl;(with_reducible repeat first|apply zbN|apply zb1|apply zbA);refine zbp (cs:=#[.int .i64 0, .int .i64 0, .int .i64 0, .string (⟨#[]⟩:ByteArray)]) ?_ 0 _ rfl;(with_reducible repeat first|apply zbN|apply zb1|apply zbA);exact BK101.out) Try.underlying23 rfl (by kernel_rfl)) rfl ?_
    exact ⟨by first|rfl|(simp [errW_none,errW_some] <;> rfl)|(simp [*,errW_none,errW_some] <;> rfl),by repeat first|(with_reducible first|exact HB.out|apply zA|apply zN|apply z1|refine zS ?_ GE101.out)|exact HB.out⟩
  ·rw [if_neg c13] at H
   have c13b0:(a0 == 6) = false:=beq_eq_false_iff_ne.mpr c13
   have c13b1:(a0 != 6) = true:=bne_iff_ne.mpr c13
   by_cases c22:((decide (a1 ≥ 0)) == (decide (a2 ≥ 0))) = true
   ·rw [if_pos c22] at H
    have c22b0:((decide (a1 ≥ 0)) == (decide (a2 ≥ 0))) = true:=c22
    (try (have c22b1:decide ((decide (a1 ≥ 0)) = (decide (a2 ≥ 0))) = true:=by simpa using c22))
    (try (have c22b2:((decide (a1 ≥ 0)) == (decide (a2 ≥ 0))) = true:=by simpa using c22))
    clear c22
    simp only [Option.some.injEq,Prod.mk.injEq] at H
    obtain ⟨rfl,rfl,rfl,rfl,rfl⟩:=H
    go_enter Try.func34,Try.ntmps34
    go_wp2_with (first|((with_reducible refine gate_dst (N:=6) rfl ?_);refine box_event ?hg (N:=6) ?hd (cs:=#[.int .i64 0, .int .i64 0, .int .i64 0, .string (⟨#[]⟩:ByteArray)]) (t:=23) ?hr ?_;(case hd=>rfl);(case hg=>rfl);(case hr=>first|(go_simp;done)|(go_simp;rfl));intro gb101 hg w23 hbox hb;have n0_:=z_ (below_step (by repeat first|(with_reducible first|exact HB.out|apply zA|apply zN|apply z1)|exact HB.out) hb);have n1_:=z_ (hbox);have n2_:=z_ ((by rw [hg];exact (zBs (by repeat first|(with_reducible first|exact HB.out|apply zA|apply zN|apply z1)|exact HB.out)):w.heap.size ≤ gb101));have n3_:=z_ ((by rw [hg];exact (zBs (by repeat first|(with_reducible first|exact HB.out|apply zA|apply zN|apply z1)|exact HB.out)):w.heap.size ≤ gb101));clear HB;have HB:=n0_;have BK101:=n1_;have GW101:=n2_;have GE101:=n3_;clear n0_ n1_ n2_ n3_;clear hb hbox hg;have hcz24_0:w23.cell? ⟨gb101,0,none⟩ = some (.int .i64 0):=(zce BK101.out 0).trans rfl;have hcz24_1:w23.cell? ⟨gb101,1,none⟩ = some (.int .i64 0):=(zce BK101.out 1).trans rfl;have hcz24_2:w23.cell? ⟨gb101,2,none⟩ = some (.int .i64 0):=(zce BK101.out 2).trans rfl;have hcz24_3:w23.cell? ⟨gb101,3,none⟩ = some (.string (⟨#[]⟩:ByteArray)):=(zce BK101.out 3).trans rfl;have hfz24_0:=zfz BK101.out 0;have hfz24_1:=zfz BK101.out 1;have hfz24_2:=zfz BK101.out 2;have hfz24_3:=zfz BK101.out 3))
    refine bodyPost_ret (results_ct rfl _ _ gb101 23 #[.int .i64 2, .int .i64 (wrap64 (a1 - a2)), .int .i64 0, .string (⟨#[]⟩:ByteArray)] (0,0) _ rfl (by (with_reducible repeat first|apply zbN|apply zb1|apply zbA);refine zbp (cs:=#[.int .i64 2, .int .i64 (wrap64 (a1 - a2)), .int .i64 0, .string (⟨#[]⟩:ByteArray)]) ?_ 3 _ rfl;(with_reducible repeat first|apply zbN|apply zb1|apply zbA);refine zbp (cs:=#[.int .i64 2, .int .i64 (wrap64 (a1 - a2)), .int .i64 0, .string (⟨#[]⟩:ByteArray)]) ?_ 2 _ rfl;(with_reducible repeat first|apply zbN|apply zb1|apply zbA);refine zbp (cs:=#[.int .i64 2, .int .i64 0, .int .i64 0, .string (⟨#[]⟩:ByteArray)]) ?_ 1 _ rfl;(with_reducible repeat first|apply zbN|apply zb1|apply zbA);refine zbp (cs:=#[.int .i64 0, .int .i64 0, .int .i64 0, .string (⟨#[]⟩:ByteArray)]) ?_ 0 _ rfl;(with_reducible repeat first|apply zbN|apply zb1|apply zbA);exact BK101.out) Try.underlying23 rfl (by kernel_rfl)) rfl ?_
    exact ⟨by first|rfl|(simp [errW_none,errW_some] <;> rfl)|(simp [*,errW_none,errW_some] <;> rfl),by repeat first|(with_reducible first|exact HB.out|apply zA|apply zN|apply z1|refine zS ?_ GE101.out)|exact HB.out⟩
   ·rw [if_neg c22] at H
    have c22b0:((decide (a1 ≥ 0)) == (decide (a2 ≥ 0))) = false:=by simpa using c22
    (try (have c22b1:decide ((decide (a1 ≥ 0)) = (decide (a2 ≥ 0))) = false:=by simpa using c22))
    (try (have c22b2:((decide (a1 ≥ 0)) == (decide (a2 ≥ 0))) = false:=by simpa using c22))
    (try (have c22b3:¬ ((decide (a1 ≥ 0)) = (decide (a2 ≥ 0))):=by simpa using c22))
    clear c22
    by_cases c25:(((decide ((wrap64 (a1 - a2)) ≥ 0)) == (decide (a1 ≥ 0))) = true)
    ·rw [if_pos c25] at H
     have c25b0:((decide ((wrap64 (a1 - a2)) ≥ 0)) == (decide (a1 ≥ 0))) = true:=c25
     (try (have c25b1:decide ((decide ((wrap64 (a1 - a2)) ≥ 0)) = (decide (a1 ≥ 0))) = true:=by simpa using c25))
     (try (have c25b2:((decide ((wrap64 (a1 - a2)) ≥ 0)) == (decide (a1 ≥ 0))) = true:=by simpa using c25))
     clear c25
     simp only [Option.some.injEq,Prod.mk.injEq] at H
     obtain ⟨rfl,rfl,rfl,rfl,rfl⟩:=H
     go_enter Try.func34,Try.ntmps34
     go_wp2_with (first|((with_reducible refine gate_dst (N:=6) rfl ?_);refine box_event ?hg (N:=6) ?hd (cs:=#[.int .i64 0, .int .i64 0, .int .i64 0, .string (⟨#[]⟩:ByteArray)]) (t:=23) ?hr ?_;(case hd=>rfl);(case hg=>rfl);(case hr=>first|(go_simp;done)|(go_simp;rfl));intro gb101 hg w26 hbox hb;have n0_:=z_ (below_step (by repeat first|(with_reducible first|exact HB.out|apply zA|apply zN|apply z1)|exact HB.out) hb);have n1_:=z_ (hbox);have n2_:=z_ ((by rw [hg];exact (zBs (by repeat first|(with_reducible first|exact HB.out|apply zA|apply zN|apply z1)|exact HB.out)):w.heap.size ≤ gb101));have n3_:=z_ ((by rw [hg];exact (zBs (by repeat first|(with_reducible first|exact HB.out|apply zA|apply zN|apply z1)|exact HB.out)):w.heap.size ≤ gb101));clear HB;have HB:=n0_;have BK101:=n1_;have GW101:=n2_;have GE101:=n3_;clear n0_ n1_ n2_ n3_;clear hb hbox hg;have hcz27_0:w26.cell? ⟨gb101,0,none⟩ = some (.int .i64 0):=(zce BK101.out 0).trans rfl;have hcz27_1:w26.cell? ⟨gb101,1,none⟩ = some (.int .i64 0):=(zce BK101.out 1).trans rfl;have hcz27_2:w26.cell? ⟨gb101,2,none⟩ = some (.int .i64 0):=(zce BK101.out 2).trans rfl;have hcz27_3:w26.cell? ⟨gb101,3,none⟩ = some (.string (⟨#[]⟩:ByteArray)):=(zce BK101.out 3).trans rfl;have hfz27_0:=zfz BK101.out 0;have hfz27_1:=zfz BK101.out 1;have hfz27_2:=zfz BK101.out 2;have hfz27_3:=zfz BK101.out 3))
     refine bodyPost_ret (results_ct rfl _ _ gb101 23 #[.int .i64 2, .int .i64 (wrap64 (a1 - a2)), .int .i64 0, .string (⟨#[]⟩:ByteArray)] (0,0) _ rfl (by (with_reducible repeat first|apply zbN|apply zb1|apply zbA);refine zbp (cs:=#[.int .i64 2, .int .i64 (wrap64 (a1 - a2)), .int .i64 0, .string (⟨#[]⟩:ByteArray)]) ?_ 3 _ rfl;(with_reducible repeat first|apply zbN|apply zb1|apply zbA);refine zbp (cs:=#[.int .i64 2, .int .i64 (wrap64 (a1 - a2)), .int .i64 0, .string (⟨#[]⟩:ByteArray)]) ?_ 2 _ rfl;(with_reducible repeat first|apply zbN|apply zb1|apply zbA);refine zbp (cs:=#[.int .i64 2, .int .i64 0, .int .i64 0, .string (⟨#[]⟩:ByteArray)]) ?_ 1 _ rfl;(with_reducible repeat first|apply zbN|apply zb1|apply zbA);refine zbp (cs:=#[.int .i64 0, .int .i64 0, .int .i64 0, .string (⟨#[]⟩:ByteArray)]) ?_ 0 _ rfl;(with_reducible repeat first|apply zbN|apply zb1|apply zbA);exact BK101.out) Try.underlying23 rfl (by kernel_rfl)) rfl ?_
     exact ⟨by first|rfl|(simp [errW_none,errW_some] <;> rfl)|(simp [*,errW_none,errW_some] <;> rfl),by repeat first|(with_reducible first|exact HB.out|apply zA|apply zN|apply z1|refine zS ?_ GE101.out)|exact HB.out⟩
    ·rw [if_neg c25] at H
     have c25b0:((decide ((wrap64 (a1 - a2)) ≥ 0)) == (decide (a1 ≥ 0))) = false:=by simpa using c25
     (try (have c25b1:decide ((decide ((wrap64 (a1 - a2)) ≥ 0)) = (decide (a1 ≥ 0))) = false:=by simpa using c25))
     (try (have c25b2:((decide ((wrap64 (a1 - a2)) ≥ 0)) == (decide (a1 ≥ 0))) = false:=by simpa using c25))
     (try (have c25b3:¬ ((decide ((wrap64 (a1 - a2)) ≥ 0)) = (decide (a1 ≥ 0))):=by simpa using c25))
     clear c25
     simp only [Option.some.injEq,Prod.mk.injEq] at H
     obtain ⟨rfl,rfl,rfl,rfl,rfl⟩:=H
     go_enter Try.func34,Try.ntmps34
     go_wp2_with (first|((with_reducible refine gate_dst (N:=6) rfl ?_);refine box_event ?hg (N:=6) ?hd (cs:=#[.int .i64 0, .int .i64 0, .int .i64 0, .string (⟨#[]⟩:ByteArray)]) (t:=23) ?hr ?_;(case hd=>rfl);(case hg=>rfl);(case hr=>first|(go_simp;done)|(go_simp;rfl));intro gb101 hg w28 hbox hb;have n0_:=z_ (below_step (by repeat first|(with_reducible first|exact HB.out|apply zA|apply zN|apply z1)|exact HB.out) hb);have n1_:=z_ (hbox);have n2_:=z_ ((by rw [hg];exact (zBs (by repeat first|(with_reducible first|exact HB.out|apply zA|apply zN|apply z1)|exact HB.out)):w.heap.size ≤ gb101));have n3_:=z_ ((by rw [hg];exact (zBs (by repeat first|(with_reducible first|exact HB.out|apply zA|apply zN|apply z1)|exact HB.out)):w.heap.size ≤ gb101));clear HB;have HB:=n0_;have BK101:=n1_;have GW101:=n2_;have GE101:=n3_;clear n0_ n1_ n2_ n3_;clear hb hbox hg;have hcz29_0:w28.cell? ⟨gb101,0,none⟩ = some (.int .i64 0):=(zce BK101.out 0).trans rfl;have hcz29_1:w28.cell? ⟨gb101,1,none⟩ = some (.int .i64 0):=(zce BK101.out 1).trans rfl;have hcz29_2:w28.cell? ⟨gb101,2,none⟩ = some (.int .i64 0):=(zce BK101.out 2).trans rfl;have hcz29_3:w28.cell? ⟨gb101,3,none⟩ = some (.string (⟨#[]⟩:ByteArray)):=(zce BK101.out 3).trans rfl;have hfz29_0:=zfz BK101.out 0;have hfz29_1:=zfz BK101.out 1;have hfz29_2:=zfz BK101.out 2;have hfz29_3:=zfz BK101.out 3))
     refine bodyPost_ret (results_ct rfl _ _ gb101 23 #[.int .i64 0, .int .i64 0, .int .i64 0, .string (⟨#[]⟩:ByteArray)] (0,0) _ rfl (by (with_reducible repeat first|apply zbN|apply zb1|apply zbA);refine zbp (cs:=#[.int .i64 0, .int .i64 0, .int .i64 0, .string (⟨#[]⟩:ByteArray)]) ?_ 3 _ rfl;(with_reducible repeat first|apply zbN|apply zb1|apply zbA);refine zbp (cs:=#[.int .i64 0, .int .i64 0, .int .i64 0, .string (⟨#[]⟩:ByteArray)]) ?_ 2 _ rfl;(with_reducible repeat first|apply zbN|apply zb1|apply zbA);refine zbp (cs:=#[.int .i64 0, .int .i64 0, .int .i64 0, .string (⟨#[]⟩:ByteArray)]) ?_ 1 _ rfl;(with_reducible repeat first|apply zbN|apply zb1|apply zbA);refine zbp (cs:=#[.int .i64 0, .int .i64 0, .int .i64 0, .string (⟨#[]⟩:ByteArray)]) ?_ 0 _ rfl;(with_reducible repeat first|apply zbN|apply zb1|apply zbA);exact BK101.out) Try.underlying23 rfl (by kernel_rfl)) rfl ?_
     exact ⟨by first|rfl|(simp [errW_none,errW_some] <;> rfl)|(simp [*,errW_none,errW_some] <;> rfl),by repeat first|(with_reducible first|exact HB.out|apply zA|apply zN|apply z1|refine zS ?_ GE101.out)|exact HB.out⟩
end Go.Proofs.Ytllkhdhanheieaa.R
namespace Go.Proofs.Ytllkhdhanheieaa.R
open Go.RowKit Go.Proofs.YtllkhdhanheieaaW.PrintWords Go.Proofs.YtllkhdhanheieaaW.PrintLast Go.Proofs.YtllkhdhanheieaaW.PrintMore
attribute [local go_sem] max2_int min2_int max_two min_two max_three min_three max_four min_four
attribute [local go_sem high] own_gtr own_leq own_geq own_cell_set Option.map_some fld23_1
set_option linter.unusedVariables false
set_option linter.unusedSimpArgs false
def federationref1_clean.l0:Nat → ByteArray → Int → Option (Bool)
 | 0,_,_=>none
 | k + 1,x0,x3=>if x3 < (x0.size:Int) then (if 0 ≤ x3 then (if (bt x0 x3) < 32 then (some false) else (if (bt x0 x3) > 126 then (some false) else (federationref1_clean.l0 k x0 (wrap64 (x3 + 1))))) else (none)) else (some true)
def federationref1_clean.f (k:Nat) (a0:ByteArray):Option (Bool):=federationref1_clean.l0 k a0 0
set_option maxHeartbeats 8000000 in
set_option maxRecDepth 100000 in
theorem federationref1_clean.calls (k:Nat) (a0:ByteArray) (r:Bool) (w:World) (h:federationref1_clean.f k a0 = some r) :
  Calls Try.prog 30 #[.string a0] w fun e w'=>e = .returned (.bool r) ∧ Drawn0 w w':=by
 have H:(federationref1_clean.l0 k a0 0) = some r:=h
 clear h
 have H':=z_ H
 clear H
 go_enter Try.func30,Try.ntmps30
 go_wp2
 go_loopg [3] k (fun kq v3 w'=>∃ (x3_1:Int),v3 = .int .i64 x3_1 ∧ Aside0 (federationref1_clean.l0 kq a0 x3_1 = some r) ∧ Aside0 (kq ≤ k) ∧ Drawn0 w w')
 case atStart=>exact ⟨(0),(by first|rfl|(simp;done)|(simp [*];done)),H',⟨Nat.le_refl _⟩,by repeat (first|exact Drawn0.refl _|apply Drawn0.step)⟩
 case round =>
  clear H'
  obtain ⟨x3_1,rfl,HA,HK1,⟨m1,rfl⟩⟩:=hrel
  cases gk with
  | zero=>exact absurd HA.out (by simp [federationref1_clean.l0])
  | succ k1 =>
   have H:=HA.out
   clear HA
   simp only [federationref1_clean.l0] at H
   by_cases c2:x3_1 < (a0.size:Int)
   ·rw [if_pos c2] at H
    have c2b0:decide (x3_1 < (a0.size:Int)) = true:=decide_eq_true c2
    clear c2
    by_cases c3:0 ≤ x3_1
    ·rw [if_pos c3] at H
     have c3b0:decide (0 ≤ x3_1) = true:=decide_eq_true c3
     clear c3
     by_cases c5:(bt a0 x3_1) < 32
     ·rw [if_pos c5] at H
      have c5b0:decide ((bt a0 x3_1) < 32) = true:=decide_eq_true c5
      clear c5
      obtain rfl:=Option.some.inj H
      have p4:0 ≤ (x3_1:Int):=of_decide_eq_true (by first|(with_reducible assumption)|assumption)
      have q4:x3_1 < (a0.size:Int):=of_decide_eq_true (by first|(with_reducible assumption)|assumption)
      have hx4:=bt_at a0 x3_1
      replace p4:=eq_true p4
      replace q4:=eq_true q4
      go_wp2
      go_ret
      exact ⟨by first|rfl|(simp;done)|(simp [*];done),by repeat (first|exact Drawn0.refl _|apply Drawn0.step)⟩
     ·rw [if_neg c5] at H
      have c5b0:decide ((bt a0 x3_1) < 32) = false:=decide_eq_false c5
      clear c5
      by_cases c7:(bt a0 x3_1) > 126
      ·rw [if_pos c7] at H
       have c7b0:decide (126 < (bt a0 x3_1)) = true:=decide_eq_true c7
       clear c7
       obtain rfl:=Option.some.inj H
       have p4:0 ≤ (x3_1:Int):=of_decide_eq_true (by first|(with_reducible assumption)|assumption)
       have q4:x3_1 < (a0.size:Int):=of_decide_eq_true (by first|(with_reducible assumption)|assumption)
       have hx4:=bt_at a0 x3_1
       replace p4:=eq_true p4
       replace q4:=eq_true q4
       have p6:0 ≤ (x3_1:Int):=of_decide_eq_true (by first|(with_reducible assumption)|assumption)
       have q6:x3_1 < (a0.size:Int):=of_decide_eq_true (by first|(with_reducible assumption)|assumption)
       have hx6:=bt_at a0 x3_1
       replace p6:=eq_true p6
       replace q6:=eq_true q6
       go_wp2
       go_ret
       exact ⟨by first|rfl|(simp;done)|(simp [*];done),by repeat (first|exact Drawn0.refl _|apply Drawn0.step)⟩
      ·rw [if_neg c7] at H
       have c7b0:decide (126 < (bt a0 x3_1)) = false:=decide_eq_false c7
       clear c7
       have H':=z_ H
       clear H
       have p4:0 ≤ (x3_1:Int):=of_decide_eq_true (by first|(with_reducible assumption)|assumption)
       have q4:x3_1 < (a0.size:Int):=of_decide_eq_true (by first|(with_reducible assumption)|assumption)
       have hx4:=bt_at a0 x3_1
       replace p4:=eq_true p4
       replace q4:=eq_true q4
       have p6:0 ≤ (x3_1:Int):=of_decide_eq_true (by first|(with_reducible assumption)|assumption)
       have q6:x3_1 < (a0.size:Int):=of_decide_eq_true (by first|(with_reducible assumption)|assumption)
       have hx6:=bt_at a0 x3_1
       replace p6:=eq_true p6
       replace q6:=eq_true q6
       go_wp2
       go_roundg k1
       case measure=>have:=HK1.out;omega
       case rel=>exact ⟨(wrap64 (x3_1 + 1)),(by first|rfl|(simp;done)|(simp [*];done)),H',⟨by have:=HK1.out;omega⟩,by repeat (first|exact Drawn0.refl _|apply Drawn0.step)⟩
    ·rw [if_neg c3] at H
     exact absurd H (by simp)
   ·rw [if_neg c2] at H
    have c2b0:decide (x3_1 < (a0.size:Int)) = false:=decide_eq_false c2
    clear c2
    obtain rfl:=Option.some.inj H
    go_wp2
    go_ret
    exact ⟨by first|rfl|(simp;done)|(simp [*];done),by repeat (first|exact Drawn0.refl _|apply Drawn0.step)⟩
end Go.Proofs.Ytllkhdhanheieaa.R
namespace Go.Proofs.Ytllkhdhanheieaa.R
open Go.RowKit Go.Proofs.YtllkhdhanheieaaW.PrintWords Go.Proofs.YtllkhdhanheieaaW.PrintLast Go.Proofs.YtllkhdhanheieaaW.PrintMore
attribute [local go_sem] max2_int min2_int max_two min_two max_three min_three max_four min_four
attribute [local go_sem high] own_gtr own_leq own_geq own_cell_set Option.map_some fld23_1
set_option linter.unusedVariables false
set_option linter.unusedSimpArgs false
attribute [local go_sem high] eqA23
def federationref1_Right.f (k:Nat) (a0_0:Int) (a0_1:Int) (a0_2:Int) (a0_3:ByteArray):Option (Bool):=if a0_0 = 0 then (some (a0_0 == 0 && (a0_1 == 0 && (a0_2 == 0 && (a0_3.toList == ([]:List UInt8)))))) else (if a0_0 = 1 then (if a0_1 ≥ 0 then (if a0_1 ≤ 1 then (if a0_2 = 0 then (some (a0_3.toList == ([]:List UInt8))) else (some false)) else (some false)) else (some false)) else (if a0_0 = 2 then (if a0_2 = 0 then (some (a0_3.toList == ([]:List UInt8))) else (some false)) else (if a0_0 = 3 then (if a0_1 > (-1000000000000000) then (if a0_1 < 1000000000000000 then (if a0_2 ≥ 0 then (if a0_2 ≤ 6 then (if a0_2 = 0 then (some (a0_3.toList == ([]:List UInt8))) else (if (Int.tmod a0_1 10) = 0 then (some false) else (some (a0_3.toList == ([]:List UInt8))))) else (some false)) else (some false)) else (some false)) else (some false)) else (if a0_0 = 4 then (if a0_1 = 0 then (if a0_2 = 0 then (if (a0_3.size:Int) ≤ 40 then ((federationref1_clean.f k a0_3).bind fun t102=>(some t102)) else (some false)) else (some false)) else (some false)) else (if a0_0 = 5 then (if a0_1 = 0 then (if a0_2 = 0 then (some (decide ((a0_3.size:Int) ≤ 40))) else (some false)) else (some false)) else (some false))))))
set_option maxHeartbeats 8000000 in
set_option maxRecDepth 100000 in
theorem federationref1_Right.calls (k:Nat) (a0_0:Int) (a0_1:Int) (a0_2:Int) (a0_3:ByteArray) (r:Bool) (w:World) (h:federationref1_Right.f k a0_0 a0_1 a0_2 a0_3 = some r) :
  Calls Try.prog 18 #[.agg #[.int .i64 a0_0, .int .i64 a0_1, .int .i64 a0_2, .string a0_3]] w fun e w'=>e = .returned (.bool r) ∧ Below w.heap.size w w':=by
 have hu23:=Try.underlying23
 have HB:=z_ (Below.refl w.heap.size w)
 have H:(if a0_0 = 0 then (some (a0_0 == 0 && (a0_1 == 0 && (a0_2 == 0 && (a0_3.toList == ([]:List UInt8)))))) else (if a0_0 = 1 then (if a0_1 ≥ 0 then (if a0_1 ≤ 1 then (if a0_2 = 0 then (some (a0_3.toList == ([]:List UInt8))) else (some false)) else (some false)) else (some false)) else (if a0_0 = 2 then (if a0_2 = 0 then (some (a0_3.toList == ([]:List UInt8))) else (some false)) else (if a0_0 = 3 then (if a0_1 > (-1000000000000000) then (if a0_1 < 1000000000000000 then (if a0_2 ≥ 0 then (if a0_2 ≤ 6 then (if a0_2 = 0 then (some (a0_3.toList == ([]:List UInt8))) else (if (Int.tmod a0_1 10) = 0 then (some false) else (some (a0_3.toList == ([]:List UInt8))))) else (some false)) else (some false)) else (some false)) else (some false)) else (if a0_0 = 4 then (if a0_1 = 0 then (if a0_2 = 0 then (if (a0_3.size:Int) ≤ 40 then ((federationref1_clean.f k a0_3).bind fun t102=>(some t102)) else (some false)) else (some false)) else (some false)) else (if a0_0 = 5 then (if a0_1 = 0 then (if a0_2 = 0 then (some (decide ((a0_3.size:Int) ≤ 40))) else (some false)) else (some false)) else (some false))))))) = some r:=h
 clear h
 by_cases c2:a0_0 = 0
 ·rw [if_pos c2] at H
  have c2b0:(a0_0 == 0) = true:=beq_iff_eq.mpr c2
  have c2b1:(a0_0 != 0) = false:=bne_eq_false_iff_eq.mpr c2
  clear c2
  obtain rfl:=Option.some.inj H
  go_enter Try.func18,Try.ntmps18
  go_wp2_with (first|((with_reducible refine gate_dst (N:=1) rfl ?_);(try (refine gate_guard (by rfl) ?_;dsimp only));refine box_event ?hg (N:=1) ?hd (cs:=#[.int .i64 a0_0, .int .i64 a0_1, .int .i64 a0_2, .string a0_3]) (t:=23) ?hr ?_;(case hd=>rfl);(case hg=>rfl);(case hr=>first|(go_simp;done)|(go_simp;rfl));intro gb101 hg w3 hbox hb;have n0_:=z_ (below_step (by repeat first|(with_reducible first|exact HB.out|apply zA|apply zN|apply z1)|exact HB.out) hb);have n1_:=z_ (hbox);have n2_:=z_ ((by rw [hg];exact (zBs (by repeat first|(with_reducible first|exact HB.out|apply zA|apply zN|apply z1)|exact HB.out)):w.heap.size ≤ gb101));have n3_:=z_ ((by rw [hg];exact (zBs (by repeat first|(with_reducible first|exact HB.out|apply zA|apply zN|apply z1)|exact HB.out)):w.heap.size ≤ gb101));clear HB;have HB:=n0_;have BK101:=n1_;have GW101:=n2_;have GE101:=n3_;clear n0_ n1_ n2_ n3_;clear hb hbox hg;have hcz4_0:w3.cell? ⟨gb101,0,none⟩ = some (.int .i64 a0_0):=(zce BK101.out 0).trans rfl;have hcz4_1:w3.cell? ⟨gb101,1,none⟩ = some (.int .i64 a0_1):=(zce BK101.out 1).trans rfl;have hcz4_2:w3.cell? ⟨gb101,2,none⟩ = some (.int .i64 a0_2):=(zce BK101.out 2).trans rfl;have hcz4_3:w3.cell? ⟨gb101,3,none⟩ = some (.string a0_3):=(zce BK101.out 3).trans rfl;have hfz4_0:=zfz BK101.out 0;have hfz4_1:=zfz BK101.out 1;have hfz4_2:=zfz BK101.out 2;have hfz4_3:=zfz BK101.out 3))
  go_ret
  exact ⟨by first|rfl|(simp [errW_none,errW_some] <;> rfl)|(simp [*,errW_none,errW_some] <;> rfl),by repeat first|(with_reducible first|exact HB.out|apply zA|apply zN|apply z1|refine zS ?_ GE101.out)|exact HB.out⟩
 ·rw [if_neg c2] at H
  have c2b0:(a0_0 == 0) = false:=beq_eq_false_iff_ne.mpr c2
  have c2b1:(a0_0 != 0) = true:=bne_iff_ne.mpr c2
  by_cases c5:a0_0 = 1
  ·rw [if_pos c5] at H
   have c5b0:(a0_0 == 1) = true:=beq_iff_eq.mpr c5
   have c5b1:(a0_0 != 1) = false:=bne_eq_false_iff_eq.mpr c5
   clear c5
   by_cases c6:a0_1 ≥ 0
   focus
    rw [if_pos c6] at H
    have c6b0:decide (0 ≤ a0_1) = true:=decide_eq_true c6
    clear c6
    by_cases c7:a0_1 ≤ 1
    focus
     rw [if_pos c7] at H
     have c7b0:decide (a0_1 ≤ 1) = true:=decide_eq_true c7
     clear c7
     by_cases c8:a0_2 = 0
     focus
      rw [if_pos c8] at H
      have c8b0:(a0_2 == 0) = true:=beq_iff_eq.mpr c8
      have c8b1:(a0_2 != 0) = false:=bne_eq_false_iff_eq.mpr c8
      clear c8
      obtain rfl:=Option.some.inj H
     rotate_left
     focus
      rw [if_neg c8] at H
      have c8b0:(a0_2 == 0) = false:=beq_eq_false_iff_ne.mpr c8
      have c8b1:(a0_2 != 0) = true:=bne_iff_ne.mpr c8
      obtain rfl:=Option.some.inj H
     rotate_left
    rotate_left 2
    focus
     rw [if_neg c7] at H
     have c7b0:decide (a0_1 ≤ 1) = false:=decide_eq_false c7
     clear c7
     obtain rfl:=Option.some.inj H
    rotate_left
   rotate_left 3
   focus
    rw [if_neg c6] at H
    have c6b0:decide (0 ≤ a0_1) = false:=decide_eq_false c6
    clear c6
    obtain rfl:=Option.some.inj H
   rotate_left
   all_goals
    go_enter Try.func18,Try.ntmps18
    go_wp2_with (first|((with_reducible refine gate_dst (N:=1) rfl ?_);(try (refine gate_guard (by rfl) ?_;dsimp only));refine box_event ?hg (N:=1) ?hd (cs:=#[.int .i64 a0_0, .int .i64 a0_1, .int .i64 a0_2, .string a0_3]) (t:=23) ?hr ?_;(case hd=>rfl);(case hg=>rfl);(case hr=>first|(go_simp;done)|(go_simp;rfl));intro gb101 hg w9 hbox hb;have n0_:=z_ (below_step (by repeat first|(with_reducible first|exact HB.out|apply zA|apply zN|apply z1)|exact HB.out) hb);have n1_:=z_ (hbox);have n2_:=z_ ((by rw [hg];exact (zBs (by repeat first|(with_reducible first|exact HB.out|apply zA|apply zN|apply z1)|exact HB.out)):w.heap.size ≤ gb101));have n3_:=z_ ((by rw [hg];exact (zBs (by repeat first|(with_reducible first|exact HB.out|apply zA|apply zN|apply z1)|exact HB.out)):w.heap.size ≤ gb101));clear HB;have HB:=n0_;have BK101:=n1_;have GW101:=n2_;have GE101:=n3_;clear n0_ n1_ n2_ n3_;clear hb hbox hg;have hcz10_0:w9.cell? ⟨gb101,0,none⟩ = some (.int .i64 a0_0):=(zce BK101.out 0).trans rfl;have hcz10_1:w9.cell? ⟨gb101,1,none⟩ = some (.int .i64 a0_1):=(zce BK101.out 1).trans rfl;have hcz10_2:w9.cell? ⟨gb101,2,none⟩ = some (.int .i64 a0_2):=(zce BK101.out 2).trans rfl;have hcz10_3:w9.cell? ⟨gb101,3,none⟩ = some (.string a0_3):=(zce BK101.out 3).trans rfl;have hfz10_0:=zfz BK101.out 0;have hfz10_1:=zfz BK101.out 1;have hfz10_2:=zfz BK101.out 2;have hfz10_3:=zfz BK101.out 3))
    go_ret
    exact ⟨by first|rfl|(simp [errW_none,errW_some] <;> rfl)|(simp [*,errW_none,errW_some] <;> rfl),by repeat first|(with_reducible first|exact HB.out|apply zA|apply zN|apply z1|refine zS ?_ GE101.out)|exact HB.out⟩
  ·rw [if_neg c5] at H
   have c5b0:(a0_0 == 1) = false:=beq_eq_false_iff_ne.mpr c5
   have c5b1:(a0_0 != 1) = true:=bne_iff_ne.mpr c5
   by_cases c17:a0_0 = 2
   ·rw [if_pos c17] at H
    have c17b0:(a0_0 == 2) = true:=beq_iff_eq.mpr c17
    have c17b1:(a0_0 != 2) = false:=bne_eq_false_iff_eq.mpr c17
    clear c17
    by_cases c18:a0_2 = 0
    ·rw [if_pos c18] at H
     have c18b0:(a0_2 == 0) = true:=beq_iff_eq.mpr c18
     have c18b1:(a0_2 != 0) = false:=bne_eq_false_iff_eq.mpr c18
     clear c18
     obtain rfl:=Option.some.inj H
     go_enter Try.func18,Try.ntmps18
     go_wp2_with (first|((with_reducible refine gate_dst (N:=1) rfl ?_);(try (refine gate_guard (by rfl) ?_;dsimp only));refine box_event ?hg (N:=1) ?hd (cs:=#[.int .i64 a0_0, .int .i64 a0_1, .int .i64 a0_2, .string a0_3]) (t:=23) ?hr ?_;(case hd=>rfl);(case hg=>rfl);(case hr=>first|(go_simp;done)|(go_simp;rfl));intro gb101 hg w19 hbox hb;have n0_:=z_ (below_step (by repeat first|(with_reducible first|exact HB.out|apply zA|apply zN|apply z1)|exact HB.out) hb);have n1_:=z_ (hbox);have n2_:=z_ ((by rw [hg];exact (zBs (by repeat first|(with_reducible first|exact HB.out|apply zA|apply zN|apply z1)|exact HB.out)):w.heap.size ≤ gb101));have n3_:=z_ ((by rw [hg];exact (zBs (by repeat first|(with_reducible first|exact HB.out|apply zA|apply zN|apply z1)|exact HB.out)):w.heap.size ≤ gb101));clear HB;have HB:=n0_;have BK101:=n1_;have GW101:=n2_;have GE101:=n3_;clear n0_ n1_ n2_ n3_;clear hb hbox hg;have hcz20_0:w19.cell? ⟨gb101,0,none⟩ = some (.int .i64 a0_0):=(zce BK101.out 0).trans rfl;have hcz20_1:w19.cell? ⟨gb101,1,none⟩ = some (.int .i64 a0_1):=(zce BK101.out 1).trans rfl;have hcz20_2:w19.cell? ⟨gb101,2,none⟩ = some (.int .i64 a0_2):=(zce BK101.out 2).trans rfl;have hcz20_3:w19.cell? ⟨gb101,3,none⟩ = some (.string a0_3):=(zce BK101.out 3).trans rfl;have hfz20_0:=zfz BK101.out 0;have hfz20_1:=zfz BK101.out 1;have hfz20_2:=zfz BK101.out 2;have hfz20_3:=zfz BK101.out 3))
     go_ret
     exact ⟨by first|rfl|(simp [errW_none,errW_some] <;> rfl)|(simp [*,errW_none,errW_some] <;> rfl),by repeat first|(with_reducible first|exact HB.out|apply zA|apply zN|apply z1|refine zS ?_ GE101.out)|exact HB.out⟩
    ·rw [if_neg c18] at H
     have c18b0:(a0_2 == 0) = false:=beq_eq_false_iff_ne.mpr c18
     have c18b1:(a0_2 != 0) = true:=bne_iff_ne.mpr c18
     obtain rfl:=Option.some.inj H
     go_enter Try.func18,Try.ntmps18
     go_wp2_with (first|((with_reducible refine gate_dst (N:=1) rfl ?_);(try (refine gate_guard (by rfl) ?_;dsimp only));refine box_event ?hg (N:=1) ?hd (cs:=#[.int .i64 a0_0, .int .i64 a0_1, .int .i64 a0_2, .string a0_3]) (t:=23) ?hr ?_;(case hd=>rfl);(case hg=>rfl);(case hr=>first|(go_simp;done)|(go_simp;rfl));intro gb101 hg w21 hbox hb;have n0_:=z_ (below_step (by repeat first|(with_reducible first|exact HB.out|apply zA|apply zN|apply z1)|exact HB.out) hb);have n1_:=z_ (hbox);have n2_:=z_ ((by rw [hg];exact (zBs (by repeat first|(with_reducible first|exact HB.out|apply zA|apply zN|apply z1)|exact HB.out)):w.heap.size ≤ gb101));have n3_:=z_ ((by rw [hg];exact (zBs (by repeat first|(with_reducible first|exact HB.out|apply zA|apply zN|apply z1)|exact HB.out)):w.heap.size ≤ gb101));clear HB;have HB:=n0_;have BK101:=n1_;have GW101:=n2_;have GE101:=n3_;clear n0_ n1_ n2_ n3_;clear hb hbox hg;have hcz22_0:w21.cell? ⟨gb101,0,none⟩ = some (.int .i64 a0_0):=(zce BK101.out 0).trans rfl;have hcz22_1:w21.cell? ⟨gb101,1,none⟩ = some (.int .i64 a0_1):=(zce BK101.out 1).trans rfl;have hcz22_2:w21.cell? ⟨gb101,2,none⟩ = some (.int .i64 a0_2):=(zce BK101.out 2).trans rfl;have hcz22_3:w21.cell? ⟨gb101,3,none⟩ = some (.string a0_3):=(zce BK101.out 3).trans rfl;have hfz22_0:=zfz BK101.out 0;have hfz22_1:=zfz BK101.out 1;have hfz22_2:=zfz BK101.out 2;have hfz22_3:=zfz BK101.out 3))
     go_ret
     exact ⟨by first|rfl|(simp [errW_none,errW_some] <;> rfl)|(simp [*,errW_none,errW_some] <;> rfl),by repeat first|(with_reducible first|exact HB.out|apply zA|apply zN|apply z1|refine zS ?_ GE101.out)|exact HB.out⟩
   ·rw [if_neg c17] at H
    have c17b0:(a0_0 == 2) = false:=beq_eq_false_iff_ne.mpr c17
    have c17b1:(a0_0 != 2) = true:=bne_iff_ne.mpr c17
    by_cases c23:a0_0 = 3
    ·rw [if_pos c23] at H
     have c23b0:(a0_0 == 3) = true:=beq_iff_eq.mpr c23
     have c23b1:(a0_0 != 3) = false:=bne_eq_false_iff_eq.mpr c23
     clear c23
     by_cases c24:a0_1 > (-1000000000000000)
     focus
      rw [if_pos c24] at H
      have c24b0:decide ((-1000000000000000) < a0_1) = true:=decide_eq_true c24
      clear c24
      by_cases c25:a0_1 < 1000000000000000
      focus
       rw [if_pos c25] at H
       have c25b0:decide (a0_1 < 1000000000000000) = true:=decide_eq_true c25
       clear c25
       by_cases c26:a0_2 ≥ 0
       focus
        rw [if_pos c26] at H
        have c26b0:decide (0 ≤ a0_2) = true:=decide_eq_true c26
        clear c26
        by_cases c27:a0_2 ≤ 6
        focus
         rw [if_pos c27] at H
         have c27b0:decide (a0_2 ≤ 6) = true:=decide_eq_true c27
         clear c27
         by_cases c28:a0_2 = 0
         focus
          rw [if_pos c28] at H
          have c28b0:(a0_2 == 0) = true:=beq_iff_eq.mpr c28
          have c28b1:(a0_2 != 0) = false:=bne_eq_false_iff_eq.mpr c28
          clear c28
          obtain rfl:=Option.some.inj H
         rotate_left
         focus
          rw [if_neg c28] at H
          have c28b0:(a0_2 == 0) = false:=beq_eq_false_iff_ne.mpr c28
          have c28b1:(a0_2 != 0) = true:=bne_iff_ne.mpr c28
          by_cases c31:(Int.tmod a0_1 10) = 0
          focus
           rw [if_pos c31] at H
           have c31b0:((Int.tmod a0_1 10) == 0) = true:=beq_iff_eq.mpr c31
           have c31b1:((Int.tmod a0_1 10) != 0) = false:=bne_eq_false_iff_eq.mpr c31
           clear c31
           obtain rfl:=Option.some.inj H
          rotate_left
          focus
           rw [if_neg c31] at H
           have c31b0:((Int.tmod a0_1 10) == 0) = false:=beq_eq_false_iff_ne.mpr c31
           have c31b1:((Int.tmod a0_1 10) != 0) = true:=bne_iff_ne.mpr c31
           obtain rfl:=Option.some.inj H
          rotate_left
         rotate_left 2
        rotate_left 3
        focus
         rw [if_neg c27] at H
         have c27b0:decide (a0_2 ≤ 6) = false:=decide_eq_false c27
         clear c27
         obtain rfl:=Option.some.inj H
        rotate_left
       rotate_left 4
       focus
        rw [if_neg c26] at H
        have c26b0:decide (0 ≤ a0_2) = false:=decide_eq_false c26
        clear c26
        obtain rfl:=Option.some.inj H
       rotate_left
      rotate_left 5
      focus
       rw [if_neg c25] at H
       have c25b0:decide (a0_1 < 1000000000000000) = false:=decide_eq_false c25
       clear c25
       obtain rfl:=Option.some.inj H
      rotate_left
     rotate_left 6
     focus
      rw [if_neg c24] at H
      have c24b0:decide ((-1000000000000000) < a0_1) = false:=decide_eq_false c24
      clear c24
      obtain rfl:=Option.some.inj H
     rotate_left
     all_goals
      go_enter Try.func18,Try.ntmps18
      go_wp2_with (first|((with_reducible refine gate_dst (N:=1) rfl ?_);(try (refine gate_guard (by rfl) ?_;dsimp only));refine box_event ?hg (N:=1) ?hd (cs:=#[.int .i64 a0_0, .int .i64 a0_1, .int .i64 a0_2, .string a0_3]) (t:=23) ?hr ?_;(case hd=>rfl);(case hg=>rfl);(case hr=>first|(go_simp;done)|(go_simp;rfl));intro gb101 hg w29 hbox hb;have n0_:=z_ (below_step (by repeat first|(with_reducible first|exact HB.out|apply zA|apply zN|apply z1)|exact HB.out) hb);have n1_:=z_ (hbox);have n2_:=z_ ((by rw [hg];exact (zBs (by repeat first|(with_reducible first|exact HB.out|apply zA|apply zN|apply z1)|exact HB.out)):w.heap.size ≤ gb101));have n3_:=z_ ((by rw [hg];exact (zBs (by repeat first|(with_reducible first|exact HB.out|apply zA|apply zN|apply z1)|exact HB.out)):w.heap.size ≤ gb101));clear HB;have HB:=n0_;have BK101:=n1_;have GW101:=n2_;have GE101:=n3_;clear n0_ n1_ n2_ n3_;clear hb hbox hg;have hcz30_0:w29.cell? ⟨gb101,0,none⟩ = some (.int .i64 a0_0):=(zce BK101.out 0).trans rfl;have hcz30_1:w29.cell? ⟨gb101,1,none⟩ = some (.int .i64 a0_1):=(zce BK101.out 1).trans rfl;have hcz30_2:w29.cell? ⟨gb101,2,none⟩ = some (.int .i64 a0_2):=(zce BK101.out 2).trans rfl;have hcz30_3:w29.cell? ⟨gb101,3,none⟩ = some (.string a0_3):=(zce BK101.out 3).trans rfl;have hfz30_0:=zfz BK101.out 0;have hfz30_1:=zfz BK101.out 1;have hfz30_2:=zfz BK101.out 2;have hfz30_3:=zfz BK101.out 3))
      go_ret
      exact ⟨by first|rfl|(simp [errW_none,errW_some] <;> rfl)|(simp [*,errW_none,errW_some] <;> rfl),by repeat first|(with_reducible first|exact HB.out|apply zA|apply zN|apply z1|refine zS ?_ GE101.out)|exact HB.out⟩
    ·rw [if_neg c23] at H
     have c23b0:(a0_0 == 3) = false:=beq_eq_false_iff_ne.mpr c23
     have c23b1:(a0_0 != 3) = true:=bne_iff_ne.mpr c23
     by_cases c44:a0_0 = 4
     ·rw [if_pos c44] at H
      have c44b0:(a0_0 == 4) = true:=beq_iff_eq.mpr c44
      have c44b1:(a0_0 != 4) = false:=bne_eq_false_iff_eq.mpr c44
      clear c44
      by_cases c45:a0_1 = 0
      ·rw [if_pos c45] at H
       have c45b0:(a0_1 == 0) = true:=beq_iff_eq.mpr c45
       have c45b1:(a0_1 != 0) = false:=bne_eq_false_iff_eq.mpr c45
       clear c45
       by_cases c46:a0_2 = 0
       ·rw [if_pos c46] at H
        have c46b0:(a0_2 == 0) = true:=beq_iff_eq.mpr c46
        have c46b1:(a0_2 != 0) = false:=bne_eq_false_iff_eq.mpr c46
        clear c46
        by_cases c47:(a0_3.size:Int) ≤ 40
        ·rw [if_pos c47] at H
         have c47b0:decide ((a0_3.size:Int) ≤ 40) = true:=decide_eq_true c47
         have c47b1:decide (a0_3.size ≤ 40) = true:=decide_eq_true (by omega)
         clear c47
         replace H:=Option.bind_eq_some_iff.mp H
         obtain ⟨t102,A480,H⟩:=H
         replace H:(some t102) = some r:=H
         have A48:=z_ A480
         clear A480
         obtain rfl:=Option.some.inj H
         go_enter Try.func18,Try.ntmps18
         go_wp2_with (first|((with_reducible refine gate_dst (N:=1) rfl ?_);(try (refine gate_guard (by rfl) ?_;dsimp only));refine box_event ?hg (N:=1) ?hd (cs:=#[.int .i64 a0_0, .int .i64 a0_1, .int .i64 a0_2, .string a0_3]) (t:=23) ?hr ?_;(case hd=>rfl);(case hg=>rfl);(case hr=>first|(go_simp;done)|(go_simp;rfl));intro gb101 hg w49 hbox hb;have n0_:=z_ (below_step (by repeat first|(with_reducible first|exact HB.out|apply zA|apply zN|apply z1)|exact HB.out) hb);have n1_:=z_ (hbox);have n2_:=z_ ((by rw [hg];exact (zBs (by repeat first|(with_reducible first|exact HB.out|apply zA|apply zN|apply z1)|exact HB.out)):w.heap.size ≤ gb101));have n3_:=z_ ((by rw [hg];exact (zBs (by repeat first|(with_reducible first|exact HB.out|apply zA|apply zN|apply z1)|exact HB.out)):w.heap.size ≤ gb101));clear HB;have HB:=n0_;have BK101:=n1_;have GW101:=n2_;have GE101:=n3_;clear n0_ n1_ n2_ n3_;clear hb hbox hg;have hcz50_0:w49.cell? ⟨gb101,0,none⟩ = some (.int .i64 a0_0):=(zce BK101.out 0).trans rfl;have hcz50_1:w49.cell? ⟨gb101,1,none⟩ = some (.int .i64 a0_1):=(zce BK101.out 1).trans rfl;have hcz50_2:w49.cell? ⟨gb101,2,none⟩ = some (.int .i64 a0_2):=(zce BK101.out 2).trans rfl;have hcz50_3:w49.cell? ⟨gb101,3,none⟩ = some (.string a0_3):=(zce BK101.out 3).trans rfl;have hfz50_0:=zfz BK101.out 0;have hfz50_1:=zfz BK101.out 1;have hfz50_2:=zfz BK101.out 2;have hfz50_3:=zfz BK101.out 3)|(go_at_call 30;(with_reducible refine (federationref1_clean.calls k a0_3 t102 _ A48.out).mono ?_);rintro e w' ⟨rfl,⟨nd,rfl⟩⟩))
         go_ret
         exact ⟨by first|rfl|(simp [errW_none,errW_some] <;> rfl)|(simp [*,errW_none,errW_some] <;> rfl),by repeat first|(with_reducible first|exact HB.out|apply zA|apply zN|apply z1|refine zS ?_ GE101.out)|exact HB.out⟩
        ·rw [if_neg c47] at H
         have c47b0:decide ((a0_3.size:Int) ≤ 40) = false:=decide_eq_false c47
         have c47b1:decide (a0_3.size ≤ 40) = false:=decide_eq_false (by omega)
         clear c47
         obtain rfl:=Option.some.inj H
         go_enter Try.func18,Try.ntmps18
         go_wp2_with (first|((with_reducible refine gate_dst (N:=1) rfl ?_);(try (refine gate_guard (by rfl) ?_;dsimp only));refine box_event ?hg (N:=1) ?hd (cs:=#[.int .i64 a0_0, .int .i64 a0_1, .int .i64 a0_2, .string a0_3]) (t:=23) ?hr ?_;(case hd=>rfl);(case hg=>rfl);(case hr=>first|(go_simp;done)|(go_simp;rfl));intro gb101 hg w51 hbox hb;have n0_:=z_ (below_step (by repeat first|(with_reducible first|exact HB.out|apply zA|apply zN|apply z1)|exact HB.out) hb);have n1_:=z_ (hbox);have n2_:=z_ ((by rw [hg];exact (zBs (by repeat first|(with_reducible first|exact HB.out|apply zA|apply zN|apply z1)|exact HB.out)):w.heap.size ≤ gb101));have n3_:=z_ ((by rw [hg];exact (zBs (by repeat first|(with_reducible first|exact HB.out|apply zA|apply zN|apply z1)|exact HB.out)):w.heap.size ≤ gb101));clear HB;have HB:=n0_;have BK101:=n1_;have GW101:=n2_;have GE101:=n3_;clear n0_ n1_ n2_ n3_;clear hb hbox hg;have hcz52_0:w51.cell? ⟨gb101,0,none⟩ = some (.int .i64 a0_0):=(zce BK101.out 0).trans rfl;have hcz52_1:w51.cell? ⟨gb101,1,none⟩ = some (.int .i64 a0_1):=(zce BK101.out 1).trans rfl;have hcz52_2:w51.cell? ⟨gb101,2,none⟩ = some (.int .i64 a0_2):=(zce BK101.out 2).trans rfl;have hcz52_3:w51.cell? ⟨gb101,3,none⟩ = some (.string a0_3):=(zce BK101.out 3).trans rfl;have hfz52_0:=zfz BK101.out 0;have hfz52_1:=zfz BK101.out 1;have hfz52_2:=zfz BK101.out 2;have hfz52_3:=zfz BK101.out 3))
         go_ret
         exact ⟨by first|rfl|(simp [errW_none,errW_some] <;> rfl)|(simp [*,errW_none,errW_some] <;> rfl),by repeat first|(with_reducible first|exact HB.out|apply zA|apply zN|apply z1|refine zS ?_ GE101.out)|exact HB.out⟩
       ·rw [if_neg c46] at H
        have c46b0:(a0_2 == 0) = false:=beq_eq_false_iff_ne.mpr c46
        have c46b1:(a0_2 != 0) = true:=bne_iff_ne.mpr c46
        obtain rfl:=Option.some.inj H
        go_enter Try.func18,Try.ntmps18
        go_wp2_with (first|((with_reducible refine gate_dst (N:=1) rfl ?_);(try (refine gate_guard (by rfl) ?_;dsimp only));refine box_event ?hg (N:=1) ?hd (cs:=#[.int .i64 a0_0, .int .i64 a0_1, .int .i64 a0_2, .string a0_3]) (t:=23) ?hr ?_;(case hd=>rfl);(case hg=>rfl);(case hr=>first|(go_simp;done)|(go_simp;rfl));intro gb101 hg w53 hbox hb;have n0_:=z_ (below_step (by repeat first|(with_reducible first|exact HB.out|apply zA|apply zN|apply z1)|exact HB.out) hb);have n1_:=z_ (hbox);have n2_:=z_ ((by rw [hg];exact (zBs (by repeat first|(with_reducible first|exact HB.out|apply zA|apply zN|apply z1)|exact HB.out)):w.heap.size ≤ gb101));have n3_:=z_ ((by rw [hg];exact (zBs (by repeat first|(with_reducible first|exact HB.out|apply zA|apply zN|apply z1)|exact HB.out)):w.heap.size ≤ gb101));clear HB;have HB:=n0_;have BK101:=n1_;have GW101:=n2_;have GE101:=n3_;clear n0_ n1_ n2_ n3_;clear hb hbox hg;have hcz54_0:w53.cell? ⟨gb101,0,none⟩ = some (.int .i64 a0_0):=(zce BK101.out 0).trans rfl;have hcz54_1:w53.cell? ⟨gb101,1,none⟩ = some (.int .i64 a0_1):=(zce BK101.out 1).trans rfl;have hcz54_2:w53.cell? ⟨gb101,2,none⟩ = some (.int .i64 a0_2):=(zce BK101.out 2).trans rfl;have hcz54_3:w53.cell? ⟨gb101,3,none⟩ = some (.string a0_3):=(zce BK101.out 3).trans rfl;have hfz54_0:=zfz BK101.out 0;have hfz54_1:=zfz BK101.out 1;have hfz54_2:=zfz BK101.out 2;have hfz54_3:=zfz BK101.out 3))
        go_ret
        exact ⟨by first|rfl|(simp [errW_none,errW_some] <;> rfl)|(simp [*,errW_none,errW_some] <;> rfl),by repeat first|(with_reducible first|exact HB.out|apply zA|apply zN|apply z1|refine zS ?_ GE101.out)|exact HB.out⟩
      ·rw [if_neg c45] at H
       have c45b0:(a0_1 == 0) = false:=beq_eq_false_iff_ne.mpr c45
       have c45b1:(a0_1 != 0) = true:=bne_iff_ne.mpr c45
       obtain rfl:=Option.some.inj H
       go_enter Try.func18,Try.ntmps18
       go_wp2_with (first|((with_reducible refine gate_dst (N:=1) rfl ?_);(try (refine gate_guard (by rfl) ?_;dsimp only));refine box_event ?hg (N:=1) ?hd (cs:=#[.int .i64 a0_0, .int .i64 a0_1, .int .i64 a0_2, .string a0_3]) (t:=23) ?hr ?_;(case hd=>rfl);(case hg=>rfl);(case hr=>first|(go_simp;done)|(go_simp;rfl));intro gb101 hg w55 hbox hb;have n0_:=z_ (below_step (by repeat first|(with_reducible first|exact HB.out|apply zA|apply zN|apply z1)|exact HB.out) hb);have n1_:=z_ (hbox);have n2_:=z_ ((by rw [hg];exact (zBs (by repeat first|(with_reducible first|exact HB.out|apply zA|apply zN|apply z1)|exact HB.out)):w.heap.size ≤ gb101));have n3_:=z_ ((by rw [hg];exact (zBs (by repeat first|(with_reducible first|exact HB.out|apply zA|apply zN|apply z1)|exact HB.out)):w.heap.size ≤ gb101));clear HB;have HB:=n0_;have BK101:=n1_;have GW101:=n2_;have GE101:=n3_;clear n0_ n1_ n2_ n3_;clear hb hbox hg;have hcz56_0:w55.cell? ⟨gb101,0,none⟩ = some (.int .i64 a0_0):=(zce BK101.out 0).trans rfl;have hcz56_1:w55.cell? ⟨gb101,1,none⟩ = some (.int .i64 a0_1):=(zce BK101.out 1).trans rfl;have hcz56_2:w55.cell? ⟨gb101,2,none⟩ = some (.int .i64 a0_2):=(zce BK101.out 2).trans rfl;have hcz56_3:w55.cell? ⟨gb101,3,none⟩ = some (.string a0_3):=(zce BK101.out 3).trans rfl;have hfz56_0:=zfz BK101.out 0;have hfz56_1:=zfz BK101.out 1;have hfz56_2:=zfz BK101.out 2;have hfz56_3:=zfz BK101.out 3))
       go_ret
       exact ⟨by first|rfl|(simp [errW_none,errW_some] <;> rfl)|(simp [*,errW_none,errW_some] <;> rfl),by repeat first|(with_reducible first|exact HB.out|apply zA|apply zN|apply z1|refine zS ?_ GE101.out)|exact HB.out⟩
     ·rw [if_neg c44] at H
      have c44b0:(a0_0 == 4) = false:=beq_eq_false_iff_ne.mpr c44
      have c44b1:(a0_0 != 4) = true:=bne_iff_ne.mpr c44
      by_cases c57:a0_0 = 5
      ·rw [if_pos c57] at H
       have c57b0:(a0_0 == 5) = true:=beq_iff_eq.mpr c57
       have c57b1:(a0_0 != 5) = false:=bne_eq_false_iff_eq.mpr c57
       clear c57
       by_cases c58:a0_1 = 0
       ·rw [if_pos c58] at H
        have c58b0:(a0_1 == 0) = true:=beq_iff_eq.mpr c58
        have c58b1:(a0_1 != 0) = false:=bne_eq_false_iff_eq.mpr c58
        clear c58
        by_cases c59:a0_2 = 0
        ·rw [if_pos c59] at H
         have c59b0:(a0_2 == 0) = true:=beq_iff_eq.mpr c59
         have c59b1:(a0_2 != 0) = false:=bne_eq_false_iff_eq.mpr c59
         clear c59
         obtain rfl:=Option.some.inj H
         go_enter Try.func18,Try.ntmps18
         go_wp2_with (first|((with_reducible refine gate_dst (N:=1) rfl ?_);(try (refine gate_guard (by rfl) ?_;dsimp only));refine box_event ?hg (N:=1) ?hd (cs:=#[.int .i64 a0_0, .int .i64 a0_1, .int .i64 a0_2, .string a0_3]) (t:=23) ?hr ?_;(case hd=>rfl);(case hg=>rfl);(case hr=>first|(go_simp;done)|(go_simp;rfl));intro gb101 hg w60 hbox hb;have n0_:=z_ (below_step (by repeat first|(with_reducible first|exact HB.out|apply zA|apply zN|apply z1)|exact HB.out) hb);have n1_:=z_ (hbox);have n2_:=z_ ((by rw [hg];exact (zBs (by repeat first|(with_reducible first|exact HB.out|apply zA|apply zN|apply z1)|exact HB.out)):w.heap.size ≤ gb101));have n3_:=z_ ((by rw [hg];exact (zBs (by repeat first|(with_reducible first|exact HB.out|apply zA|apply zN|apply z1)|exact HB.out)):w.heap.size ≤ gb101));clear HB;have HB:=n0_;have BK101:=n1_;have GW101:=n2_;have GE101:=n3_;clear n0_ n1_ n2_ n3_;clear hb hbox hg;have hcz61_0:w60.cell? ⟨gb101,0,none⟩ = some (.int .i64 a0_0):=(zce BK101.out 0).trans rfl;have hcz61_1:w60.cell? ⟨gb101,1,none⟩ = some (.int .i64 a0_1):=(zce BK101.out 1).trans rfl;have hcz61_2:w60.cell? ⟨gb101,2,none⟩ = some (.int .i64 a0_2):=(zce BK101.out 2).trans rfl;have hcz61_3:w60.cell? ⟨gb101,3,none⟩ = some (.string a0_3):=(zce BK101.out 3).trans rfl;have hfz61_0:=zfz BK101.out 0;have hfz61_1:=zfz BK101.out 1;have hfz61_2:=zfz BK101.out 2;have hfz61_3:=zfz BK101.out 3))
         go_ret
         exact ⟨by first|rfl|(simp [errW_none,errW_some] <;> rfl)|(simp [*,errW_none,errW_some] <;> rfl),by repeat first|(with_reducible first|exact HB.out|apply zA|apply zN|apply z1|refine zS ?_ GE101.out)|exact HB.out⟩
        ·rw [if_neg c59] at H
         have c59b0:(a0_2 == 0) = false:=beq_eq_false_iff_ne.mpr c59
         have c59b1:(a0_2 != 0) = true:=bne_iff_ne.mpr c59
         obtain rfl:=Option.some.inj H
         go_enter Try.func18,Try.ntmps18
         go_wp2_with (first|((with_reducible refine gate_dst (N:=1) rfl ?_);(try (refine gate_guard (by rfl) ?_;dsimp only));refine box_event ?hg (N:=1) ?hd (cs:=#[.int .i64 a0_0, .int .i64 a0_1, .int .i64 a0_2, .string a0_3]) (t:=23) ?hr ?_;(case hd=>rfl);(case hg=>rfl);(case hr=>first|(go_simp;done)|(go_simp;rfl));intro gb101 hg w62 hbox hb;have n0_:=z_ (below_step (by repeat first|(with_reducible first|exact HB.out|apply zA|apply zN|apply z1)|exact HB.out) hb);have n1_:=z_ (hbox);have n2_:=z_ ((by rw [hg];exact (zBs (by repeat first|(with_reducible first|exact HB.out|apply zA|apply zN|apply z1)|exact HB.out)):w.heap.size ≤ gb101));have n3_:=z_ ((by rw [hg];exact (zBs (by repeat first|(with_reducible first|exact HB.out|apply zA|apply zN|apply z1)|exact HB.out)):w.heap.size ≤ gb101));clear HB;have HB:=n0_;have BK101:=n1_;have GW101:=n2_;have GE101:=n3_;clear n0_ n1_ n2_ n3_;clear hb hbox hg;have hcz63_0:w62.cell? ⟨gb101,0,none⟩ = some (.int .i64 a0_0):=(zce BK101.out 0).trans rfl;have hcz63_1:w62.cell? ⟨gb101,1,none⟩ = some (.int .i64 a0_1):=(zce BK101.out 1).trans rfl;have hcz63_2:w62.cell? ⟨gb101,2,none⟩ = some (.int .i64 a0_2):=(zce BK101.out 2).trans rfl;have hcz63_3:w62.cell? ⟨gb101,3,none⟩ = some (.string a0_3):=(zce BK101.out 3).trans rfl;have hfz63_0:=zfz BK101.out 0;have hfz63_1:=zfz BK101.out 1;have hfz63_2:=zfz BK101.out 2;have hfz63_3:=zfz BK101.out 3))
         go_ret
         exact ⟨by first|rfl|(simp [errW_none,errW_some] <;> rfl)|(simp [*,errW_none,errW_some] <;> rfl),by repeat first|(with_reducible first|exact HB.out|apply zA|apply zN|apply z1|refine zS ?_ GE101.out)|exact HB.out⟩
       ·rw [if_neg c58] at H
        have c58b0:(a0_1 == 0) = false:=beq_eq_false_iff_ne.mpr c58
        have c58b1:(a0_1 != 0) = true:=bne_iff_ne.mpr c58
        obtain rfl:=Option.some.inj H
        go_enter Try.func18,Try.ntmps18
        go_wp2_with (first|((with_reducible refine gate_dst (N:=1) rfl ?_);(try (refine gate_guard (by rfl) ?_;dsimp only));refine box_event ?hg (N:=1) ?hd (cs:=#[.int .i64 a0_0, .int .i64 a0_1, .int .i64 a0_2, .string a0_3]) (t:=23) ?hr ?_;(case hd=>rfl);(case hg=>rfl);(case hr=>first|(go_simp;done)|(go_simp;rfl));intro gb101 hg w64 hbox hb;have n0_:=z_ (below_step (by repeat first|(with_reducible first|exact HB.out|apply zA|apply zN|apply z1)|exact HB.out) hb);have n1_:=z_ (hbox);have n2_:=z_ ((by rw [hg];exact (zBs (by repeat first|(with_reducible first|exact HB.out|apply zA|apply zN|apply z1)|exact HB.out)):w.heap.size ≤ gb101));have n3_:=z_ ((by rw [hg];exact (zBs (by repeat first|(with_reducible first|exact HB.out|apply zA|apply zN|apply z1)|exact HB.out)):w.heap.size ≤ gb101));clear HB;have HB:=n0_;have BK101:=n1_;have GW101:=n2_;have GE101:=n3_;clear n0_ n1_ n2_ n3_;clear hb hbox hg;have hcz65_0:w64.cell? ⟨gb101,0,none⟩ = some (.int .i64 a0_0):=(zce BK101.out 0).trans rfl;have hcz65_1:w64.cell? ⟨gb101,1,none⟩ = some (.int .i64 a0_1):=(zce BK101.out 1).trans rfl;have hcz65_2:w64.cell? ⟨gb101,2,none⟩ = some (.int .i64 a0_2):=(zce BK101.out 2).trans rfl;have hcz65_3:w64.cell? ⟨gb101,3,none⟩ = some (.string a0_3):=(zce BK101.out 3).trans rfl;have hfz65_0:=zfz BK101.out 0;have hfz65_1:=zfz BK101.out 1;have hfz65_2:=zfz BK101.out 2;have hfz65_3:=zfz BK101.out 3))
        go_ret
        exact ⟨by first|rfl|(simp [errW_none,errW_some] <;> rfl)|(simp [*,errW_none,errW_some] <;> rfl),by repeat first|(with_reducible first|exact HB.out|apply zA|apply zN|apply z1|refine zS ?_ GE101.out)|exact HB.out⟩
      ·rw [if_neg c57] at H
       have c57b0:(a0_0 == 5) = false:=beq_eq_false_iff_ne.mpr c57
       have c57b1:(a0_0 != 5) = true:=bne_iff_ne.mpr c57
       obtain rfl:=Option.some.inj H
       go_enter Try.func18,Try.ntmps18
       go_wp2_with (first|((with_reducible refine gate_dst (N:=1) rfl ?_);(try (refine gate_guard (by rfl) ?_;dsimp only));refine box_event ?hg (N:=1) ?hd (cs:=#[.int .i64 a0_0, .int .i64 a0_1, .int .i64 a0_2, .string a0_3]) (t:=23) ?hr ?_;(case hd=>rfl);(case hg=>rfl);(case hr=>first|(go_simp;done)|(go_simp;rfl));intro gb101 hg w66 hbox hb;have n0_:=z_ (below_step (by repeat first|(with_reducible first|exact HB.out|apply zA|apply zN|apply z1)|exact HB.out) hb);have n1_:=z_ (hbox);have n2_:=z_ ((by rw [hg];exact (zBs (by repeat first|(with_reducible first|exact HB.out|apply zA|apply zN|apply z1)|exact HB.out)):w.heap.size ≤ gb101));have n3_:=z_ ((by rw [hg];exact (zBs (by repeat first|(with_reducible first|exact HB.out|apply zA|apply zN|apply z1)|exact HB.out)):w.heap.size ≤ gb101));clear HB;have HB:=n0_;have BK101:=n1_;have GW101:=n2_;have GE101:=n3_;clear n0_ n1_ n2_ n3_;clear hb hbox hg;have hcz67_0:w66.cell? ⟨gb101,0,none⟩ = some (.int .i64 a0_0):=(zce BK101.out 0).trans rfl;have hcz67_1:w66.cell? ⟨gb101,1,none⟩ = some (.int .i64 a0_1):=(zce BK101.out 1).trans rfl;have hcz67_2:w66.cell? ⟨gb101,2,none⟩ = some (.int .i64 a0_2):=(zce BK101.out 2).trans rfl;have hcz67_3:w66.cell? ⟨gb101,3,none⟩ = some (.string a0_3):=(zce BK101.out 3).trans rfl;have hfz67_0:=zfz BK101.out 0;have hfz67_1:=zfz BK101.out 1;have hfz67_2:=zfz BK101.out 2;have hfz67_3:=zfz BK101.out 3))
       go_ret
       exact ⟨by first|rfl|(simp [errW_none,errW_some] <;> rfl)|(simp [*,errW_none,errW_some] <;> rfl),by repeat first|(with_reducible first|exact HB.out|apply zA|apply zN|apply z1|refine zS ?_ GE101.out)|exact HB.out⟩
end Go.Proofs.Ytllkhdhanheieaa.R
namespace Go.Proofs.Ytllkhdhanheieaa.R
open Go.RowKit Go.Proofs.YtllkhdhanheieaaW.PrintWords Go.Proofs.YtllkhdhanheieaaW.PrintLast Go.Proofs.YtllkhdhanheieaaW.PrintMore
attribute [local go_sem] max2_int min2_int max_two min_two max_three min_three max_four min_four
attribute [local go_sem high] own_gtr own_leq own_geq own_cell_set Option.map_some fld23_1
set_option linter.unusedVariables false
set_option linter.unusedSimpArgs false
def federationref1_Ten.l0:Nat → Int → Int → Int → Option (Int)
 | 0,_,_,_=>none
 | k + 1,x0,x3,x4=>if x4 < x0 then (federationref1_Ten.l0 k x0 (wrap64 (10 * x3)) (wrap64 (x4 + 1))) else (some x3)
def federationref1_Ten.f (k:Nat) (a0:Int):Option (Int):=federationref1_Ten.l0 k a0 1 0
set_option maxHeartbeats 8000000 in
set_option maxRecDepth 100000 in
theorem federationref1_Ten.calls (k:Nat) (a0:Int) (r:Int) (w:World) (h:federationref1_Ten.f k a0 = some r) :
  Calls Try.prog 57 #[.int .i64 a0] w fun e w'=>e = .returned (.int .i64 r) ∧ Drawn0 w w':=by
 have H:(federationref1_Ten.l0 k a0 1 0) = some r:=h
 clear h
 have H':=z_ H
 clear H
 go_enter Try.func57,Try.ntmps57
 go_wp2
 go_loopg [3,4] k (fun kq v3 v4 w'=>∃ (x3_1:Int) (x4_1:Int),v3 = .int .i64 x3_1 ∧ v4 = .int .i64 x4_1 ∧ Aside0 (federationref1_Ten.l0 kq a0 x3_1 x4_1 = some r) ∧ Aside0 (kq ≤ k) ∧ Drawn0 w w')
 case atStart=>exact ⟨(1),(0),(by first|rfl|(simp;done)|(simp [*];done)),(by first|rfl|(simp;done)|(simp [*];done)),H',⟨Nat.le_refl _⟩,by repeat (first|exact Drawn0.refl _|apply Drawn0.step)⟩
 case round =>
  clear H'
  obtain ⟨x3_1,x4_1,rfl,rfl,HA,HK1,⟨m1,rfl⟩⟩:=hrel
  cases gk with
  | zero=>exact absurd HA.out (by simp [federationref1_Ten.l0])
  | succ k1 =>
   have H:=HA.out
   clear HA
   simp only [federationref1_Ten.l0] at H
   by_cases c2:x4_1 < a0
   ·rw [if_pos c2] at H
    have c2b0:decide (x4_1 < a0) = true:=decide_eq_true c2
    clear c2
    have H':=z_ H
    clear H
    go_wp2
    go_roundg k1
    case measure=>have:=HK1.out;omega
    case rel=>exact ⟨(wrap64 (10 * x3_1)),(wrap64 (x4_1 + 1)),(by first|rfl|(simp;done)|(simp [*];done)),(by first|rfl|(simp;done)|(simp [*];done)),H',⟨by have:=HK1.out;omega⟩,by repeat (first|exact Drawn0.refl _|apply Drawn0.step)⟩
   ·rw [if_neg c2] at H
    have c2b0:decide (x4_1 < a0) = false:=decide_eq_false c2
    clear c2
    obtain rfl:=Option.some.inj H
    go_wp2
    go_ret
    exact ⟨by first|rfl|(simp;done)|(simp [*];done),by repeat (first|exact Drawn0.refl _|apply Drawn0.step)⟩
end Go.Proofs.Ytllkhdhanheieaa.R
namespace Go.Proofs.Ytllkhdhanheieaa.R
open Go.RowKit Go.Proofs.YtllkhdhanheieaaW.PrintWords Go.Proofs.YtllkhdhanheieaaW.PrintLast Go.Proofs.YtllkhdhanheieaaW.PrintMore
attribute [local go_sem] max2_int min2_int max_two min_two max_three min_three max_four min_four
attribute [local go_sem high] own_gtr own_leq own_geq own_cell_set Option.map_some fld23_1
set_option linter.unusedVariables false
set_option linter.unusedSimpArgs false
def federationref1_Parts.f (k:Nat) (a0_0:Int) (a0_1:Int) (a0_2:Int) (a0_3:ByteArray):Option (Int × Int):=(federationref1_Ten.f k a0_2).bind fun t102=>(if t102 = 0 then (none) else (if (Int.tmod a0_1 t102) < 0 then ((federationref1_Ten.f k (wrap64 (6 - a0_2))).bind fun t103=>(some (wrap64 ((wrap64 (Int.tdiv a0_1 t102)) - 1),wrap64 ((wrap64 (a0_1 - (wrap64 ((wrap64 ((wrap64 (Int.tdiv a0_1 t102)) - 1)) * t102)))) * t103)))) else ((federationref1_Ten.f k (wrap64 (6 - a0_2))).bind fun t104=>(some (wrap64 (Int.tdiv a0_1 t102),wrap64 ((wrap64 (a0_1 - (wrap64 ((wrap64 (Int.tdiv a0_1 t102)) * t102)))) * t104))))))
set_option maxHeartbeats 8000000 in
set_option maxRecDepth 100000 in
theorem federationref1_Parts.calls (k:Nat) (a0_0:Int) (a0_1:Int) (a0_2:Int) (a0_3:ByteArray) (r1:Int) (r2:Int) (w:World) (h:federationref1_Parts.f k a0_0 a0_1 a0_2 a0_3 = some (r1,r2)) :
  Calls Try.prog 47 #[.agg #[.int .i64 a0_0, .int .i64 a0_1, .int .i64 a0_2, .string a0_3]] w fun e w'=>e = .returned (.tuple #[.int .i64 r1, .int .i64 r2]) ∧ Below w.heap.size w w':=by
 have hu23:=Try.underlying23
 have HB:=z_ (Below.refl w.heap.size w)
 have H:((federationref1_Ten.f k a0_2).bind fun t102=>(if t102 = 0 then (none) else (if (Int.tmod a0_1 t102) < 0 then ((federationref1_Ten.f k (wrap64 (6 - a0_2))).bind fun t103=>(some (wrap64 ((wrap64 (Int.tdiv a0_1 t102)) - 1),wrap64 ((wrap64 (a0_1 - (wrap64 ((wrap64 ((wrap64 (Int.tdiv a0_1 t102)) - 1)) * t102)))) * t103)))) else ((federationref1_Ten.f k (wrap64 (6 - a0_2))).bind fun t104=>(some (wrap64 (Int.tdiv a0_1 t102),wrap64 ((wrap64 (a0_1 - (wrap64 ((wrap64 (Int.tdiv a0_1 t102)) * t102)))) * t104))))))) = some (r1,r2):=h
 clear h
 replace H:=Option.bind_eq_some_iff.mp H
 obtain ⟨t102,A20,H⟩:=H
 replace H:(if t102 = 0 then (none) else (if (Int.tmod a0_1 t102) < 0 then ((federationref1_Ten.f k (wrap64 (6 - a0_2))).bind fun t103=>(some (wrap64 ((wrap64 (Int.tdiv a0_1 t102)) - 1),wrap64 ((wrap64 (a0_1 - (wrap64 ((wrap64 ((wrap64 (Int.tdiv a0_1 t102)) - 1)) * t102)))) * t103)))) else ((federationref1_Ten.f k (wrap64 (6 - a0_2))).bind fun t104=>(some (wrap64 (Int.tdiv a0_1 t102),wrap64 ((wrap64 (a0_1 - (wrap64 ((wrap64 (Int.tdiv a0_1 t102)) * t102)))) * t104)))))) = some (r1,r2):=H
 have A2:=z_ A20
 clear A20
 by_cases c3:t102 = 0
 ·rw [if_pos c3] at H
  exact absurd H (by simp)
 ·rw [if_neg c3] at H
  have c3b0:(t102 == 0) = false:=beq_eq_false_iff_ne.mpr c3
  have c3b1:(t102 != 0) = true:=bne_iff_ne.mpr c3
  by_cases c4:(Int.tmod a0_1 t102) < 0
  ·rw [if_pos c4] at H
   have c4b0:decide ((Int.tmod a0_1 t102) < 0) = true:=decide_eq_true c4
   clear c4
   replace H:=Option.bind_eq_some_iff.mp H
   obtain ⟨t103,A50,H⟩:=H
   replace H:(some (wrap64 ((wrap64 (Int.tdiv a0_1 t102)) - 1),wrap64 ((wrap64 (a0_1 - (wrap64 ((wrap64 ((wrap64 (Int.tdiv a0_1 t102)) - 1)) * t102)))) * t103))) = some (r1,r2):=H
   have A5:=z_ A50
   clear A50
   simp only [Option.some.injEq,Prod.mk.injEq] at H
   obtain ⟨rfl,rfl⟩:=H
   go_enter Try.func47,Try.ntmps47
   go_wp2_with (first|((with_reducible refine gate_dst (N:=1) rfl ?_);refine box_event ?hg (N:=1) ?hd (cs:=#[.int .i64 a0_0, .int .i64 a0_1, .int .i64 a0_2, .string a0_3]) (t:=23) ?hr ?_;(case hd=>rfl);(case hg=>rfl);(case hr=>first|(go_simp;done)|(go_simp;rfl));intro gb101 hg w6 hbox hb;have n0_:=z_ (below_step (by repeat first|(with_reducible first|exact HB.out|apply zA|apply zN|apply z1)|exact HB.out) hb);have n1_:=z_ (hbox);have n2_:=z_ ((by rw [hg];exact (zBs (by repeat first|(with_reducible first|exact HB.out|apply zA|apply zN|apply z1)|exact HB.out)):w.heap.size ≤ gb101));have n3_:=z_ ((by rw [hg];exact (zBs (by repeat first|(with_reducible first|exact HB.out|apply zA|apply zN|apply z1)|exact HB.out)):w.heap.size ≤ gb101));clear HB;have HB:=n0_;have BK101:=n1_;have GW101:=n2_;have GE101:=n3_;clear n0_ n1_ n2_ n3_;clear hb hbox hg;have hcz7_0:w6.cell? ⟨gb101,0,none⟩ = some (.int .i64 a0_0):=(zce BK101.out 0).trans rfl;have hcz7_1:w6.cell? ⟨gb101,1,none⟩ = some (.int .i64 a0_1):=(zce BK101.out 1).trans rfl;have hcz7_2:w6.cell? ⟨gb101,2,none⟩ = some (.int .i64 a0_2):=(zce BK101.out 2).trans rfl;have hcz7_3:w6.cell? ⟨gb101,3,none⟩ = some (.string a0_3):=(zce BK101.out 3).trans rfl;have hfz7_0:=zfz BK101.out 0;have hfz7_1:=zfz BK101.out 1;have hfz7_2:=zfz BK101.out 2;have hfz7_3:=zfz BK101.out 3)|(go_at_call 57;(with_reducible refine (federationref1_Ten.calls k a0_2 t102 _ A2.out).mono ?_);rintro e w' ⟨rfl,⟨nd,rfl⟩⟩;(try first|exact ⟨rfl,_,World.drewN_drewN _ _ _⟩|exact ⟨rfl,_,Eq.trans (World.drewN_drewN _ _ _) (congrArg (World.drewN _) (Nat.add_assoc _ _ _))⟩))|(go_at_call 57;(with_reducible refine (federationref1_Ten.calls k (wrap64 (6 - a0_2)) t103 _ A5.out).mono ?_);rintro e w' ⟨rfl,⟨nd,rfl⟩⟩;(try first|exact ⟨rfl,_,World.drewN_drewN _ _ _⟩|exact ⟨rfl,_,Eq.trans (World.drewN_drewN _ _ _) (congrArg (World.drewN _) (Nat.add_assoc _ _ _))⟩)))
   repeat (go_quiet (first|((with_reducible refine gate_dst (N:=1) rfl ?_);refine box_event ?hg (N:=1) ?hd (cs:=#[.int .i64 a0_0, .int .i64 a0_1, .int .i64 a0_2, .string a0_3]) (t:=23) ?hr ?_;(case hd=>rfl);(case hg=>rfl);(case hr=>first|(go_simp;done)|(go_simp;rfl));intro gb101 hg w6 hbox hb;have n0_:=z_ (below_step (by repeat first|(with_reducible first|exact HB.out|apply zA|apply zN|apply z1)|exact HB.out) hb);have n1_:=z_ (hbox);have n2_:=z_ ((by rw [hg];exact (zBs (by repeat first|(with_reducible first|exact HB.out|apply zA|apply zN|apply z1)|exact HB.out)):w.heap.size ≤ gb101));have n3_:=z_ ((by rw [hg];exact (zBs (by repeat first|(with_reducible first|exact HB.out|apply zA|apply zN|apply z1)|exact HB.out)):w.heap.size ≤ gb101));clear HB;have HB:=n0_;have BK101:=n1_;have GW101:=n2_;have GE101:=n3_;clear n0_ n1_ n2_ n3_;clear hb hbox hg;have hcz7_0:w6.cell? ⟨gb101,0,none⟩ = some (.int .i64 a0_0):=(zce BK101.out 0).trans rfl;have hcz7_1:w6.cell? ⟨gb101,1,none⟩ = some (.int .i64 a0_1):=(zce BK101.out 1).trans rfl;have hcz7_2:w6.cell? ⟨gb101,2,none⟩ = some (.int .i64 a0_2):=(zce BK101.out 2).trans rfl;have hcz7_3:w6.cell? ⟨gb101,3,none⟩ = some (.string a0_3):=(zce BK101.out 3).trans rfl;have hfz7_0:=zfz BK101.out 0;have hfz7_1:=zfz BK101.out 1;have hfz7_2:=zfz BK101.out 2;have hfz7_3:=zfz BK101.out 3)|(go_at_call 57;(with_reducible refine (federationref1_Ten.calls k a0_2 t102 _ A2.out).mono ?_);rintro e w' ⟨rfl,⟨nd,rfl⟩⟩;(try first|exact ⟨rfl,_,World.drewN_drewN _ _ _⟩|exact ⟨rfl,_,Eq.trans (World.drewN_drewN _ _ _) (congrArg (World.drewN _) (Nat.add_assoc _ _ _))⟩))|(go_at_call 57;(with_reducible refine (federationref1_Ten.calls k (wrap64 (6 - a0_2)) t103 _ A5.out).mono ?_);rintro e w' ⟨rfl,⟨nd,rfl⟩⟩;(try first|exact ⟨rfl,_,World.drewN_drewN _ _ _⟩|exact ⟨rfl,_,Eq.trans (World.drewN_drewN _ _ _) (congrArg (World.drewN _) (Nat.add_assoc _ _ _))⟩)));try go_wp2_with (first|((with_reducible refine gate_dst (N:=1) rfl ?_);refine box_event ?hg (N:=1) ?hd (cs:=#[.int .i64 a0_0, .int .i64 a0_1, .int .i64 a0_2, .string a0_3]) (t:=23) ?hr ?_;(case hd=>rfl);(case hg=>rfl);(case hr=>first|(go_simp;done)|(go_simp;rfl));intro gb101 hg w6 hbox hb;have n0_:=z_ (below_step (by repeat first|(with_reducible first|exact HB.out|apply zA|apply zN|apply z1)|exact HB.out) hb);have n1_:=z_ (hbox);have n2_:=z_ ((by rw [hg];exact (zBs (by repeat first|(with_reducible first|exact HB.out|apply zA|apply zN|apply z1)|exact HB.out)):w.heap.size ≤ gb101));have n3_:=z_ ((by rw [hg];exact (zBs (by repeat first|(with_reducible first|exact HB.out|apply zA|apply zN|apply z1)|exact HB.out)):w.heap.size ≤ gb101));clear HB;have HB:=n0_;have BK101:=n1_;have GW101:=n2_;have GE101:=n3_;clear n0_ n1_ n2_ n3_;clear hb hbox hg;have hcz7_0:w6.cell? ⟨gb101,0,none⟩ = some (.int .i64 a0_0):=(zce BK101.out 0).trans rfl;have hcz7_1:w6.cell? ⟨gb101,1,none⟩ = some (.int .i64 a0_1):=(zce BK101.out 1).trans rfl;have hcz7_2:w6.cell? ⟨gb101,2,none⟩ = some (.int .i64 a0_2):=(zce BK101.out 2).trans rfl;have hcz7_3:w6.cell? ⟨gb101,3,none⟩ = some (.string a0_3):=(zce BK101.out 3).trans rfl;have hfz7_0:=zfz BK101.out 0;have hfz7_1:=zfz BK101.out 1;have hfz7_2:=zfz BK101.out 2;have hfz7_3:=zfz BK101.out 3)|(go_at_call 57;(with_reducible refine (federationref1_Ten.calls k a0_2 t102 _ A2.out).mono ?_);rintro e w' ⟨rfl,⟨nd,rfl⟩⟩;(try first|exact ⟨rfl,_,World.drewN_drewN _ _ _⟩|exact ⟨rfl,_,Eq.trans (World.drewN_drewN _ _ _) (congrArg (World.drewN _) (Nat.add_assoc _ _ _))⟩))|(go_at_call 57;(with_reducible refine (federationref1_Ten.calls k (wrap64 (6 - a0_2)) t103 _ A5.out).mono ?_);rintro e w' ⟨rfl,⟨nd,rfl⟩⟩;(try first|exact ⟨rfl,_,World.drewN_drewN _ _ _⟩|exact ⟨rfl,_,Eq.trans (World.drewN_drewN _ _ _) (congrArg (World.drewN _) (Nat.add_assoc _ _ _))⟩))))
   go_ret2
   exact ⟨by first|rfl|(simp [errW_none,errW_some] <;> rfl)|(simp [*,errW_none,errW_some] <;> rfl),by repeat first|(with_reducible first|exact HB.out|apply zA|apply zN|apply z1|refine zS ?_ GE101.out)|exact HB.out⟩
  ·rw [if_neg c4] at H
   have c4b0:decide ((Int.tmod a0_1 t102) < 0) = false:=decide_eq_false c4
   clear c4
   replace H:=Option.bind_eq_some_iff.mp H
   obtain ⟨t104,A80,H⟩:=H
   replace H:(some (wrap64 (Int.tdiv a0_1 t102),wrap64 ((wrap64 (a0_1 - (wrap64 ((wrap64 (Int.tdiv a0_1 t102)) * t102)))) * t104))) = some (r1,r2):=H
   have A8:=z_ A80
   clear A80
   simp only [Option.some.injEq,Prod.mk.injEq] at H
   obtain ⟨rfl,rfl⟩:=H
   go_enter Try.func47,Try.ntmps47
   go_wp2_with (first|((with_reducible refine gate_dst (N:=1) rfl ?_);refine box_event ?hg (N:=1) ?hd (cs:=#[.int .i64 a0_0, .int .i64 a0_1, .int .i64 a0_2, .string a0_3]) (t:=23) ?hr ?_;(case hd=>rfl);(case hg=>rfl);(case hr=>first|(go_simp;done)|(go_simp;rfl));intro gb101 hg w9 hbox hb;have n0_:=z_ (below_step (by repeat first|(with_reducible first|exact HB.out|apply zA|apply zN|apply z1)|exact HB.out) hb);have n1_:=z_ (hbox);have n2_:=z_ ((by rw [hg];exact (zBs (by repeat first|(with_reducible first|exact HB.out|apply zA|apply zN|apply z1)|exact HB.out)):w.heap.size ≤ gb101));have n3_:=z_ ((by rw [hg];exact (zBs (by repeat first|(with_reducible first|exact HB.out|apply zA|apply zN|apply z1)|exact HB.out)):w.heap.size ≤ gb101));clear HB;have HB:=n0_;have BK101:=n1_;have GW101:=n2_;have GE101:=n3_;clear n0_ n1_ n2_ n3_;clear hb hbox hg;have hcz10_0:w9.cell? ⟨gb101,0,none⟩ = some (.int .i64 a0_0):=(zce BK101.out 0).trans rfl;have hcz10_1:w9.cell? ⟨gb101,1,none⟩ = some (.int .i64 a0_1):=(zce BK101.out 1).trans rfl;have hcz10_2:w9.cell? ⟨gb101,2,none⟩ = some (.int .i64 a0_2):=(zce BK101.out 2).trans rfl;have hcz10_3:w9.cell? ⟨gb101,3,none⟩ = some (.string a0_3):=(zce BK101.out 3).trans rfl;have hfz10_0:=zfz BK101.out 0;have hfz10_1:=zfz BK101.out 1;have hfz10_2:=zfz BK101.out 2;have hfz10_3:=zfz BK101.out 3)|(go_at_call 57;(with_reducible refine (federationref1_Ten.calls k a0_2 t102 _ A2.out).mono ?_);rintro e w' ⟨rfl,⟨nd,rfl⟩⟩;(try first|exact ⟨rfl,_,World.drewN_drewN _ _ _⟩|exact ⟨rfl,_,Eq.trans (World.drewN_drewN _ _ _) (congrArg (World.drewN _) (Nat.add_assoc _ _ _))⟩))|(go_at_call 57;(with_reducible refine (federationref1_Ten.calls k (wrap64 (6 - a0_2)) t104 _ A8.out).mono ?_);rintro e w' ⟨rfl,⟨nd,rfl⟩⟩;(try first|exact ⟨rfl,_,World.drewN_drewN _ _ _⟩|exact ⟨rfl,_,Eq.trans (World.drewN_drewN _ _ _) (congrArg (World.drewN _) (Nat.add_assoc _ _ _))⟩)))
   repeat (go_quiet (first|((with_reducible refine gate_dst (N:=1) rfl ?_);refine box_event ?hg (N:=1) ?hd (cs:=#[.int .i64 a0_0, .int .i64 a0_1, .int .i64 a0_2, .string a0_3]) (t:=23) ?hr ?_;(case hd=>rfl);(case hg=>rfl);(case hr=>first|(go_simp;done)|(go_simp;rfl));intro gb101 hg w9 hbox hb;have n0_:=z_ (below_step (by repeat first|(with_reducible first|exact HB.out|apply zA|apply zN|apply z1)|exact HB.out) hb);have n1_:=z_ (hbox);have n2_:=z_ ((by rw [hg];exact (zBs (by repeat first|(with_reducible first|exact HB.out|apply zA|apply zN|apply z1)|exact HB.out)):w.heap.size ≤ gb101));have n3_:=z_ ((by rw [hg];exact (zBs (by repeat first|(with_reducible first|exact HB.out|apply zA|apply zN|apply z1)|exact HB.out)):w.heap.size ≤ gb101));clear HB;have HB:=n0_;have BK101:=n1_;have GW101:=n2_;have GE101:=n3_;clear n0_ n1_ n2_ n3_;clear hb hbox hg;have hcz10_0:w9.cell? ⟨gb101,0,none⟩ = some (.int .i64 a0_0):=(zce BK101.out 0).trans rfl;have hcz10_1:w9.cell? ⟨gb101,1,none⟩ = some (.int .i64 a0_1):=(zce BK101.out 1).trans rfl;have hcz10_2:w9.cell? ⟨gb101,2,none⟩ = some (.int .i64 a0_2):=(zce BK101.out 2).trans rfl;have hcz10_3:w9.cell? ⟨gb101,3,none⟩ = some (.string a0_3):=(zce BK101.out 3).trans rfl;have hfz10_0:=zfz BK101.out 0;have hfz10_1:=zfz BK101.out 1;have hfz10_2:=zfz BK101.out 2;have hfz10_3:=zfz BK101.out 3)|(go_at_call 57;(with_reducible refine (federationref1_Ten.calls k a0_2 t102 _ A2.out).mono ?_);rintro e w' ⟨rfl,⟨nd,rfl⟩⟩;(try first|exact ⟨rfl,_,World.drewN_drewN _ _ _⟩|exact ⟨rfl,_,Eq.trans (World.drewN_drewN _ _ _) (congrArg (World.drewN _) (Nat.add_assoc _ _ _))⟩))|(go_at_call 57;(with_reducible refine (federationref1_Ten.calls k (wrap64 (6 - a0_2)) t104 _ A8.out).mono ?_);rintro e w' ⟨rfl,⟨nd,rfl⟩⟩;(try first|exact ⟨rfl,_,World.drewN_drewN _ _ _⟩|exact ⟨rfl,_,Eq.trans (World.drewN_drewN _ _ _) (congrArg (World.drewN _) (Nat.add_assoc _ _ _))⟩)));try go_wp2_with (first|((with_reducible refine gate_dst (N:=1) rfl ?_);refine box_event ?hg (N:=1) ?hd (cs:=#[.int .i64 a0_0, .int .i64 a0_1, .int .i64 a0_2, .string a0_3]) (t:=23) ?hr ?_;(case hd=>rfl);(case hg=>rfl);(case hr=>first|(go_simp;done)|(go_simp;rfl));intro gb101 hg w9 hbox hb;have n0_:=z_ (below_step (by repeat first|(with_reducible first|exact HB.out|apply zA|apply zN|apply z1)|exact HB.out) hb);have n1_:=z_ (hbox);have n2_:=z_ ((by rw [hg];exact (zBs (by repeat first|(with_reducible first|exact HB.out|apply zA|apply zN|apply z1)|exact HB.out)):w.heap.size ≤ gb101));have n3_:=z_ ((by rw [hg];exact (zBs (by repeat first|(with_reducible first|exact HB.out|apply zA|apply zN|apply z1)|exact HB.out)):w.heap.size ≤ gb101));clear HB;have HB:=n0_;have BK101:=n1_;have GW101:=n2_;have GE101:=n3_;clear n0_ n1_ n2_ n3_;clear hb hbox hg;have hcz10_0:w9.cell? ⟨gb101,0,none⟩ = some (.int .i64 a0_0):=(zce BK101.out 0).trans rfl;have hcz10_1:w9.cell? ⟨gb101,1,none⟩ = some (.int .i64 a0_1):=(zce BK101.out 1).trans rfl;have hcz10_2:w9.cell? ⟨gb101,2,none⟩ = some (.int .i64 a0_2):=(zce BK101.out 2).trans rfl;have hcz10_3:w9.cell? ⟨gb101,3,none⟩ = some (.string a0_3):=(zce BK101.out 3).trans rfl;have hfz10_0:=zfz BK101.out 0;have hfz10_1:=zfz BK101.out 1;have hfz10_2:=zfz BK101.out 2;have hfz10_3:=zfz BK101.out 3)|(go_at_call 57;(with_reducible refine (federationref1_Ten.calls k a0_2 t102 _ A2.out).mono ?_);rintro e w' ⟨rfl,⟨nd,rfl⟩⟩;(try first|exact ⟨rfl,_,World.drewN_drewN _ _ _⟩|exact ⟨rfl,_,Eq.trans (World.drewN_drewN _ _ _) (congrArg (World.drewN _) (Nat.add_assoc _ _ _))⟩))|(go_at_call 57;(with_reducible refine (federationref1_Ten.calls k (wrap64 (6 - a0_2)) t104 _ A8.out).mono ?_);rintro e w' ⟨rfl,⟨nd,rfl⟩⟩;(try first|exact ⟨rfl,_,World.drewN_drewN _ _ _⟩|exact ⟨rfl,_,Eq.trans (World.drewN_drewN _ _ _) (congrArg (World.drewN _) (Nat.add_assoc _ _ _))⟩))))
   go_ret2
   exact ⟨by first|rfl|(simp [errW_none,errW_some] <;> rfl)|(simp [*,errW_none,errW_some] <;> rfl),by repeat first|(with_reducible first|exact HB.out|apply zA|apply zN|apply z1|refine zS ?_ GE101.out)|exact HB.out⟩
end Go.Proofs.Ytllkhdhanheieaa.R
