-- Written by drive.py and pack.py (programs of this proof's own) through the kit's printer; not trusted: Lean checks it.
import Derived.Test.YtdlkibeljkapeaaGreatDoorCSqlExprs6
import Derived.Test.YtdlkibeljkapeaaGreatDoorCSqlExprs8
namespace Go.Proofs.YtdlkibeljkapeaaGreatDoor.B
open Go.RowKit Go.Proofs.YtdlkibeljkapeaaGreatDoorW.PrintWords Go.Proofs.YtdlkibeljkapeaaGreatDoorW.PrintLast Go.Proofs.YtdlkibeljkapeaaGreatDoorW.PrintMore
attribute [local go_sem] max2_int min2_int max_two min_two max_three min_three max_four min_four
attribute [local go_sem high] own_gtr own_leq own_geq own_cell_set Option.map_some
set_option linter.unusedVariables false
set_option linter.unusedSimpArgs false
attribute [local go_sem high] eqA28
def val_Right.j0:Nat → Bool → Int → Int → Int → ByteArray → Int → Int → Int → ByteArray → Option (Bool)
 | 0,_,_,_,_,_,_,_,_,_=>none
 | k + 1,x52,x102000,x102001,x102002,x102003,x103000,x103001,x103002,x103003=>if x52 = true then (if (x102003.size:Int) > 40 then (some false) else (if x102000 = 4 then ((val_printable.f k x102003).bind fun t103=>(if t103 = true then (some (x102000 == x103000 && (x102001 == x103001 && (x102002 == x103002)))) else (some false))) else (some (x102000 == x103000 && (x102001 == x103001 && (x102002 == x103002)))))) else (some false)
def val_Right.f (k:Nat) (a0_0:Int) (a0_1:Int) (a0_2:Int) (a0_3:ByteArray):Option (Bool):=if a0_0 = 0 then (some (a0_1 == 0 && (a0_2 == 0 && (a0_3.toList == ([]:List UInt8))))) else (if a0_0 = 1 then (some (a0_1 == (mn (mx a0_1 0) 1) && (a0_2 == 0 && (a0_3.toList == ([]:List UInt8))))) else (if a0_0 = 2 then (some (a0_2 == 0 && (a0_3.toList == ([]:List UInt8)))) else (if a0_0 = 3 then (if a0_1 ≤ (-1000000000000000) then (some false) else (if a0_1 ≥ 1000000000000000 then (some false) else (if a0_2 > 0 then (if (Int.tmod a0_1 10) = 0 then (some false) else (some (a0_2 == (mn (mx a0_2 0) 6) && (a0_3.toList == ([]:List UInt8))))) else (some (a0_2 == (mn (mx a0_2 0) 6) && (a0_3.toList == ([]:List UInt8))))))) else (if a0_0 = 4 then (val_Right.j0 k (a0_0 == 4) a0_0 a0_1 a0_2 a0_3 a0_0 0 0 (⟨#[]⟩:ByteArray)) else (val_Right.j0 k (a0_0 == 5) a0_0 a0_1 a0_2 a0_3 a0_0 0 0 (⟨#[]⟩:ByteArray))))))
def val_Right.T10:Bool × List (List Nat × List Nat):=(true,[([],[]),([0],[0]),([],[]),([2],[2]),([3],[3]),([4],[4]),([0,1],[]),([6,1,0,1],[1,6]),([0,1,2,3,4,5,6,7],[]),([8,5,7,0,1,2,3,4,5,6,7],[5,8])])
def val_Right.B10:List Nat:=[0,1,0,4,12,28,3,67,255,511]
theorem val_Right.tab10:rtab .any (opsOf Tryz.f142 10) = val_Right.T10:=by kernel_rfl
theorem val_Right.bits10:waitsOk val_Right.T10.2 val_Right.B10 = true:=by kernel_rfl
set_option maxHeartbeats 8000000 in
set_option maxRecDepth 100000 in
theorem val_Right.calls (k:Nat) (a0_0:Int) (a0_1:Int) (a0_2:Int) (a0_3:ByteArray) (r:Bool) (w:World) (h:val_Right.f k a0_0 a0_1 a0_2 a0_3 = some r) :
  Calls Tryz.prog 142 #[.agg #[.int .i64 a0_0, .int .i64 a0_1, .int .i64 a0_2, .string a0_3]] w fun e w'=>e = .returned (.bool r) ∧ Below w.heap.size w w':=by
 have hu28:=Tryz.underlying28
 have HB:=z_ (Below.refl w.heap.size w)
 have H:(if a0_0 = 0 then (some (a0_1 == 0 && (a0_2 == 0 && (a0_3.toList == ([]:List UInt8))))) else (if a0_0 = 1 then (some (a0_1 == (mn (mx a0_1 0) 1) && (a0_2 == 0 && (a0_3.toList == ([]:List UInt8))))) else (if a0_0 = 2 then (some (a0_2 == 0 && (a0_3.toList == ([]:List UInt8)))) else (if a0_0 = 3 then (if a0_1 ≤ (-1000000000000000) then (some false) else (if a0_1 ≥ 1000000000000000 then (some false) else (if a0_2 > 0 then (if (Int.tmod a0_1 10) = 0 then (some false) else (some (a0_2 == (mn (mx a0_2 0) 6) && (a0_3.toList == ([]:List UInt8))))) else (some (a0_2 == (mn (mx a0_2 0) 6) && (a0_3.toList == ([]:List UInt8))))))) else (if a0_0 = 4 then (val_Right.j0 k (a0_0 == 4) a0_0 a0_1 a0_2 a0_3 a0_0 0 0 (⟨#[]⟩:ByteArray)) else (val_Right.j0 k (a0_0 == 5) a0_0 a0_1 a0_2 a0_3 a0_0 0 0 (⟨#[]⟩:ByteArray))))))) = some r:=h
 clear h
 by_cases c2:a0_0 = 0
 ·rw [if_pos c2] at H
  have c2b0:(a0_0 == 0) = true:=beq_iff_eq.mpr c2
  have c2b1:(a0_0 != 0) = false:=bne_eq_false_iff_eq.mpr c2
  clear c2
  obtain rfl:=Option.some.inj H
  go_enter Tryz.func142,Tryz.ntmps142
  go_wp2_with (first|((with_reducible refine gate_dst (N:=1) rfl ?_);refine box_event ?hg (N:=1) ?hd (cs:=#[.int .i64 a0_0, .int .i64 a0_1, .int .i64 a0_2, .string a0_3]) (t:=28) ?hr ?_;(case hd=>rfl);(case hg=>rfl);(case hr=>first|(go_simp;done)|(go_simp;rfl));intro gb101 hg w3 hbox hb;have n0_:=z_ (below_step (by repeat first|(with_reducible first|exact HB.out|apply zA|apply zN|apply z1)|exact HB.out) hb);have n1_:=z_ (hbox);have n2_:=z_ ((by rw [hg];exact (zBs (by repeat first|(with_reducible first|exact HB.out|apply zA|apply zN|apply z1)|exact HB.out)):w.heap.size ≤ gb101));have n3_:=z_ ((by rw [hg];exact (zBs (by repeat first|(with_reducible first|exact HB.out|apply zA|apply zN|apply z1)|exact HB.out)):w.heap.size ≤ gb101));clear HB;have HB:=n0_;have BK101:=n1_;have GW101:=n2_;have GE101:=n3_;clear n0_ n1_ n2_ n3_;clear hb hbox hg;have hcz4_0:w3.cell? ⟨gb101,0,none⟩ = some (.int .i64 a0_0):=(zce BK101.out 0).trans rfl;have hcz4_1:w3.cell? ⟨gb101,1,none⟩ = some (.int .i64 a0_1):=(zce BK101.out 1).trans rfl;have hcz4_2:w3.cell? ⟨gb101,2,none⟩ = some (.int .i64 a0_2):=(zce BK101.out 2).trans rfl;have hcz4_3:w3.cell? ⟨gb101,3,none⟩ = some (.string a0_3):=(zce BK101.out 3).trans rfl;have hfz4_0:=zfz BK101.out 0;have hfz4_1:=zfz BK101.out 1;have hfz4_2:=zfz BK101.out 2;have hfz4_3:=zfz BK101.out 3)|((with_reducible refine gate_dst (N:=3) rfl ?_);refine box_event ?hg (N:=3) ?hd (cs:=#[.int .i64 0, .int .i64 0, .int .i64 0, .string (⟨#[]⟩:ByteArray)]) (t:=28) ?hr ?_;(case hd=>rfl);(case hg=>rfl);(case hr=>first|(go_simp;done)|(go_simp;rfl));intro gb102 hg w5 hbox hb;have n0_:=z_ (zbb (g:=gb101) (o:=.cells #[.int .i64 a0_0, .int .i64 a0_1, .int .i64 a0_2, .string a0_3] 28 (0,0)) (by (with_reducible repeat first|apply zbN|apply zb1|apply zbA);exact BK101.out) hb);have n1_:=z_ (below_step (by repeat first|(with_reducible first|exact HB.out|apply zA|apply zN|apply z1|refine zS ?_ GE101.out)|exact HB.out) hb);have n2_:=z_ (hbox);have n3_:=z_ ((by rw [hg];exact (zBs (by repeat first|(with_reducible first|exact HB.out|apply zA|apply zN|apply z1|refine zS ?_ GE101.out)|exact HB.out)):w.heap.size ≤ gb102));have n4_:=z_ ((by rw [hg];exact (zBs (by repeat first|(with_reducible first|exact HB.out|apply zA|apply zN|apply z1|refine zS ?_ GE101.out)|exact HB.out)):w.heap.size ≤ gb102));have n5_:=z_ ((by rw [hg];exact Nat.ne_of_lt (blk_lt (g:=gb101) (o:=.cells #[.int .i64 a0_0, .int .i64 a0_1, .int .i64 a0_2, .string a0_3] 28 (0,0)) (by (with_reducible repeat first|apply zbN|apply zb1|apply zbA);exact BK101.out)):gb101 ≠ gb102));have n6_:=z_ ((by rw [hg];exact Nat.ne_of_gt (blk_lt (g:=gb101) (o:=.cells #[.int .i64 a0_0, .int .i64 a0_1, .int .i64 a0_2, .string a0_3] 28 (0,0)) (by (with_reducible repeat first|apply zbN|apply zb1|apply zbA);exact BK101.out)):gb102 ≠ gb101));clear BK101;clear HB;have BK101:=n0_;have HB:=n1_;have BK102:=n2_;have GW102:=n3_;have GE102:=n4_;have NB101_102:=n5_;have NB102_101:=n6_;clear n0_ n1_ n2_ n3_ n4_ n5_ n6_;clear hb hbox hg;have hnb6:=NB102_101.out;have hnc6:=NB101_102.out;have hcz7_0:w5.cell? ⟨gb102,0,none⟩ = some (.int .i64 0):=(zce BK102.out 0).trans rfl;have hcz7_1:w5.cell? ⟨gb102,1,none⟩ = some (.int .i64 0):=(zce BK102.out 1).trans rfl;have hcz7_2:w5.cell? ⟨gb102,2,none⟩ = some (.int .i64 0):=(zce BK102.out 2).trans rfl;have hcz7_3:w5.cell? ⟨gb102,3,none⟩ = some (.string (⟨#[]⟩:ByteArray)):=(zce BK102.out 3).trans rfl;have hfz7_0:=zfz BK102.out 0;have hfz7_1:=zfz BK102.out 1;have hfz7_2:=zfz BK102.out 2;have hfz7_3:=zfz BK102.out 3;have hcz8_0:w5.cell? ⟨gb101,0,none⟩ = some (.int .i64 a0_0):=(zce BK101.out 0).trans rfl;have hcz8_1:w5.cell? ⟨gb101,1,none⟩ = some (.int .i64 a0_1):=(zce BK101.out 1).trans rfl;have hcz8_2:w5.cell? ⟨gb101,2,none⟩ = some (.int .i64 a0_2):=(zce BK101.out 2).trans rfl;have hcz8_3:w5.cell? ⟨gb101,3,none⟩ = some (.string a0_3):=(zce BK101.out 3).trans rfl;have hfz8_0:=zfz BK101.out 0;have hfz8_1:=zfz BK101.out 1;have hfz8_2:=zfz BK101.out 2;have hfz8_3:=zfz BK101.out 3))
  go_ret
  exact ⟨by first|rfl|(simp [errW_none,errW_some] <;> rfl)|(simp [*,errW_none,errW_some] <;> rfl),by repeat first|(with_reducible first|exact HB.out|apply zA|apply zN|apply z1|refine zS ?_ GE101.out|refine zS ?_ GE102.out)|exact HB.out⟩
 ·rw [if_neg c2] at H
  have c2b0:(a0_0 == 0) = false:=beq_eq_false_iff_ne.mpr c2
  have c2b1:(a0_0 != 0) = true:=bne_iff_ne.mpr c2
  by_cases c9:a0_0 = 1
  ·rw [if_pos c9] at H
   have c9b0:(a0_0 == 1) = true:=beq_iff_eq.mpr c9
   have c9b1:(a0_0 != 1) = false:=bne_eq_false_iff_eq.mpr c9
   clear c9
   obtain ⟨ji10,hji10⟩:∃ j_:Int,(mx a0_1 0) = j_:=⟨_,rfl⟩
   replace H:(some (a0_1 == (mn (ji10) 1) && (a0_2 == 0 && (a0_3.toList == ([]:List UInt8))))) = some r:=by first|(rw [hji10] at H;exact H)|(simp only [hji10] at H ⊢;exact H)
   (try (have hji10l:0 ≤ ji10:=by (rw [← hji10];unfold mx;(repeat' split) <;> omega)))
   (try (have hji10m:0 ≤ ji10:=by omega))
   have hji10_:(if a0_1 < 0 then 0 else a0_1) = ji10:=hji10
   obtain ⟨ji11,hji11⟩:∃ j_:Int,(mn (ji10) 1) = j_:=⟨_,rfl⟩
   replace H:(some (a0_1 == (ji11) && (a0_2 == 0 && (a0_3.toList == ([]:List UInt8))))) = some r:=by first|(rw [hji11] at H;exact H)|(simp only [hji11] at H ⊢;exact H)
   have hji11_:(if 1 < (ji10) then 1 else (ji10)) = ji11:=hji11
   obtain rfl:=Option.some.inj H
   go_enter Tryz.func142,Tryz.ntmps142
   go_wp2_with (first|((with_reducible refine gate_dst (N:=1) rfl ?_);refine box_event ?hg (N:=1) ?hd (cs:=#[.int .i64 a0_0, .int .i64 a0_1, .int .i64 a0_2, .string a0_3]) (t:=28) ?hr ?_;(case hd=>rfl);(case hg=>rfl);(case hr=>first|(go_simp;done)|(go_simp;rfl));intro gb101 hg w12 hbox hb;have n0_:=z_ (below_step (by repeat first|(with_reducible first|exact HB.out|apply zA|apply zN|apply z1)|exact HB.out) hb);have n1_:=z_ (hbox);have n2_:=z_ ((by rw [hg];exact (zBs (by repeat first|(with_reducible first|exact HB.out|apply zA|apply zN|apply z1)|exact HB.out)):w.heap.size ≤ gb101));have n3_:=z_ ((by rw [hg];exact (zBs (by repeat first|(with_reducible first|exact HB.out|apply zA|apply zN|apply z1)|exact HB.out)):w.heap.size ≤ gb101));clear HB;have HB:=n0_;have BK101:=n1_;have GW101:=n2_;have GE101:=n3_;clear n0_ n1_ n2_ n3_;clear hb hbox hg;have hcz13_0:w12.cell? ⟨gb101,0,none⟩ = some (.int .i64 a0_0):=(zce BK101.out 0).trans rfl;have hcz13_1:w12.cell? ⟨gb101,1,none⟩ = some (.int .i64 a0_1):=(zce BK101.out 1).trans rfl;have hcz13_2:w12.cell? ⟨gb101,2,none⟩ = some (.int .i64 a0_2):=(zce BK101.out 2).trans rfl;have hcz13_3:w12.cell? ⟨gb101,3,none⟩ = some (.string a0_3):=(zce BK101.out 3).trans rfl;have hfz13_0:=zfz BK101.out 0;have hfz13_1:=zfz BK101.out 1;have hfz13_2:=zfz BK101.out 2;have hfz13_3:=zfz BK101.out 3)|((with_reducible refine gate_dst (N:=3) rfl ?_);refine box_event ?hg (N:=3) ?hd (cs:=#[.int .i64 0, .int .i64 0, .int .i64 0, .string (⟨#[]⟩:ByteArray)]) (t:=28) ?hr ?_;(case hd=>rfl);(case hg=>rfl);(case hr=>first|(go_simp;done)|(go_simp;rfl));intro gb102 hg w14 hbox hb;have n0_:=z_ (zbb (g:=gb101) (o:=.cells #[.int .i64 a0_0, .int .i64 a0_1, .int .i64 a0_2, .string a0_3] 28 (0,0)) (by (with_reducible repeat first|apply zbN|apply zb1|apply zbA);exact BK101.out) hb);have n1_:=z_ (below_step (by repeat first|(with_reducible first|exact HB.out|apply zA|apply zN|apply z1|refine zS ?_ GE101.out)|exact HB.out) hb);have n2_:=z_ (hbox);have n3_:=z_ ((by rw [hg];exact (zBs (by repeat first|(with_reducible first|exact HB.out|apply zA|apply zN|apply z1|refine zS ?_ GE101.out)|exact HB.out)):w.heap.size ≤ gb102));have n4_:=z_ ((by rw [hg];exact (zBs (by repeat first|(with_reducible first|exact HB.out|apply zA|apply zN|apply z1|refine zS ?_ GE101.out)|exact HB.out)):w.heap.size ≤ gb102));have n5_:=z_ ((by rw [hg];exact Nat.ne_of_lt (blk_lt (g:=gb101) (o:=.cells #[.int .i64 a0_0, .int .i64 a0_1, .int .i64 a0_2, .string a0_3] 28 (0,0)) (by (with_reducible repeat first|apply zbN|apply zb1|apply zbA);exact BK101.out)):gb101 ≠ gb102));have n6_:=z_ ((by rw [hg];exact Nat.ne_of_gt (blk_lt (g:=gb101) (o:=.cells #[.int .i64 a0_0, .int .i64 a0_1, .int .i64 a0_2, .string a0_3] 28 (0,0)) (by (with_reducible repeat first|apply zbN|apply zb1|apply zbA);exact BK101.out)):gb102 ≠ gb101));clear BK101;clear HB;have BK101:=n0_;have HB:=n1_;have BK102:=n2_;have GW102:=n3_;have GE102:=n4_;have NB101_102:=n5_;have NB102_101:=n6_;clear n0_ n1_ n2_ n3_ n4_ n5_ n6_;clear hb hbox hg;have hnb15:=NB102_101.out;have hnc15:=NB101_102.out;have hcz16_0:w14.cell? ⟨gb102,0,none⟩ = some (.int .i64 0):=(zce BK102.out 0).trans rfl;have hcz16_1:w14.cell? ⟨gb102,1,none⟩ = some (.int .i64 0):=(zce BK102.out 1).trans rfl;have hcz16_2:w14.cell? ⟨gb102,2,none⟩ = some (.int .i64 0):=(zce BK102.out 2).trans rfl;have hcz16_3:w14.cell? ⟨gb102,3,none⟩ = some (.string (⟨#[]⟩:ByteArray)):=(zce BK102.out 3).trans rfl;have hfz16_0:=zfz BK102.out 0;have hfz16_1:=zfz BK102.out 1;have hfz16_2:=zfz BK102.out 2;have hfz16_3:=zfz BK102.out 3;have hcz17_0:w14.cell? ⟨gb101,0,none⟩ = some (.int .i64 a0_0):=(zce BK101.out 0).trans rfl;have hcz17_1:w14.cell? ⟨gb101,1,none⟩ = some (.int .i64 a0_1):=(zce BK101.out 1).trans rfl;have hcz17_2:w14.cell? ⟨gb101,2,none⟩ = some (.int .i64 a0_2):=(zce BK101.out 2).trans rfl;have hcz17_3:w14.cell? ⟨gb101,3,none⟩ = some (.string a0_3):=(zce BK101.out 3).trans rfl;have hfz17_0:=zfz BK101.out 0;have hfz17_1:=zfz BK101.out 1;have hfz17_2:=zfz BK101.out 2;have hfz17_3:=zfz BK101.out 3))
   go_ret
   exact ⟨by first|rfl|(simp [errW_none,errW_some] <;> rfl)|(simp only [← hji10,← hji11];first|rfl|(simp [errW_none,errW_some] <;> rfl))|(simp [*,errW_none,errW_some] <;> rfl),by repeat first|(with_reducible first|exact HB.out|apply zA|apply zN|apply z1|refine zS ?_ GE101.out|refine zS ?_ GE102.out)|exact HB.out⟩
  ·rw [if_neg c9] at H
   have c9b0:(a0_0 == 1) = false:=beq_eq_false_iff_ne.mpr c9
   have c9b1:(a0_0 != 1) = true:=bne_iff_ne.mpr c9
   by_cases c18:a0_0 = 2
   ·rw [if_pos c18] at H
    have c18b0:(a0_0 == 2) = true:=beq_iff_eq.mpr c18
    have c18b1:(a0_0 != 2) = false:=bne_eq_false_iff_eq.mpr c18
    clear c18
    obtain rfl:=Option.some.inj H
    go_enter Tryz.func142,Tryz.ntmps142
    go_wp2_with (first|((with_reducible refine gate_dst (N:=1) rfl ?_);refine box_event ?hg (N:=1) ?hd (cs:=#[.int .i64 a0_0, .int .i64 a0_1, .int .i64 a0_2, .string a0_3]) (t:=28) ?hr ?_;(case hd=>rfl);(case hg=>rfl);(case hr=>first|(go_simp;done)|(go_simp;rfl));intro gb101 hg w19 hbox hb;have n0_:=z_ (below_step (by repeat first|(with_reducible first|exact HB.out|apply zA|apply zN|apply z1)|exact HB.out) hb);have n1_:=z_ (hbox);have n2_:=z_ ((by rw [hg];exact (zBs (by repeat first|(with_reducible first|exact HB.out|apply zA|apply zN|apply z1)|exact HB.out)):w.heap.size ≤ gb101));have n3_:=z_ ((by rw [hg];exact (zBs (by repeat first|(with_reducible first|exact HB.out|apply zA|apply zN|apply z1)|exact HB.out)):w.heap.size ≤ gb101));clear HB;have HB:=n0_;have BK101:=n1_;have GW101:=n2_;have GE101:=n3_;clear n0_ n1_ n2_ n3_;clear hb hbox hg;have hcz20_0:w19.cell? ⟨gb101,0,none⟩ = some (.int .i64 a0_0):=(zce BK101.out 0).trans rfl;have hcz20_1:w19.cell? ⟨gb101,1,none⟩ = some (.int .i64 a0_1):=(zce BK101.out 1).trans rfl;have hcz20_2:w19.cell? ⟨gb101,2,none⟩ = some (.int .i64 a0_2):=(zce BK101.out 2).trans rfl;have hcz20_3:w19.cell? ⟨gb101,3,none⟩ = some (.string a0_3):=(zce BK101.out 3).trans rfl;have hfz20_0:=zfz BK101.out 0;have hfz20_1:=zfz BK101.out 1;have hfz20_2:=zfz BK101.out 2;have hfz20_3:=zfz BK101.out 3)|((with_reducible refine gate_dst (N:=3) rfl ?_);refine box_event ?hg (N:=3) ?hd (cs:=#[.int .i64 0, .int .i64 0, .int .i64 0, .string (⟨#[]⟩:ByteArray)]) (t:=28) ?hr ?_;(case hd=>rfl);(case hg=>rfl);(case hr=>first|(go_simp;done)|(go_simp;rfl));intro gb102 hg w21 hbox hb;have n0_:=z_ (zbb (g:=gb101) (o:=.cells #[.int .i64 a0_0, .int .i64 a0_1, .int .i64 a0_2, .string a0_3] 28 (0,0)) (by (with_reducible repeat first|apply zbN|apply zb1|apply zbA);exact BK101.out) hb);have n1_:=z_ (below_step (by repeat first|(with_reducible first|exact HB.out|apply zA|apply zN|apply z1|refine zS ?_ GE101.out)|exact HB.out) hb);have n2_:=z_ (hbox);have n3_:=z_ ((by rw [hg];exact (zBs (by repeat first|(with_reducible first|exact HB.out|apply zA|apply zN|apply z1|refine zS ?_ GE101.out)|exact HB.out)):w.heap.size ≤ gb102));have n4_:=z_ ((by rw [hg];exact (zBs (by repeat first|(with_reducible first|exact HB.out|apply zA|apply zN|apply z1|refine zS ?_ GE101.out)|exact HB.out)):w.heap.size ≤ gb102));have n5_:=z_ ((by rw [hg];exact Nat.ne_of_lt (blk_lt (g:=gb101) (o:=.cells #[.int .i64 a0_0, .int .i64 a0_1, .int .i64 a0_2, .string a0_3] 28 (0,0)) (by (with_reducible repeat first|apply zbN|apply zb1|apply zbA);exact BK101.out)):gb101 ≠ gb102));have n6_:=z_ ((by rw [hg];exact Nat.ne_of_gt (blk_lt (g:=gb101) (o:=.cells #[.int .i64 a0_0, .int .i64 a0_1, .int .i64 a0_2, .string a0_3] 28 (0,0)) (by (with_reducible repeat first|apply zbN|apply zb1|apply zbA);exact BK101.out)):gb102 ≠ gb101));clear BK101;clear HB;have BK101:=n0_;have HB:=n1_;have BK102:=n2_;have GW102:=n3_;have GE102:=n4_;have NB101_102:=n5_;have NB102_101:=n6_;clear n0_ n1_ n2_ n3_ n4_ n5_ n6_;clear hb hbox hg;have hnb22:=NB102_101.out;have hnc22:=NB101_102.out;have hcz23_0:w21.cell? ⟨gb102,0,none⟩ = some (.int .i64 0):=(zce BK102.out 0).trans rfl;have hcz23_1:w21.cell? ⟨gb102,1,none⟩ = some (.int .i64 0):=(zce BK102.out 1).trans rfl;have hcz23_2:w21.cell? ⟨gb102,2,none⟩ = some (.int .i64 0):=(zce BK102.out 2).trans rfl;have hcz23_3:w21.cell? ⟨gb102,3,none⟩ = some (.string (⟨#[]⟩:ByteArray)):=(zce BK102.out 3).trans rfl;have hfz23_0:=zfz BK102.out 0;have hfz23_1:=zfz BK102.out 1;have hfz23_2:=zfz BK102.out 2;have hfz23_3:=zfz BK102.out 3;have hcz24_0:w21.cell? ⟨gb101,0,none⟩ = some (.int .i64 a0_0):=(zce BK101.out 0).trans rfl;have hcz24_1:w21.cell? ⟨gb101,1,none⟩ = some (.int .i64 a0_1):=(zce BK101.out 1).trans rfl;have hcz24_2:w21.cell? ⟨gb101,2,none⟩ = some (.int .i64 a0_2):=(zce BK101.out 2).trans rfl;have hcz24_3:w21.cell? ⟨gb101,3,none⟩ = some (.string a0_3):=(zce BK101.out 3).trans rfl;have hfz24_0:=zfz BK101.out 0;have hfz24_1:=zfz BK101.out 1;have hfz24_2:=zfz BK101.out 2;have hfz24_3:=zfz BK101.out 3))
    go_ret
    exact ⟨by first|rfl|(simp [errW_none,errW_some] <;> rfl)|(simp [*,errW_none,errW_some] <;> rfl),by repeat first|(with_reducible first|exact HB.out|apply zA|apply zN|apply z1|refine zS ?_ GE101.out|refine zS ?_ GE102.out)|exact HB.out⟩
   ·rw [if_neg c18] at H
    have c18b0:(a0_0 == 2) = false:=beq_eq_false_iff_ne.mpr c18
    have c18b1:(a0_0 != 2) = true:=bne_iff_ne.mpr c18
    by_cases c25:a0_0 = 3
    ·rw [if_pos c25] at H
     have c25b0:(a0_0 == 3) = true:=beq_iff_eq.mpr c25
     have c25b1:(a0_0 != 3) = false:=bne_eq_false_iff_eq.mpr c25
     clear c25
     obtain ⟨ji26,hji26⟩:∃ j_:Int,(mx a0_2 0) = j_:=⟨_,rfl⟩
     replace H:(if a0_1 ≤ (-1000000000000000) then (some false) else (if a0_1 ≥ 1000000000000000 then (some false) else (if a0_2 > 0 then (if (Int.tmod a0_1 10) = 0 then (some false) else (some (a0_2 == (mn (ji26) 6) && (a0_3.toList == ([]:List UInt8))))) else (some (a0_2 == (mn (ji26) 6) && (a0_3.toList == ([]:List UInt8))))))) = some r:=by first|(rw [hji26] at H;exact H)|(simp only [hji26] at H ⊢;exact H)
     (try (have hji26l:0 ≤ ji26:=by (rw [← hji26];unfold mx;(repeat' split) <;> omega)))
     (try (have hji26m:0 ≤ ji26:=by omega))
     have hji26_:(if a0_2 < 0 then 0 else a0_2) = ji26:=hji26
     obtain ⟨ji27,hji27⟩:∃ j_:Int,(mn (ji26) 6) = j_:=⟨_,rfl⟩
     replace H:(if a0_1 ≤ (-1000000000000000) then (some false) else (if a0_1 ≥ 1000000000000000 then (some false) else (if a0_2 > 0 then (if (Int.tmod a0_1 10) = 0 then (some false) else (some (a0_2 == (ji27) && (a0_3.toList == ([]:List UInt8))))) else (some (a0_2 == (ji27) && (a0_3.toList == ([]:List UInt8))))))) = some r:=by first|(rw [hji27] at H;exact H)|(simp only [hji27] at H ⊢;exact H)
     have hji27_:(if 6 < (ji26) then 6 else (ji26)) = ji27:=hji27
     by_cases c28:a0_1 ≤ (-1000000000000000)
     ·rw [if_pos c28] at H
      have c28b0:decide (a0_1 ≤ (-1000000000000000)) = true:=decide_eq_true c28
      clear c28
      obtain rfl:=Option.some.inj H
      go_enter Tryz.func142,Tryz.ntmps142
      try go_wp2_with (first|((with_reducible refine gate_dst (N:=1) rfl ?_);refine box_event ?hg (N:=1) ?hd (cs:=#[.int .i64 a0_0, .int .i64 a0_1, .int .i64 a0_2, .string a0_3]) (t:=28) ?hr ?_;(case hd=>rfl);(case hg=>rfl);(case hr=>first|(go_simp;done)|(go_simp;rfl));intro gb101 hg w29 hbox hb;have n0_:=z_ (below_step (by repeat first|(with_reducible first|exact HB.out|apply zA|apply zN|apply z1)|exact HB.out) hb);have n1_:=z_ (hbox);have n2_:=z_ ((by rw [hg];exact (zBs (by repeat first|(with_reducible first|exact HB.out|apply zA|apply zN|apply z1)|exact HB.out)):w.heap.size ≤ gb101));have n3_:=z_ ((by rw [hg];exact (zBs (by repeat first|(with_reducible first|exact HB.out|apply zA|apply zN|apply z1)|exact HB.out)):w.heap.size ≤ gb101));clear HB;have HB:=n0_;have BK101:=n1_;have GW101:=n2_;have GE101:=n3_;clear n0_ n1_ n2_ n3_;clear hb hbox hg;have hcz30_0:w29.cell? ⟨gb101,0,none⟩ = some (.int .i64 a0_0):=(zce BK101.out 0).trans rfl;have hcz30_1:w29.cell? ⟨gb101,1,none⟩ = some (.int .i64 a0_1):=(zce BK101.out 1).trans rfl;have hcz30_2:w29.cell? ⟨gb101,2,none⟩ = some (.int .i64 a0_2):=(zce BK101.out 2).trans rfl;have hcz30_3:w29.cell? ⟨gb101,3,none⟩ = some (.string a0_3):=(zce BK101.out 3).trans rfl;have hfz30_0:=zfz BK101.out 0;have hfz30_1:=zfz BK101.out 1;have hfz30_2:=zfz BK101.out 2;have hfz30_3:=zfz BK101.out 3)|((with_reducible refine gate_dst (N:=3) rfl ?_);refine box_event ?hg (N:=3) ?hd (cs:=#[.int .i64 0, .int .i64 0, .int .i64 0, .string (⟨#[]⟩:ByteArray)]) (t:=28) ?hr ?_;(case hd=>rfl);(case hg=>rfl);(case hr=>first|(go_simp;done)|(go_simp;rfl));intro gb102 hg w31 hbox hb;have n0_:=z_ (zbb (g:=gb101) (o:=.cells #[.int .i64 a0_0, .int .i64 a0_1, .int .i64 a0_2, .string a0_3] 28 (0,0)) (by (with_reducible repeat first|apply zbN|apply zb1|apply zbA);exact BK101.out) hb);have n1_:=z_ (below_step (by repeat first|(with_reducible first|exact HB.out|apply zA|apply zN|apply z1|refine zS ?_ GE101.out)|exact HB.out) hb);have n2_:=z_ (hbox);have n3_:=z_ ((by rw [hg];exact (zBs (by repeat first|(with_reducible first|exact HB.out|apply zA|apply zN|apply z1|refine zS ?_ GE101.out)|exact HB.out)):w.heap.size ≤ gb102));have n4_:=z_ ((by rw [hg];exact (zBs (by repeat first|(with_reducible first|exact HB.out|apply zA|apply zN|apply z1|refine zS ?_ GE101.out)|exact HB.out)):w.heap.size ≤ gb102));have n5_:=z_ ((by rw [hg];exact Nat.ne_of_lt (blk_lt (g:=gb101) (o:=.cells #[.int .i64 a0_0, .int .i64 a0_1, .int .i64 a0_2, .string a0_3] 28 (0,0)) (by (with_reducible repeat first|apply zbN|apply zb1|apply zbA);exact BK101.out)):gb101 ≠ gb102));have n6_:=z_ ((by rw [hg];exact Nat.ne_of_gt (blk_lt (g:=gb101) (o:=.cells #[.int .i64 a0_0, .int .i64 a0_1, .int .i64 a0_2, .string a0_3] 28 (0,0)) (by (with_reducible repeat first|apply zbN|apply zb1|apply zbA);exact BK101.out)):gb102 ≠ gb101));clear BK101;clear HB;have BK101:=n0_;have HB:=n1_;have BK102:=n2_;have GW102:=n3_;have GE102:=n4_;have NB101_102:=n5_;have NB102_101:=n6_;clear n0_ n1_ n2_ n3_ n4_ n5_ n6_;clear hb hbox hg;have hnb32:=NB102_101.out;have hnc32:=NB101_102.out;have hcz33_0:w31.cell? ⟨gb102,0,none⟩ = some (.int .i64 0):=(zce BK102.out 0).trans rfl;have hcz33_1:w31.cell? ⟨gb102,1,none⟩ = some (.int .i64 0):=(zce BK102.out 1).trans rfl;have hcz33_2:w31.cell? ⟨gb102,2,none⟩ = some (.int .i64 0):=(zce BK102.out 2).trans rfl;have hcz33_3:w31.cell? ⟨gb102,3,none⟩ = some (.string (⟨#[]⟩:ByteArray)):=(zce BK102.out 3).trans rfl;have hfz33_0:=zfz BK102.out 0;have hfz33_1:=zfz BK102.out 1;have hfz33_2:=zfz BK102.out 2;have hfz33_3:=zfz BK102.out 3;have hcz34_0:w31.cell? ⟨gb101,0,none⟩ = some (.int .i64 a0_0):=(zce BK101.out 0).trans rfl;have hcz34_1:w31.cell? ⟨gb101,1,none⟩ = some (.int .i64 a0_1):=(zce BK101.out 1).trans rfl;have hcz34_2:w31.cell? ⟨gb101,2,none⟩ = some (.int .i64 a0_2):=(zce BK101.out 2).trans rfl;have hcz34_3:w31.cell? ⟨gb101,3,none⟩ = some (.string a0_3):=(zce BK101.out 3).trans rfl;have hfz34_0:=zfz BK101.out 0;have hfz34_1:=zfz BK101.out 1;have hfz34_2:=zfz BK101.out 2;have hfz34_3:=zfz BK101.out 3))
      have n0_:Aside0 (((((w31.setCell ⟨gb102,0,none⟩ (.int .i64 a0_0)).setCell ⟨gb102,1,none⟩ (.int .i64 0)).setCell ⟨gb102,2,none⟩ (.int .i64 0)).setCell ⟨gb102,3,none⟩ (.string (⟨#[]⟩:ByteArray))).heap[gb101]? = some (.cells #[.int .i64 a0_0, .int .i64 a0_1, .int .i64 a0_2, .string a0_3] 28 (0,0))):=⟨by (with_reducible repeat first|apply zbN|apply zb1|apply zbA);refine zbf ?_ NB101_102.out _;(with_reducible repeat first|apply zbN|apply zb1|apply zbA);refine zbf ?_ NB101_102.out _;(with_reducible repeat first|apply zbN|apply zb1|apply zbA);refine zbf ?_ NB101_102.out _;(with_reducible repeat first|apply zbN|apply zb1|apply zbA);refine zbf ?_ NB101_102.out _;(with_reducible repeat first|apply zbN|apply zb1|apply zbA);exact BK101.out⟩
      have n1_:Aside0 (((((w31.setCell ⟨gb102,0,none⟩ (.int .i64 a0_0)).setCell ⟨gb102,1,none⟩ (.int .i64 0)).setCell ⟨gb102,2,none⟩ (.int .i64 0)).setCell ⟨gb102,3,none⟩ (.string (⟨#[]⟩:ByteArray))).heap[gb102]? = some (.cells #[.int .i64 a0_0, .int .i64 0, .int .i64 0, .string (⟨#[]⟩:ByteArray)] 28 (0,0))):=⟨by (with_reducible repeat first|apply zbN|apply zb1|apply zbA);refine zbp (cs:=#[.int .i64 a0_0, .int .i64 0, .int .i64 0, .string (⟨#[]⟩:ByteArray)]) ?_ 3 _ rfl;(with_reducible repeat first|apply zbN|apply zb1|apply zbA);refine zbp (cs:=#[.int .i64 a0_0, .int .i64 0, .int .i64 0, .string (⟨#[]⟩:ByteArray)]) ?_ 2 _ rfl;(with_reducible repeat first|apply zbN|apply zb1|apply zbA);refine zbp (cs:=#[.int .i64 a0_0, .int .i64 0, .int .i64 0, .string (⟨#[]⟩:ByteArray)]) ?_ 1 _ rfl;(with_reducible repeat first|apply zbN|apply zb1|apply zbA);refine zbp (cs:=#[.int .i64 0, .int .i64 0, .int .i64 0, .string (⟨#[]⟩:ByteArray)]) ?_ 0 _ rfl;(with_reducible repeat first|apply zbN|apply zb1|apply zbA);exact BK102.out⟩
      have n2_:Aside0 (Below w.heap.size w ((((w31.setCell ⟨gb102,0,none⟩ (.int .i64 a0_0)).setCell ⟨gb102,1,none⟩ (.int .i64 0)).setCell ⟨gb102,2,none⟩ (.int .i64 0)).setCell ⟨gb102,3,none⟩ (.string (⟨#[]⟩:ByteArray)))):=⟨by repeat first|(with_reducible first|exact HB.out|apply zA|apply zN|apply z1|refine zS ?_ GE101.out|refine zS ?_ GE102.out)|exact HB.out⟩
      (try clear BK101)
      (try clear BK102)
      (try clear HB)
      generalize ((((w31.setCell ⟨gb102,0,none⟩ (.int .i64 a0_0)).setCell ⟨gb102,1,none⟩ (.int .i64 0)).setCell ⟨gb102,2,none⟩ (.int .i64 0)).setCell ⟨gb102,3,none⟩ (.string (⟨#[]⟩:ByteArray))) = w35 at n0_ n1_ n2_ ⊢
      have BK101:=n0_
      have BK102:=n1_
      have HB:=n2_
      clear n0_ n1_ n2_
      have n0_:=z_ (zb1 BK101.out)
      have n1_:=z_ (zb1 BK102.out)
      have n2_:=z_ (z1 HB.out)
      clear BK101
      clear BK102
      clear HB
      have BK101:=n0_
      have BK102:=n1_
      have HB:=n2_
      clear n0_ n1_ n2_
      refine start_ (n:=10) (S:=fun w'=>w'.cell? ⟨gb101,0,none⟩ = some (.int .i64 a0_0) ∧ w'.cell? ⟨gb101,1,none⟩ = some (.int .i64 a0_1) ∧ w'.cell? ⟨gb101,2,none⟩ = some (.int .i64 a0_2) ∧ w'.cell? ⟨gb101,3,none⟩ = some (.string a0_3)) (ds:=[]) #[false,false,false,false,false,false,false,false,false,false] (by kernel_rfl) rfl rfl ⟨(zce BK101.out 0).trans rfl,(zce BK101.out 1).trans rfl,(zce BK101.out 2).trans rfl,(zce BK101.out 3).trans rfl⟩ (fun hHeld=>?_);refine with_tabW val_Right.tab10 val_Right.bits10 (fun HT_ HW_=>?_)
      generalize w35.drew = w36 at BK101 BK102 HB hHeld ⊢
      refine pure_ (i:=0) (N:=some 25) (v:=?_) (a':=?_) #[true,false,false,false,false,false,false,false,false,false] rfl rfl (any_of HT_.out (by kernel_rfl)) (fun _ _ _ h=>h) (Or.inl ⟨by rfl,?_⟩) ?_ ?_
      rotate_left
      ·intro w'
       go_simp
       with_reducible rfl
      rotate_left
      ·simp only [Act.put,List.setIfInBounds_toArray,List.set_cons_zero,List.set_cons_succ,i64_w,i32_w]
       rfl
      refine pure_ (i:=2) (N:=some 27) (v:=?_) (a':=?_) #[true,false,true,false,false,false,false,false,false,false] rfl rfl (any_of HT_.out (by kernel_rfl)) (fun _ _ _ h=>h) (Or.inl ⟨by rfl,?_⟩) ?_ ?_
      rotate_left
      ·intro w'
       go_simp
       with_reducible rfl
      rotate_left
      ·simp only [Act.put,List.setIfInBounds_toArray,List.set_cons_zero,List.set_cons_succ,i64_w,i32_w]
       rfl
      refine take_ (i:=1) (N:=some 26) (v:=?_) (a':=?_) #[true,true,true,false,false,false,false,false,false,false] rfl rfl (take_ofW HT_.out HW_.out (by kernel_rfl)) (fun _ _ _ h=>h) (Or.inl ⟨by rfl,?_⟩) hHeld ?_ ?_
      rotate_left
      ·rintro w' ⟨s0,s1,s2,s3⟩
       go_simp
       with_reducible rfl
      rotate_left
      ·simp only [Act.put,List.setIfInBounds_toArray,List.set_cons_zero,List.set_cons_succ,i64_w,i32_w]
       rfl
      refine pure_ (i:=6) (N:=some 31) (v:=?_) (a':=?_) #[true,true,true,false,false,false,true,false,false,false] rfl rfl (any_of HT_.out (by kernel_rfl)) (fun _ _ _ h=>h) (Or.inl ⟨by rfl,?_⟩) ?_ ?_
      rotate_left
      ·intro w'
       go_simp
       with_reducible rfl
      rotate_left
      ·simp only [Act.put,List.setIfInBounds_toArray,List.set_cons_zero,List.set_cons_succ,i64_w,i32_w]
       rfl
      refine take_ (i:=3) (N:=some 28) (v:=?_) (a':=?_) #[true,true,true,true,false,false,true,false,false,false] rfl rfl (take_ofW HT_.out HW_.out (by kernel_rfl)) (fun _ _ _ h=>h) (Or.inl ⟨by rfl,?_⟩) hHeld ?_ ?_
      rotate_left
      ·rintro w' ⟨s0,s1,s2,s3⟩
       go_simp
       with_reducible rfl
      rotate_left
      ·simp only [Act.put,List.setIfInBounds_toArray,List.set_cons_zero,List.set_cons_succ,i64_w,i32_w]
       rfl
      refine pure_ (i:=4) (N:=some 29) (v:=?_) (a':=?_) #[true,true,true,true,true,false,true,false,false,false] rfl rfl (any_of HT_.out (by kernel_rfl)) (fun _ _ _ h=>h) (Or.inl ⟨by rfl,?_⟩) ?_ ?_
      rotate_left
      ·intro w'
       go_simp
       with_reducible rfl
      rotate_left
      ·simp only [Act.put,List.setIfInBounds_toArray,List.set_cons_zero,List.set_cons_succ,i64_w,i32_w]
       rfl
      refine pure_ (i:=5) (N:=some 30) (v:=?_) (a':=?_) #[true,true,true,true,true,true,true,false,false,false] rfl rfl (any_of HT_.out (by kernel_rfl)) (fun _ _ _ h=>h) (Or.inl ⟨by rfl,?_⟩) ?_ ?_
      rotate_left
      ·intro w'
       go_simp
       with_reducible rfl
      rotate_left
      ·simp only [Act.put,List.setIfInBounds_toArray,List.set_cons_zero,List.set_cons_succ,i64_w,i32_w]
       rfl
      refine one_ (i:=7) (N:=none) #[true,true,true,true,true,true,true,true,false,false] rfl rfl (one_of HT_.out (by kernel_rfl)) (by decide) (fun K hK=>?_)
      have hs37:w36.cell? ⟨gb102,1,none⟩ = some (.int .i64 0):=(zce BK102.out 1).trans rfl
      have hfs37:=zfz BK102.out 1
      have hns37_0:=NB101_102.out
      have hms37_0:=NB102_101.out
      refine skip_ (w1:=?_) (by rfl) rfl ?_ ?_
      rotate_left
      ·go_simp
       rfl
      refine hK.out _ _ ⟨((cell_far (p:=⟨gb102,_,none⟩) NB101_102.out _).trans (hHeld.1)),((cell_far (p:=⟨gb102,_,none⟩) NB101_102.out _).trans (hHeld.2.1)),((cell_far (p:=⟨gb102,_,none⟩) NB101_102.out _).trans (hHeld.2.2.1)),((cell_far (p:=⟨gb102,_,none⟩) NB101_102.out _).trans (hHeld.2.2.2))⟩ (fun hHeld=>?_)
      clear hK K
      refine pure_ (i:=8) (N:=some 32) (v:=?_) (a':=?_) #[true,true,true,true,true,true,true,true,true,false] rfl rfl (any_of HT_.out (by kernel_rfl)) (fun _ _ _ h=>h) (Or.inl ⟨by rfl,?_⟩) ?_ ?_
      rotate_left
      ·intro w'
       go_simp
       with_reducible rfl
      rotate_left
      ·simp only [Act.put,List.setIfInBounds_toArray,List.set_cons_zero,List.set_cons_succ,i64_w,i32_w]
       rfl
      refine one_ (i:=9) (N:=none) #[true,true,true,true,true,true,true,true,true,true] rfl rfl (one_of HT_.out (by kernel_rfl)) (by decide) (fun K hK=>?_)
      have hs38:w36.cell? ⟨gb102,2,none⟩ = some (.int .i64 0):=(zce BK102.out 2).trans rfl
      have hfs38:=zfz BK102.out 2
      have hns38_0:=NB101_102.out
      have hms38_0:=NB102_101.out
      refine skip_ (w1:=?_) (by rfl) rfl ?_ ?_
      rotate_left
      ·go_simp
       rfl
      refine hK.out _ _ ⟨((cell_far (p:=⟨gb102,_,none⟩) NB101_102.out _).trans (hHeld.1)),((cell_far (p:=⟨gb102,_,none⟩) NB101_102.out _).trans (hHeld.2.1)),((cell_far (p:=⟨gb102,_,none⟩) NB101_102.out _).trans (hHeld.2.2.1)),((cell_far (p:=⟨gb102,_,none⟩) NB101_102.out _).trans (hHeld.2.2.2))⟩ (fun hHeld=>?_)
      clear hK K
      refine done_ (done_of HT_.out (by kernel_rfl)) ?_
      have hcz39_0:w36.cell? ⟨gb101,0,none⟩ = some (.int .i64 a0_0):=(zce BK101.out 0).trans rfl
      have hcz39_1:w36.cell? ⟨gb101,1,none⟩ = some (.int .i64 a0_1):=(zce BK101.out 1).trans rfl
      have hcz39_2:w36.cell? ⟨gb101,2,none⟩ = some (.int .i64 a0_2):=(zce BK101.out 2).trans rfl
      have hcz39_3:w36.cell? ⟨gb101,3,none⟩ = some (.string a0_3):=(zce BK101.out 3).trans rfl
      have hfz39_0:=zfz BK101.out 0
      have hfz39_1:=zfz BK101.out 1
      have hfz39_2:=zfz BK101.out 2
      have hfz39_3:=zfz BK101.out 3
      try go_wp2
      go_ret
      exact ⟨by first|rfl|(simp [errW_none,errW_some] <;> rfl)|(simp only [← hji26,← hji27];first|rfl|(simp [errW_none,errW_some] <;> rfl))|(simp [*,errW_none,errW_some] <;> rfl),by repeat first|(with_reducible first|exact HB.out|apply zA|apply zN|apply z1|refine zS ?_ GE101.out|refine zS ?_ GE102.out)|exact HB.out⟩
     ·rw [if_neg c28] at H
      have c28b0:decide (a0_1 ≤ (-1000000000000000)) = false:=decide_eq_false c28
      clear c28
      by_cases c40:a0_1 ≥ 1000000000000000
      ·rw [if_pos c40] at H
       have c40b0:decide (1000000000000000 ≤ a0_1) = true:=decide_eq_true c40
       clear c40
       obtain rfl:=Option.some.inj H
       go_enter Tryz.func142,Tryz.ntmps142
       try go_wp2_with (first|((with_reducible refine gate_dst (N:=1) rfl ?_);refine box_event ?hg (N:=1) ?hd (cs:=#[.int .i64 a0_0, .int .i64 a0_1, .int .i64 a0_2, .string a0_3]) (t:=28) ?hr ?_;(case hd=>rfl);(case hg=>rfl);(case hr=>first|(go_simp;done)|(go_simp;rfl));intro gb101 hg w41 hbox hb;have n0_:=z_ (below_step (by repeat first|(with_reducible first|exact HB.out|apply zA|apply zN|apply z1)|exact HB.out) hb);have n1_:=z_ (hbox);have n2_:=z_ ((by rw [hg];exact (zBs (by repeat first|(with_reducible first|exact HB.out|apply zA|apply zN|apply z1)|exact HB.out)):w.heap.size ≤ gb101));have n3_:=z_ ((by rw [hg];exact (zBs (by repeat first|(with_reducible first|exact HB.out|apply zA|apply zN|apply z1)|exact HB.out)):w.heap.size ≤ gb101));clear HB;have HB:=n0_;have BK101:=n1_;have GW101:=n2_;have GE101:=n3_;clear n0_ n1_ n2_ n3_;clear hb hbox hg;have hcz42_0:w41.cell? ⟨gb101,0,none⟩ = some (.int .i64 a0_0):=(zce BK101.out 0).trans rfl;have hcz42_1:w41.cell? ⟨gb101,1,none⟩ = some (.int .i64 a0_1):=(zce BK101.out 1).trans rfl;have hcz42_2:w41.cell? ⟨gb101,2,none⟩ = some (.int .i64 a0_2):=(zce BK101.out 2).trans rfl;have hcz42_3:w41.cell? ⟨gb101,3,none⟩ = some (.string a0_3):=(zce BK101.out 3).trans rfl;have hfz42_0:=zfz BK101.out 0;have hfz42_1:=zfz BK101.out 1;have hfz42_2:=zfz BK101.out 2;have hfz42_3:=zfz BK101.out 3)|((with_reducible refine gate_dst (N:=3) rfl ?_);refine box_event ?hg (N:=3) ?hd (cs:=#[.int .i64 0, .int .i64 0, .int .i64 0, .string (⟨#[]⟩:ByteArray)]) (t:=28) ?hr ?_;(case hd=>rfl);(case hg=>rfl);(case hr=>first|(go_simp;done)|(go_simp;rfl));intro gb102 hg w43 hbox hb;have n0_:=z_ (zbb (g:=gb101) (o:=.cells #[.int .i64 a0_0, .int .i64 a0_1, .int .i64 a0_2, .string a0_3] 28 (0,0)) (by (with_reducible repeat first|apply zbN|apply zb1|apply zbA);exact BK101.out) hb);have n1_:=z_ (below_step (by repeat first|(with_reducible first|exact HB.out|apply zA|apply zN|apply z1|refine zS ?_ GE101.out)|exact HB.out) hb);have n2_:=z_ (hbox);have n3_:=z_ ((by rw [hg];exact (zBs (by repeat first|(with_reducible first|exact HB.out|apply zA|apply zN|apply z1|refine zS ?_ GE101.out)|exact HB.out)):w.heap.size ≤ gb102));have n4_:=z_ ((by rw [hg];exact (zBs (by repeat first|(with_reducible first|exact HB.out|apply zA|apply zN|apply z1|refine zS ?_ GE101.out)|exact HB.out)):w.heap.size ≤ gb102));have n5_:=z_ ((by rw [hg];exact Nat.ne_of_lt (blk_lt (g:=gb101) (o:=.cells #[.int .i64 a0_0, .int .i64 a0_1, .int .i64 a0_2, .string a0_3] 28 (0,0)) (by (with_reducible repeat first|apply zbN|apply zb1|apply zbA);exact BK101.out)):gb101 ≠ gb102));have n6_:=z_ ((by rw [hg];exact Nat.ne_of_gt (blk_lt (g:=gb101) (o:=.cells #[.int .i64 a0_0, .int .i64 a0_1, .int .i64 a0_2, .string a0_3] 28 (0,0)) (by (with_reducible repeat first|apply zbN|apply zb1|apply zbA);exact BK101.out)):gb102 ≠ gb101));clear BK101;clear HB;have BK101:=n0_;have HB:=n1_;have BK102:=n2_;have GW102:=n3_;have GE102:=n4_;have NB101_102:=n5_;have NB102_101:=n6_;clear n0_ n1_ n2_ n3_ n4_ n5_ n6_;clear hb hbox hg;have hnb44:=NB102_101.out;have hnc44:=NB101_102.out;have hcz45_0:w43.cell? ⟨gb102,0,none⟩ = some (.int .i64 0):=(zce BK102.out 0).trans rfl;have hcz45_1:w43.cell? ⟨gb102,1,none⟩ = some (.int .i64 0):=(zce BK102.out 1).trans rfl;have hcz45_2:w43.cell? ⟨gb102,2,none⟩ = some (.int .i64 0):=(zce BK102.out 2).trans rfl;have hcz45_3:w43.cell? ⟨gb102,3,none⟩ = some (.string (⟨#[]⟩:ByteArray)):=(zce BK102.out 3).trans rfl;have hfz45_0:=zfz BK102.out 0;have hfz45_1:=zfz BK102.out 1;have hfz45_2:=zfz BK102.out 2;have hfz45_3:=zfz BK102.out 3;have hcz46_0:w43.cell? ⟨gb101,0,none⟩ = some (.int .i64 a0_0):=(zce BK101.out 0).trans rfl;have hcz46_1:w43.cell? ⟨gb101,1,none⟩ = some (.int .i64 a0_1):=(zce BK101.out 1).trans rfl;have hcz46_2:w43.cell? ⟨gb101,2,none⟩ = some (.int .i64 a0_2):=(zce BK101.out 2).trans rfl;have hcz46_3:w43.cell? ⟨gb101,3,none⟩ = some (.string a0_3):=(zce BK101.out 3).trans rfl;have hfz46_0:=zfz BK101.out 0;have hfz46_1:=zfz BK101.out 1;have hfz46_2:=zfz BK101.out 2;have hfz46_3:=zfz BK101.out 3))
       have n0_:Aside0 (((((w43.setCell ⟨gb102,0,none⟩ (.int .i64 a0_0)).setCell ⟨gb102,1,none⟩ (.int .i64 0)).setCell ⟨gb102,2,none⟩ (.int .i64 0)).setCell ⟨gb102,3,none⟩ (.string (⟨#[]⟩:ByteArray))).heap[gb101]? = some (.cells #[.int .i64 a0_0, .int .i64 a0_1, .int .i64 a0_2, .string a0_3] 28 (0,0))):=⟨by (with_reducible repeat first|apply zbN|apply zb1|apply zbA);refine zbf ?_ NB101_102.out _;(with_reducible repeat first|apply zbN|apply zb1|apply zbA);refine zbf ?_ NB101_102.out _;(with_reducible repeat first|apply zbN|apply zb1|apply zbA);refine zbf ?_ NB101_102.out _;(with_reducible repeat first|apply zbN|apply zb1|apply zbA);refine zbf ?_ NB101_102.out _;(with_reducible repeat first|apply zbN|apply zb1|apply zbA);exact BK101.out⟩
       have n1_:Aside0 (((((w43.setCell ⟨gb102,0,none⟩ (.int .i64 a0_0)).setCell ⟨gb102,1,none⟩ (.int .i64 0)).setCell ⟨gb102,2,none⟩ (.int .i64 0)).setCell ⟨gb102,3,none⟩ (.string (⟨#[]⟩:ByteArray))).heap[gb102]? = some (.cells #[.int .i64 a0_0, .int .i64 0, .int .i64 0, .string (⟨#[]⟩:ByteArray)] 28 (0,0))):=⟨by (with_reducible repeat first|apply zbN|apply zb1|apply zbA);refine zbp (cs:=#[.int .i64 a0_0, .int .i64 0, .int .i64 0, .string (⟨#[]⟩:ByteArray)]) ?_ 3 _ rfl;(with_reducible repeat first|apply zbN|apply zb1|apply zbA);refine zbp (cs:=#[.int .i64 a0_0, .int .i64 0, .int .i64 0, .string (⟨#[]⟩:ByteArray)]) ?_ 2 _ rfl;(with_reducible repeat first|apply zbN|apply zb1|apply zbA);refine zbp (cs:=#[.int .i64 a0_0, .int .i64 0, .int .i64 0, .string (⟨#[]⟩:ByteArray)]) ?_ 1 _ rfl;(with_reducible repeat first|apply zbN|apply zb1|apply zbA);refine zbp (cs:=#[.int .i64 0, .int .i64 0, .int .i64 0, .string (⟨#[]⟩:ByteArray)]) ?_ 0 _ rfl;(with_reducible repeat first|apply zbN|apply zb1|apply zbA);exact BK102.out⟩
       have n2_:Aside0 (Below w.heap.size w ((((w43.setCell ⟨gb102,0,none⟩ (.int .i64 a0_0)).setCell ⟨gb102,1,none⟩ (.int .i64 0)).setCell ⟨gb102,2,none⟩ (.int .i64 0)).setCell ⟨gb102,3,none⟩ (.string (⟨#[]⟩:ByteArray)))):=⟨by repeat first|(with_reducible first|exact HB.out|apply zA|apply zN|apply z1|refine zS ?_ GE101.out|refine zS ?_ GE102.out)|exact HB.out⟩
       (try clear BK101)
       (try clear BK102)
       (try clear HB)
       generalize ((((w43.setCell ⟨gb102,0,none⟩ (.int .i64 a0_0)).setCell ⟨gb102,1,none⟩ (.int .i64 0)).setCell ⟨gb102,2,none⟩ (.int .i64 0)).setCell ⟨gb102,3,none⟩ (.string (⟨#[]⟩:ByteArray))) = w47 at n0_ n1_ n2_ ⊢
       have BK101:=n0_
       have BK102:=n1_
       have HB:=n2_
       clear n0_ n1_ n2_
       have n0_:=z_ (zb1 BK101.out)
       have n1_:=z_ (zb1 BK102.out)
       have n2_:=z_ (z1 HB.out)
       clear BK101
       clear BK102
       clear HB
       have BK101:=n0_
       have BK102:=n1_
       have HB:=n2_
       clear n0_ n1_ n2_
       refine start_ (n:=10) (S:=fun w'=>w'.cell? ⟨gb101,0,none⟩ = some (.int .i64 a0_0) ∧ w'.cell? ⟨gb101,1,none⟩ = some (.int .i64 a0_1) ∧ w'.cell? ⟨gb101,2,none⟩ = some (.int .i64 a0_2) ∧ w'.cell? ⟨gb101,3,none⟩ = some (.string a0_3)) (ds:=[]) #[false,false,false,false,false,false,false,false,false,false] (by kernel_rfl) rfl rfl ⟨(zce BK101.out 0).trans rfl,(zce BK101.out 1).trans rfl,(zce BK101.out 2).trans rfl,(zce BK101.out 3).trans rfl⟩ (fun hHeld=>?_);refine with_tabW val_Right.tab10 val_Right.bits10 (fun HT_ HW_=>?_)
       generalize w47.drew = w48 at BK101 BK102 HB hHeld ⊢
       refine pure_ (i:=0) (N:=some 25) (v:=?_) (a':=?_) #[true,false,false,false,false,false,false,false,false,false] rfl rfl (any_of HT_.out (by kernel_rfl)) (fun _ _ _ h=>h) (Or.inl ⟨by rfl,?_⟩) ?_ ?_
       rotate_left
       ·intro w'
        go_simp
        with_reducible rfl
       rotate_left
       ·simp only [Act.put,List.setIfInBounds_toArray,List.set_cons_zero,List.set_cons_succ,i64_w,i32_w]
        rfl
       refine pure_ (i:=2) (N:=some 27) (v:=?_) (a':=?_) #[true,false,true,false,false,false,false,false,false,false] rfl rfl (any_of HT_.out (by kernel_rfl)) (fun _ _ _ h=>h) (Or.inl ⟨by rfl,?_⟩) ?_ ?_
       rotate_left
       ·intro w'
        go_simp
        with_reducible rfl
       rotate_left
       ·simp only [Act.put,List.setIfInBounds_toArray,List.set_cons_zero,List.set_cons_succ,i64_w,i32_w]
        rfl
       refine take_ (i:=1) (N:=some 26) (v:=?_) (a':=?_) #[true,true,true,false,false,false,false,false,false,false] rfl rfl (take_ofW HT_.out HW_.out (by kernel_rfl)) (fun _ _ _ h=>h) (Or.inl ⟨by rfl,?_⟩) hHeld ?_ ?_
       rotate_left
       ·rintro w' ⟨s0,s1,s2,s3⟩
        go_simp
        with_reducible rfl
       rotate_left
       ·simp only [Act.put,List.setIfInBounds_toArray,List.set_cons_zero,List.set_cons_succ,i64_w,i32_w]
        rfl
       refine pure_ (i:=6) (N:=some 31) (v:=?_) (a':=?_) #[true,true,true,false,false,false,true,false,false,false] rfl rfl (any_of HT_.out (by kernel_rfl)) (fun _ _ _ h=>h) (Or.inl ⟨by rfl,?_⟩) ?_ ?_
       rotate_left
       ·intro w'
        go_simp
        with_reducible rfl
       rotate_left
       ·simp only [Act.put,List.setIfInBounds_toArray,List.set_cons_zero,List.set_cons_succ,i64_w,i32_w]
        rfl
       refine take_ (i:=3) (N:=some 28) (v:=?_) (a':=?_) #[true,true,true,true,false,false,true,false,false,false] rfl rfl (take_ofW HT_.out HW_.out (by kernel_rfl)) (fun _ _ _ h=>h) (Or.inl ⟨by rfl,?_⟩) hHeld ?_ ?_
       rotate_left
       ·rintro w' ⟨s0,s1,s2,s3⟩
        go_simp
        with_reducible rfl
       rotate_left
       ·simp only [Act.put,List.setIfInBounds_toArray,List.set_cons_zero,List.set_cons_succ,i64_w,i32_w]
        rfl
       refine pure_ (i:=4) (N:=some 29) (v:=?_) (a':=?_) #[true,true,true,true,true,false,true,false,false,false] rfl rfl (any_of HT_.out (by kernel_rfl)) (fun _ _ _ h=>h) (Or.inl ⟨by rfl,?_⟩) ?_ ?_
       rotate_left
       ·intro w'
        go_simp
        with_reducible rfl
       rotate_left
       ·simp only [Act.put,List.setIfInBounds_toArray,List.set_cons_zero,List.set_cons_succ,i64_w,i32_w]
        rfl
       refine pure_ (i:=5) (N:=some 30) (v:=?_) (a':=?_) #[true,true,true,true,true,true,true,false,false,false] rfl rfl (any_of HT_.out (by kernel_rfl)) (fun _ _ _ h=>h) (Or.inl ⟨by rfl,?_⟩) ?_ ?_
       rotate_left
       ·intro w'
        go_simp
        with_reducible rfl
       rotate_left
       ·simp only [Act.put,List.setIfInBounds_toArray,List.set_cons_zero,List.set_cons_succ,i64_w,i32_w]
        rfl
       refine one_ (i:=7) (N:=none) #[true,true,true,true,true,true,true,true,false,false] rfl rfl (one_of HT_.out (by kernel_rfl)) (by decide) (fun K hK=>?_)
       have hs49:w48.cell? ⟨gb102,1,none⟩ = some (.int .i64 0):=(zce BK102.out 1).trans rfl
       have hfs49:=zfz BK102.out 1
       have hns49_0:=NB101_102.out
       have hms49_0:=NB102_101.out
       refine skip_ (w1:=?_) (by rfl) rfl ?_ ?_
       rotate_left
       ·go_simp
        rfl
       refine hK.out _ _ ⟨((cell_far (p:=⟨gb102,_,none⟩) NB101_102.out _).trans (hHeld.1)),((cell_far (p:=⟨gb102,_,none⟩) NB101_102.out _).trans (hHeld.2.1)),((cell_far (p:=⟨gb102,_,none⟩) NB101_102.out _).trans (hHeld.2.2.1)),((cell_far (p:=⟨gb102,_,none⟩) NB101_102.out _).trans (hHeld.2.2.2))⟩ (fun hHeld=>?_)
       clear hK K
       refine pure_ (i:=8) (N:=some 32) (v:=?_) (a':=?_) #[true,true,true,true,true,true,true,true,true,false] rfl rfl (any_of HT_.out (by kernel_rfl)) (fun _ _ _ h=>h) (Or.inl ⟨by rfl,?_⟩) ?_ ?_
       rotate_left
       ·intro w'
        go_simp
        with_reducible rfl
       rotate_left
       ·simp only [Act.put,List.setIfInBounds_toArray,List.set_cons_zero,List.set_cons_succ,i64_w,i32_w]
        rfl
       refine one_ (i:=9) (N:=none) #[true,true,true,true,true,true,true,true,true,true] rfl rfl (one_of HT_.out (by kernel_rfl)) (by decide) (fun K hK=>?_)
       have hs50:w48.cell? ⟨gb102,2,none⟩ = some (.int .i64 0):=(zce BK102.out 2).trans rfl
       have hfs50:=zfz BK102.out 2
       have hns50_0:=NB101_102.out
       have hms50_0:=NB102_101.out
       refine skip_ (w1:=?_) (by rfl) rfl ?_ ?_
       rotate_left
       ·go_simp
        rfl
       refine hK.out _ _ ⟨((cell_far (p:=⟨gb102,_,none⟩) NB101_102.out _).trans (hHeld.1)),((cell_far (p:=⟨gb102,_,none⟩) NB101_102.out _).trans (hHeld.2.1)),((cell_far (p:=⟨gb102,_,none⟩) NB101_102.out _).trans (hHeld.2.2.1)),((cell_far (p:=⟨gb102,_,none⟩) NB101_102.out _).trans (hHeld.2.2.2))⟩ (fun hHeld=>?_)
       clear hK K
       refine done_ (done_of HT_.out (by kernel_rfl)) ?_
       have hcz51_0:w48.cell? ⟨gb101,0,none⟩ = some (.int .i64 a0_0):=(zce BK101.out 0).trans rfl
       have hcz51_1:w48.cell? ⟨gb101,1,none⟩ = some (.int .i64 a0_1):=(zce BK101.out 1).trans rfl
       have hcz51_2:w48.cell? ⟨gb101,2,none⟩ = some (.int .i64 a0_2):=(zce BK101.out 2).trans rfl
       have hcz51_3:w48.cell? ⟨gb101,3,none⟩ = some (.string a0_3):=(zce BK101.out 3).trans rfl
       have hfz51_0:=zfz BK101.out 0
       have hfz51_1:=zfz BK101.out 1
       have hfz51_2:=zfz BK101.out 2
       have hfz51_3:=zfz BK101.out 3
       try go_wp2
       go_ret
       exact ⟨by first|rfl|(simp [errW_none,errW_some] <;> rfl)|(simp only [← hji26,← hji27];first|rfl|(simp [errW_none,errW_some] <;> rfl))|(simp [*,errW_none,errW_some] <;> rfl),by repeat first|(with_reducible first|exact HB.out|apply zA|apply zN|apply z1|refine zS ?_ GE101.out|refine zS ?_ GE102.out)|exact HB.out⟩
      ·rw [if_neg c40] at H
       have c40b0:decide (1000000000000000 ≤ a0_1) = false:=decide_eq_false c40
       clear c40
       by_cases c52:a0_2 > 0
       ·rw [if_pos c52] at H
        have c52b0:decide (0 < a0_2) = true:=decide_eq_true c52
        clear c52
        by_cases c53:(Int.tmod a0_1 10) = 0
        ·rw [if_pos c53] at H
         have c53b0:((Int.tmod a0_1 10) == 0) = true:=beq_iff_eq.mpr c53
         have c53b1:((Int.tmod a0_1 10) != 0) = false:=bne_eq_false_iff_eq.mpr c53
         clear c53
         obtain rfl:=Option.some.inj H
         go_enter Tryz.func142,Tryz.ntmps142
         try go_wp2_with (first|((with_reducible refine gate_dst (N:=1) rfl ?_);refine box_event ?hg (N:=1) ?hd (cs:=#[.int .i64 a0_0, .int .i64 a0_1, .int .i64 a0_2, .string a0_3]) (t:=28) ?hr ?_;(case hd=>rfl);(case hg=>rfl);(case hr=>first|(go_simp;done)|(go_simp;rfl));intro gb101 hg w54 hbox hb;have n0_:=z_ (below_step (by repeat first|(with_reducible first|exact HB.out|apply zA|apply zN|apply z1)|exact HB.out) hb);have n1_:=z_ (hbox);have n2_:=z_ ((by rw [hg];exact (zBs (by repeat first|(with_reducible first|exact HB.out|apply zA|apply zN|apply z1)|exact HB.out)):w.heap.size ≤ gb101));have n3_:=z_ ((by rw [hg];exact (zBs (by repeat first|(with_reducible first|exact HB.out|apply zA|apply zN|apply z1)|exact HB.out)):w.heap.size ≤ gb101));clear HB;have HB:=n0_;have BK101:=n1_;have GW101:=n2_;have GE101:=n3_;clear n0_ n1_ n2_ n3_;clear hb hbox hg;have hcz55_0:w54.cell? ⟨gb101,0,none⟩ = some (.int .i64 a0_0):=(zce BK101.out 0).trans rfl;have hcz55_1:w54.cell? ⟨gb101,1,none⟩ = some (.int .i64 a0_1):=(zce BK101.out 1).trans rfl;have hcz55_2:w54.cell? ⟨gb101,2,none⟩ = some (.int .i64 a0_2):=(zce BK101.out 2).trans rfl;have hcz55_3:w54.cell? ⟨gb101,3,none⟩ = some (.string a0_3):=(zce BK101.out 3).trans rfl;have hfz55_0:=zfz BK101.out 0;have hfz55_1:=zfz BK101.out 1;have hfz55_2:=zfz BK101.out 2;have hfz55_3:=zfz BK101.out 3)|((with_reducible refine gate_dst (N:=3) rfl ?_);refine box_event ?hg (N:=3) ?hd (cs:=#[.int .i64 0, .int .i64 0, .int .i64 0, .string (⟨#[]⟩:ByteArray)]) (t:=28) ?hr ?_;(case hd=>rfl);(case hg=>rfl);(case hr=>first|(go_simp;done)|(go_simp;rfl));intro gb102 hg w56 hbox hb;have n0_:=z_ (zbb (g:=gb101) (o:=.cells #[.int .i64 a0_0, .int .i64 a0_1, .int .i64 a0_2, .string a0_3] 28 (0,0)) (by (with_reducible repeat first|apply zbN|apply zb1|apply zbA);exact BK101.out) hb);have n1_:=z_ (below_step (by repeat first|(with_reducible first|exact HB.out|apply zA|apply zN|apply z1|refine zS ?_ GE101.out)|exact HB.out) hb);have n2_:=z_ (hbox);have n3_:=z_ ((by rw [hg];exact (zBs (by repeat first|(with_reducible first|exact HB.out|apply zA|apply zN|apply z1|refine zS ?_ GE101.out)|exact HB.out)):w.heap.size ≤ gb102));have n4_:=z_ ((by rw [hg];exact (zBs (by repeat first|(with_reducible first|exact HB.out|apply zA|apply zN|apply z1|refine zS ?_ GE101.out)|exact HB.out)):w.heap.size ≤ gb102));have n5_:=z_ ((by rw [hg];exact Nat.ne_of_lt (blk_lt (g:=gb101) (o:=.cells #[.int .i64 a0_0, .int .i64 a0_1, .int .i64 a0_2, .string a0_3] 28 (0,0)) (by (with_reducible repeat first|apply zbN|apply zb1|apply zbA);exact BK101.out)):gb101 ≠ gb102));have n6_:=z_ ((by rw [hg];exact Nat.ne_of_gt (blk_lt (g:=gb101) (o:=.cells #[.int .i64 a0_0, .int .i64 a0_1, .int .i64 a0_2, .string a0_3] 28 (0,0)) (by (with_reducible repeat first|apply zbN|apply zb1|apply zbA);exact BK101.out)):gb102 ≠ gb101));clear BK101;clear HB;have BK101:=n0_;have HB:=n1_;have BK102:=n2_;have GW102:=n3_;have GE102:=n4_;have NB101_102:=n5_;have NB102_101:=n6_;clear n0_ n1_ n2_ n3_ n4_ n5_ n6_;clear hb hbox hg;have hnb57:=NB102_101.out;have hnc57:=NB101_102.out;have hcz58_0:w56.cell? ⟨gb102,0,none⟩ = some (.int .i64 0):=(zce BK102.out 0).trans rfl;have hcz58_1:w56.cell? ⟨gb102,1,none⟩ = some (.int .i64 0):=(zce BK102.out 1).trans rfl;have hcz58_2:w56.cell? ⟨gb102,2,none⟩ = some (.int .i64 0):=(zce BK102.out 2).trans rfl;have hcz58_3:w56.cell? ⟨gb102,3,none⟩ = some (.string (⟨#[]⟩:ByteArray)):=(zce BK102.out 3).trans rfl;have hfz58_0:=zfz BK102.out 0;have hfz58_1:=zfz BK102.out 1;have hfz58_2:=zfz BK102.out 2;have hfz58_3:=zfz BK102.out 3;have hcz59_0:w56.cell? ⟨gb101,0,none⟩ = some (.int .i64 a0_0):=(zce BK101.out 0).trans rfl;have hcz59_1:w56.cell? ⟨gb101,1,none⟩ = some (.int .i64 a0_1):=(zce BK101.out 1).trans rfl;have hcz59_2:w56.cell? ⟨gb101,2,none⟩ = some (.int .i64 a0_2):=(zce BK101.out 2).trans rfl;have hcz59_3:w56.cell? ⟨gb101,3,none⟩ = some (.string a0_3):=(zce BK101.out 3).trans rfl;have hfz59_0:=zfz BK101.out 0;have hfz59_1:=zfz BK101.out 1;have hfz59_2:=zfz BK101.out 2;have hfz59_3:=zfz BK101.out 3))
         have n0_:Aside0 (((((w56.setCell ⟨gb102,0,none⟩ (.int .i64 a0_0)).setCell ⟨gb102,1,none⟩ (.int .i64 0)).setCell ⟨gb102,2,none⟩ (.int .i64 0)).setCell ⟨gb102,3,none⟩ (.string (⟨#[]⟩:ByteArray))).heap[gb101]? = some (.cells #[.int .i64 a0_0, .int .i64 a0_1, .int .i64 a0_2, .string a0_3] 28 (0,0))):=⟨by (with_reducible repeat first|apply zbN|apply zb1|apply zbA);refine zbf ?_ NB101_102.out _;(with_reducible repeat first|apply zbN|apply zb1|apply zbA);refine zbf ?_ NB101_102.out _;(with_reducible repeat first|apply zbN|apply zb1|apply zbA);refine zbf ?_ NB101_102.out _;(with_reducible repeat first|apply zbN|apply zb1|apply zbA);refine zbf ?_ NB101_102.out _;(with_reducible repeat first|apply zbN|apply zb1|apply zbA);exact BK101.out⟩
         have n1_:Aside0 (((((w56.setCell ⟨gb102,0,none⟩ (.int .i64 a0_0)).setCell ⟨gb102,1,none⟩ (.int .i64 0)).setCell ⟨gb102,2,none⟩ (.int .i64 0)).setCell ⟨gb102,3,none⟩ (.string (⟨#[]⟩:ByteArray))).heap[gb102]? = some (.cells #[.int .i64 a0_0, .int .i64 0, .int .i64 0, .string (⟨#[]⟩:ByteArray)] 28 (0,0))):=⟨by (with_reducible repeat first|apply zbN|apply zb1|apply zbA);refine zbp (cs:=#[.int .i64 a0_0, .int .i64 0, .int .i64 0, .string (⟨#[]⟩:ByteArray)]) ?_ 3 _ rfl;(with_reducible repeat first|apply zbN|apply zb1|apply zbA);refine zbp (cs:=#[.int .i64 a0_0, .int .i64 0, .int .i64 0, .string (⟨#[]⟩:ByteArray)]) ?_ 2 _ rfl;(with_reducible repeat first|apply zbN|apply zb1|apply zbA);refine zbp (cs:=#[.int .i64 a0_0, .int .i64 0, .int .i64 0, .string (⟨#[]⟩:ByteArray)]) ?_ 1 _ rfl;(with_reducible repeat first|apply zbN|apply zb1|apply zbA);refine zbp (cs:=#[.int .i64 0, .int .i64 0, .int .i64 0, .string (⟨#[]⟩:ByteArray)]) ?_ 0 _ rfl;(with_reducible repeat first|apply zbN|apply zb1|apply zbA);exact BK102.out⟩
         have n2_:Aside0 (Below w.heap.size w ((((w56.setCell ⟨gb102,0,none⟩ (.int .i64 a0_0)).setCell ⟨gb102,1,none⟩ (.int .i64 0)).setCell ⟨gb102,2,none⟩ (.int .i64 0)).setCell ⟨gb102,3,none⟩ (.string (⟨#[]⟩:ByteArray)))):=⟨by repeat first|(with_reducible first|exact HB.out|apply zA|apply zN|apply z1|refine zS ?_ GE101.out|refine zS ?_ GE102.out)|exact HB.out⟩
         (try clear BK101)
         (try clear BK102)
         (try clear HB)
         generalize ((((w56.setCell ⟨gb102,0,none⟩ (.int .i64 a0_0)).setCell ⟨gb102,1,none⟩ (.int .i64 0)).setCell ⟨gb102,2,none⟩ (.int .i64 0)).setCell ⟨gb102,3,none⟩ (.string (⟨#[]⟩:ByteArray))) = w60 at n0_ n1_ n2_ ⊢
         have BK101:=n0_
         have BK102:=n1_
         have HB:=n2_
         clear n0_ n1_ n2_
         have n0_:=z_ (zb1 BK101.out)
         have n1_:=z_ (zb1 BK102.out)
         have n2_:=z_ (z1 HB.out)
         clear BK101
         clear BK102
         clear HB
         have BK101:=n0_
         have BK102:=n1_
         have HB:=n2_
         clear n0_ n1_ n2_
         refine start_ (n:=10) (S:=fun w'=>w'.cell? ⟨gb101,0,none⟩ = some (.int .i64 a0_0) ∧ w'.cell? ⟨gb101,1,none⟩ = some (.int .i64 a0_1) ∧ w'.cell? ⟨gb101,2,none⟩ = some (.int .i64 a0_2) ∧ w'.cell? ⟨gb101,3,none⟩ = some (.string a0_3)) (ds:=[]) #[false,false,false,false,false,false,false,false,false,false] (by kernel_rfl) rfl rfl ⟨(zce BK101.out 0).trans rfl,(zce BK101.out 1).trans rfl,(zce BK101.out 2).trans rfl,(zce BK101.out 3).trans rfl⟩ (fun hHeld=>?_);refine with_tabW val_Right.tab10 val_Right.bits10 (fun HT_ HW_=>?_)
         generalize w60.drew = w61 at BK101 BK102 HB hHeld ⊢
         refine pure_ (i:=0) (N:=some 25) (v:=?_) (a':=?_) #[true,false,false,false,false,false,false,false,false,false] rfl rfl (any_of HT_.out (by kernel_rfl)) (fun _ _ _ h=>h) (Or.inl ⟨by rfl,?_⟩) ?_ ?_
         rotate_left
         ·intro w'
          go_simp
          with_reducible rfl
         rotate_left
         ·simp only [Act.put,List.setIfInBounds_toArray,List.set_cons_zero,List.set_cons_succ,i64_w,i32_w]
          rfl
         refine pure_ (i:=2) (N:=some 27) (v:=?_) (a':=?_) #[true,false,true,false,false,false,false,false,false,false] rfl rfl (any_of HT_.out (by kernel_rfl)) (fun _ _ _ h=>h) (Or.inl ⟨by rfl,?_⟩) ?_ ?_
         rotate_left
         ·intro w'
          go_simp
          with_reducible rfl
         rotate_left
         ·simp only [Act.put,List.setIfInBounds_toArray,List.set_cons_zero,List.set_cons_succ,i64_w,i32_w]
          rfl
         refine take_ (i:=1) (N:=some 26) (v:=?_) (a':=?_) #[true,true,true,false,false,false,false,false,false,false] rfl rfl (take_ofW HT_.out HW_.out (by kernel_rfl)) (fun _ _ _ h=>h) (Or.inl ⟨by rfl,?_⟩) hHeld ?_ ?_
         rotate_left
         ·rintro w' ⟨s0,s1,s2,s3⟩
          go_simp
          with_reducible rfl
         rotate_left
         ·simp only [Act.put,List.setIfInBounds_toArray,List.set_cons_zero,List.set_cons_succ,i64_w,i32_w]
          rfl
         refine pure_ (i:=6) (N:=some 31) (v:=?_) (a':=?_) #[true,true,true,false,false,false,true,false,false,false] rfl rfl (any_of HT_.out (by kernel_rfl)) (fun _ _ _ h=>h) (Or.inl ⟨by rfl,?_⟩) ?_ ?_
         rotate_left
         ·intro w'
          go_simp
          with_reducible rfl
         rotate_left
         ·simp only [Act.put,List.setIfInBounds_toArray,List.set_cons_zero,List.set_cons_succ,i64_w,i32_w]
          rfl
         refine take_ (i:=3) (N:=some 28) (v:=?_) (a':=?_) #[true,true,true,true,false,false,true,false,false,false] rfl rfl (take_ofW HT_.out HW_.out (by kernel_rfl)) (fun _ _ _ h=>h) (Or.inl ⟨by rfl,?_⟩) hHeld ?_ ?_
         rotate_left
         ·rintro w' ⟨s0,s1,s2,s3⟩
          go_simp
          with_reducible rfl
         rotate_left
         ·simp only [Act.put,List.setIfInBounds_toArray,List.set_cons_zero,List.set_cons_succ,i64_w,i32_w]
          rfl
         refine pure_ (i:=4) (N:=some 29) (v:=?_) (a':=?_) #[true,true,true,true,true,false,true,false,false,false] rfl rfl (any_of HT_.out (by kernel_rfl)) (fun _ _ _ h=>h) (Or.inl ⟨by rfl,?_⟩) ?_ ?_
         rotate_left
         ·intro w'
          go_simp
          with_reducible rfl
         rotate_left
         ·simp only [Act.put,List.setIfInBounds_toArray,List.set_cons_zero,List.set_cons_succ,i64_w,i32_w]
          rfl
         refine pure_ (i:=5) (N:=some 30) (v:=?_) (a':=?_) #[true,true,true,true,true,true,true,false,false,false] rfl rfl (any_of HT_.out (by kernel_rfl)) (fun _ _ _ h=>h) (Or.inl ⟨by rfl,?_⟩) ?_ ?_
         rotate_left
         ·intro w'
          go_simp
          with_reducible rfl
         rotate_left
         ·simp only [Act.put,List.setIfInBounds_toArray,List.set_cons_zero,List.set_cons_succ,i64_w,i32_w]
          rfl
         refine one_ (i:=7) (N:=none) #[true,true,true,true,true,true,true,true,false,false] rfl rfl (one_of HT_.out (by kernel_rfl)) (by decide) (fun K hK=>?_)
         have hs62:w61.cell? ⟨gb102,1,none⟩ = some (.int .i64 0):=(zce BK102.out 1).trans rfl
         have hfs62:=zfz BK102.out 1
         have hns62_0:=NB101_102.out
         have hms62_0:=NB102_101.out
         refine skip_ (w1:=?_) (by rfl) rfl ?_ ?_
         rotate_left
         ·go_simp
          rfl
         refine hK.out _ _ ⟨((cell_far (p:=⟨gb102,_,none⟩) NB101_102.out _).trans (hHeld.1)),((cell_far (p:=⟨gb102,_,none⟩) NB101_102.out _).trans (hHeld.2.1)),((cell_far (p:=⟨gb102,_,none⟩) NB101_102.out _).trans (hHeld.2.2.1)),((cell_far (p:=⟨gb102,_,none⟩) NB101_102.out _).trans (hHeld.2.2.2))⟩ (fun hHeld=>?_)
         clear hK K
         refine pure_ (i:=8) (N:=some 32) (v:=?_) (a':=?_) #[true,true,true,true,true,true,true,true,true,false] rfl rfl (any_of HT_.out (by kernel_rfl)) (fun _ _ _ h=>h) (Or.inl ⟨by rfl,?_⟩) ?_ ?_
         rotate_left
         ·intro w'
          go_simp
          with_reducible rfl
         rotate_left
         ·simp only [Act.put,List.setIfInBounds_toArray,List.set_cons_zero,List.set_cons_succ,i64_w,i32_w]
          rfl
         refine one_ (i:=9) (N:=none) #[true,true,true,true,true,true,true,true,true,true] rfl rfl (one_of HT_.out (by kernel_rfl)) (by decide) (fun K hK=>?_)
         have hs63:w61.cell? ⟨gb102,2,none⟩ = some (.int .i64 0):=(zce BK102.out 2).trans rfl
         have hfs63:=zfz BK102.out 2
         have hns63_0:=NB101_102.out
         have hms63_0:=NB102_101.out
         refine skip_ (w1:=?_) (by rfl) rfl ?_ ?_
         rotate_left
         ·go_simp
          rfl
         refine hK.out _ _ ⟨((cell_far (p:=⟨gb102,_,none⟩) NB101_102.out _).trans (hHeld.1)),((cell_far (p:=⟨gb102,_,none⟩) NB101_102.out _).trans (hHeld.2.1)),((cell_far (p:=⟨gb102,_,none⟩) NB101_102.out _).trans (hHeld.2.2.1)),((cell_far (p:=⟨gb102,_,none⟩) NB101_102.out _).trans (hHeld.2.2.2))⟩ (fun hHeld=>?_)
         clear hK K
         refine done_ (done_of HT_.out (by kernel_rfl)) ?_
         have hcz64_0:w61.cell? ⟨gb101,0,none⟩ = some (.int .i64 a0_0):=(zce BK101.out 0).trans rfl
         have hcz64_1:w61.cell? ⟨gb101,1,none⟩ = some (.int .i64 a0_1):=(zce BK101.out 1).trans rfl
         have hcz64_2:w61.cell? ⟨gb101,2,none⟩ = some (.int .i64 a0_2):=(zce BK101.out 2).trans rfl
         have hcz64_3:w61.cell? ⟨gb101,3,none⟩ = some (.string a0_3):=(zce BK101.out 3).trans rfl
         have hfz64_0:=zfz BK101.out 0
         have hfz64_1:=zfz BK101.out 1
         have hfz64_2:=zfz BK101.out 2
         have hfz64_3:=zfz BK101.out 3
         try go_wp2
         go_ret
         exact ⟨by first|rfl|(simp [errW_none,errW_some] <;> rfl)|(simp only [← hji26,← hji27];first|rfl|(simp [errW_none,errW_some] <;> rfl))|(simp [*,errW_none,errW_some] <;> rfl),by repeat first|(with_reducible first|exact HB.out|apply zA|apply zN|apply z1|refine zS ?_ GE101.out|refine zS ?_ GE102.out)|exact HB.out⟩
        ·rw [if_neg c53] at H
         have c53b0:((Int.tmod a0_1 10) == 0) = false:=beq_eq_false_iff_ne.mpr c53
         have c53b1:((Int.tmod a0_1 10) != 0) = true:=bne_iff_ne.mpr c53
         obtain rfl:=Option.some.inj H
         go_enter Tryz.func142,Tryz.ntmps142
         try go_wp2_with (first|((with_reducible refine gate_dst (N:=1) rfl ?_);refine box_event ?hg (N:=1) ?hd (cs:=#[.int .i64 a0_0, .int .i64 a0_1, .int .i64 a0_2, .string a0_3]) (t:=28) ?hr ?_;(case hd=>rfl);(case hg=>rfl);(case hr=>first|(go_simp;done)|(go_simp;rfl));intro gb101 hg w65 hbox hb;have n0_:=z_ (below_step (by repeat first|(with_reducible first|exact HB.out|apply zA|apply zN|apply z1)|exact HB.out) hb);have n1_:=z_ (hbox);have n2_:=z_ ((by rw [hg];exact (zBs (by repeat first|(with_reducible first|exact HB.out|apply zA|apply zN|apply z1)|exact HB.out)):w.heap.size ≤ gb101));have n3_:=z_ ((by rw [hg];exact (zBs (by repeat first|(with_reducible first|exact HB.out|apply zA|apply zN|apply z1)|exact HB.out)):w.heap.size ≤ gb101));clear HB;have HB:=n0_;have BK101:=n1_;have GW101:=n2_;have GE101:=n3_;clear n0_ n1_ n2_ n3_;clear hb hbox hg;have hcz66_0:w65.cell? ⟨gb101,0,none⟩ = some (.int .i64 a0_0):=(zce BK101.out 0).trans rfl;have hcz66_1:w65.cell? ⟨gb101,1,none⟩ = some (.int .i64 a0_1):=(zce BK101.out 1).trans rfl;have hcz66_2:w65.cell? ⟨gb101,2,none⟩ = some (.int .i64 a0_2):=(zce BK101.out 2).trans rfl;have hcz66_3:w65.cell? ⟨gb101,3,none⟩ = some (.string a0_3):=(zce BK101.out 3).trans rfl;have hfz66_0:=zfz BK101.out 0;have hfz66_1:=zfz BK101.out 1;have hfz66_2:=zfz BK101.out 2;have hfz66_3:=zfz BK101.out 3)|((with_reducible refine gate_dst (N:=3) rfl ?_);refine box_event ?hg (N:=3) ?hd (cs:=#[.int .i64 0, .int .i64 0, .int .i64 0, .string (⟨#[]⟩:ByteArray)]) (t:=28) ?hr ?_;(case hd=>rfl);(case hg=>rfl);(case hr=>first|(go_simp;done)|(go_simp;rfl));intro gb102 hg w67 hbox hb;have n0_:=z_ (zbb (g:=gb101) (o:=.cells #[.int .i64 a0_0, .int .i64 a0_1, .int .i64 a0_2, .string a0_3] 28 (0,0)) (by (with_reducible repeat first|apply zbN|apply zb1|apply zbA);exact BK101.out) hb);have n1_:=z_ (below_step (by repeat first|(with_reducible first|exact HB.out|apply zA|apply zN|apply z1|refine zS ?_ GE101.out)|exact HB.out) hb);have n2_:=z_ (hbox);have n3_:=z_ ((by rw [hg];exact (zBs (by repeat first|(with_reducible first|exact HB.out|apply zA|apply zN|apply z1|refine zS ?_ GE101.out)|exact HB.out)):w.heap.size ≤ gb102));have n4_:=z_ ((by rw [hg];exact (zBs (by repeat first|(with_reducible first|exact HB.out|apply zA|apply zN|apply z1|refine zS ?_ GE101.out)|exact HB.out)):w.heap.size ≤ gb102));have n5_:=z_ ((by rw [hg];exact Nat.ne_of_lt (blk_lt (g:=gb101) (o:=.cells #[.int .i64 a0_0, .int .i64 a0_1, .int .i64 a0_2, .string a0_3] 28 (0,0)) (by (with_reducible repeat first|apply zbN|apply zb1|apply zbA);exact BK101.out)):gb101 ≠ gb102));have n6_:=z_ ((by rw [hg];exact Nat.ne_of_gt (blk_lt (g:=gb101) (o:=.cells #[.int .i64 a0_0, .int .i64 a0_1, .int .i64 a0_2, .string a0_3] 28 (0,0)) (by (with_reducible repeat first|apply zbN|apply zb1|apply zbA);exact BK101.out)):gb102 ≠ gb101));clear BK101;clear HB;have BK101:=n0_;have HB:=n1_;have BK102:=n2_;have GW102:=n3_;have GE102:=n4_;have NB101_102:=n5_;have NB102_101:=n6_;clear n0_ n1_ n2_ n3_ n4_ n5_ n6_;clear hb hbox hg;have hnb68:=NB102_101.out;have hnc68:=NB101_102.out;have hcz69_0:w67.cell? ⟨gb102,0,none⟩ = some (.int .i64 0):=(zce BK102.out 0).trans rfl;have hcz69_1:w67.cell? ⟨gb102,1,none⟩ = some (.int .i64 0):=(zce BK102.out 1).trans rfl;have hcz69_2:w67.cell? ⟨gb102,2,none⟩ = some (.int .i64 0):=(zce BK102.out 2).trans rfl;have hcz69_3:w67.cell? ⟨gb102,3,none⟩ = some (.string (⟨#[]⟩:ByteArray)):=(zce BK102.out 3).trans rfl;have hfz69_0:=zfz BK102.out 0;have hfz69_1:=zfz BK102.out 1;have hfz69_2:=zfz BK102.out 2;have hfz69_3:=zfz BK102.out 3;have hcz70_0:w67.cell? ⟨gb101,0,none⟩ = some (.int .i64 a0_0):=(zce BK101.out 0).trans rfl;have hcz70_1:w67.cell? ⟨gb101,1,none⟩ = some (.int .i64 a0_1):=(zce BK101.out 1).trans rfl;have hcz70_2:w67.cell? ⟨gb101,2,none⟩ = some (.int .i64 a0_2):=(zce BK101.out 2).trans rfl;have hcz70_3:w67.cell? ⟨gb101,3,none⟩ = some (.string a0_3):=(zce BK101.out 3).trans rfl;have hfz70_0:=zfz BK101.out 0;have hfz70_1:=zfz BK101.out 1;have hfz70_2:=zfz BK101.out 2;have hfz70_3:=zfz BK101.out 3))
         have n0_:Aside0 (((((w67.setCell ⟨gb102,0,none⟩ (.int .i64 a0_0)).setCell ⟨gb102,1,none⟩ (.int .i64 0)).setCell ⟨gb102,2,none⟩ (.int .i64 0)).setCell ⟨gb102,3,none⟩ (.string (⟨#[]⟩:ByteArray))).heap[gb101]? = some (.cells #[.int .i64 a0_0, .int .i64 a0_1, .int .i64 a0_2, .string a0_3] 28 (0,0))):=⟨by (with_reducible repeat first|apply zbN|apply zb1|apply zbA);refine zbf ?_ NB101_102.out _;(with_reducible repeat first|apply zbN|apply zb1|apply zbA);refine zbf ?_ NB101_102.out _;(with_reducible repeat first|apply zbN|apply zb1|apply zbA);refine zbf ?_ NB101_102.out _;(with_reducible repeat first|apply zbN|apply zb1|apply zbA);refine zbf ?_ NB101_102.out _;(with_reducible repeat first|apply zbN|apply zb1|apply zbA);exact BK101.out⟩
         have n1_:Aside0 (((((w67.setCell ⟨gb102,0,none⟩ (.int .i64 a0_0)).setCell ⟨gb102,1,none⟩ (.int .i64 0)).setCell ⟨gb102,2,none⟩ (.int .i64 0)).setCell ⟨gb102,3,none⟩ (.string (⟨#[]⟩:ByteArray))).heap[gb102]? = some (.cells #[.int .i64 a0_0, .int .i64 0, .int .i64 0, .string (⟨#[]⟩:ByteArray)] 28 (0,0))):=⟨by (with_reducible repeat first|apply zbN|apply zb1|apply zbA);refine zbp (cs:=#[.int .i64 a0_0, .int .i64 0, .int .i64 0, .string (⟨#[]⟩:ByteArray)]) ?_ 3 _ rfl;(with_reducible repeat first|apply zbN|apply zb1|apply zbA);refine zbp (cs:=#[.int .i64 a0_0, .int .i64 0, .int .i64 0, .string (⟨#[]⟩:ByteArray)]) ?_ 2 _ rfl;(with_reducible repeat first|apply zbN|apply zb1|apply zbA);refine zbp (cs:=#[.int .i64 a0_0, .int .i64 0, .int .i64 0, .string (⟨#[]⟩:ByteArray)]) ?_ 1 _ rfl;(with_reducible repeat first|apply zbN|apply zb1|apply zbA);refine zbp (cs:=#[.int .i64 0, .int .i64 0, .int .i64 0, .string (⟨#[]⟩:ByteArray)]) ?_ 0 _ rfl;(with_reducible repeat first|apply zbN|apply zb1|apply zbA);exact BK102.out⟩
         have n2_:Aside0 (Below w.heap.size w ((((w67.setCell ⟨gb102,0,none⟩ (.int .i64 a0_0)).setCell ⟨gb102,1,none⟩ (.int .i64 0)).setCell ⟨gb102,2,none⟩ (.int .i64 0)).setCell ⟨gb102,3,none⟩ (.string (⟨#[]⟩:ByteArray)))):=⟨by repeat first|(with_reducible first|exact HB.out|apply zA|apply zN|apply z1|refine zS ?_ GE101.out|refine zS ?_ GE102.out)|exact HB.out⟩
         (try clear BK101)
         (try clear BK102)
         (try clear HB)
         generalize ((((w67.setCell ⟨gb102,0,none⟩ (.int .i64 a0_0)).setCell ⟨gb102,1,none⟩ (.int .i64 0)).setCell ⟨gb102,2,none⟩ (.int .i64 0)).setCell ⟨gb102,3,none⟩ (.string (⟨#[]⟩:ByteArray))) = w71 at n0_ n1_ n2_ ⊢
         have BK101:=n0_
         have BK102:=n1_
         have HB:=n2_
         clear n0_ n1_ n2_
         have n0_:=z_ (zb1 BK101.out)
         have n1_:=z_ (zb1 BK102.out)
         have n2_:=z_ (z1 HB.out)
         clear BK101
         clear BK102
         clear HB
         have BK101:=n0_
         have BK102:=n1_
         have HB:=n2_
         clear n0_ n1_ n2_
         refine start_ (n:=10) (S:=fun w'=>w'.cell? ⟨gb101,0,none⟩ = some (.int .i64 a0_0) ∧ w'.cell? ⟨gb101,1,none⟩ = some (.int .i64 a0_1) ∧ w'.cell? ⟨gb101,2,none⟩ = some (.int .i64 a0_2) ∧ w'.cell? ⟨gb101,3,none⟩ = some (.string a0_3)) (ds:=[]) #[false,false,false,false,false,false,false,false,false,false] (by kernel_rfl) rfl rfl ⟨(zce BK101.out 0).trans rfl,(zce BK101.out 1).trans rfl,(zce BK101.out 2).trans rfl,(zce BK101.out 3).trans rfl⟩ (fun hHeld=>?_);refine with_tabW val_Right.tab10 val_Right.bits10 (fun HT_ HW_=>?_)
         generalize w71.drew = w72 at BK101 BK102 HB hHeld ⊢
         refine pure_ (i:=0) (N:=some 25) (v:=?_) (a':=?_) #[true,false,false,false,false,false,false,false,false,false] rfl rfl (any_of HT_.out (by kernel_rfl)) (fun _ _ _ h=>h) (Or.inl ⟨by rfl,?_⟩) ?_ ?_
         rotate_left
         ·intro w'
          go_simp
          with_reducible rfl
         rotate_left
         ·simp only [Act.put,List.setIfInBounds_toArray,List.set_cons_zero,List.set_cons_succ,i64_w,i32_w]
          rfl
         refine pure_ (i:=2) (N:=some 27) (v:=?_) (a':=?_) #[true,false,true,false,false,false,false,false,false,false] rfl rfl (any_of HT_.out (by kernel_rfl)) (fun _ _ _ h=>h) (Or.inl ⟨by rfl,?_⟩) ?_ ?_
         rotate_left
         ·intro w'
          go_simp
          with_reducible rfl
         rotate_left
         ·simp only [Act.put,List.setIfInBounds_toArray,List.set_cons_zero,List.set_cons_succ,i64_w,i32_w]
          rfl
         refine take_ (i:=1) (N:=some 26) (v:=?_) (a':=?_) #[true,true,true,false,false,false,false,false,false,false] rfl rfl (take_ofW HT_.out HW_.out (by kernel_rfl)) (fun _ _ _ h=>h) (Or.inl ⟨by rfl,?_⟩) hHeld ?_ ?_
         rotate_left
         ·rintro w' ⟨s0,s1,s2,s3⟩
          go_simp
          with_reducible rfl
         rotate_left
         ·simp only [Act.put,List.setIfInBounds_toArray,List.set_cons_zero,List.set_cons_succ,i64_w,i32_w]
          rfl
         refine pure_ (i:=6) (N:=some 31) (v:=?_) (a':=?_) #[true,true,true,false,false,false,true,false,false,false] rfl rfl (any_of HT_.out (by kernel_rfl)) (fun _ _ _ h=>h) (Or.inl ⟨by rfl,?_⟩) ?_ ?_
         rotate_left
         ·intro w'
          go_simp
          with_reducible rfl
         rotate_left
         ·simp only [Act.put,List.setIfInBounds_toArray,List.set_cons_zero,List.set_cons_succ,i64_w,i32_w]
          rfl
         refine take_ (i:=3) (N:=some 28) (v:=?_) (a':=?_) #[true,true,true,true,false,false,true,false,false,false] rfl rfl (take_ofW HT_.out HW_.out (by kernel_rfl)) (fun _ _ _ h=>h) (Or.inl ⟨by rfl,?_⟩) hHeld ?_ ?_
         rotate_left
         ·rintro w' ⟨s0,s1,s2,s3⟩
          go_simp
          with_reducible rfl
         rotate_left
         ·simp only [Act.put,List.setIfInBounds_toArray,List.set_cons_zero,List.set_cons_succ,i64_w,i32_w]
          rfl
         refine pure_ (i:=4) (N:=some 29) (v:=?_) (a':=?_) #[true,true,true,true,true,false,true,false,false,false] rfl rfl (any_of HT_.out (by kernel_rfl)) (fun _ _ _ h=>h) (Or.inl ⟨by rfl,?_⟩) ?_ ?_
         rotate_left
         ·intro w'
          go_simp
          with_reducible rfl
         rotate_left
         ·simp only [Act.put,List.setIfInBounds_toArray,List.set_cons_zero,List.set_cons_succ,i64_w,i32_w]
          rfl
         refine pure_ (i:=5) (N:=some 30) (v:=?_) (a':=?_) #[true,true,true,true,true,true,true,false,false,false] rfl rfl (any_of HT_.out (by kernel_rfl)) (fun _ _ _ h=>h) (Or.inl ⟨by rfl,?_⟩) ?_ ?_
         rotate_left
         ·intro w'
          go_simp
          with_reducible rfl
         rotate_left
         ·simp only [Act.put,List.setIfInBounds_toArray,List.set_cons_zero,List.set_cons_succ,i64_w,i32_w]
          rfl
         refine one_ (i:=7) (N:=none) #[true,true,true,true,true,true,true,true,false,false] rfl rfl (one_of HT_.out (by kernel_rfl)) (by decide) (fun K hK=>?_)
         have hs73:w72.cell? ⟨gb102,1,none⟩ = some (.int .i64 0):=(zce BK102.out 1).trans rfl
         have hfs73:=zfz BK102.out 1
         have hns73_0:=NB101_102.out
         have hms73_0:=NB102_101.out
         refine skip_ (w1:=?_) (by rfl) rfl ?_ ?_
         rotate_left
         ·go_simp
          rfl
         refine hK.out _ _ ⟨((cell_far (p:=⟨gb102,_,none⟩) NB101_102.out _).trans (hHeld.1)),((cell_far (p:=⟨gb102,_,none⟩) NB101_102.out _).trans (hHeld.2.1)),((cell_far (p:=⟨gb102,_,none⟩) NB101_102.out _).trans (hHeld.2.2.1)),((cell_far (p:=⟨gb102,_,none⟩) NB101_102.out _).trans (hHeld.2.2.2))⟩ (fun hHeld=>?_)
         clear hK K
         refine pure_ (i:=8) (N:=some 32) (v:=?_) (a':=?_) #[true,true,true,true,true,true,true,true,true,false] rfl rfl (any_of HT_.out (by kernel_rfl)) (fun _ _ _ h=>h) (Or.inl ⟨by rfl,?_⟩) ?_ ?_
         rotate_left
         ·intro w'
          go_simp
          with_reducible rfl
         rotate_left
         ·simp only [Act.put,List.setIfInBounds_toArray,List.set_cons_zero,List.set_cons_succ,i64_w,i32_w]
          rfl
         refine one_ (i:=9) (N:=none) #[true,true,true,true,true,true,true,true,true,true] rfl rfl (one_of HT_.out (by kernel_rfl)) (by decide) (fun K hK=>?_)
         have hs74:w72.cell? ⟨gb102,2,none⟩ = some (.int .i64 0):=(zce BK102.out 2).trans rfl
         have hfs74:=zfz BK102.out 2
         have hns74_0:=NB101_102.out
         have hms74_0:=NB102_101.out
         refine skip_ (w1:=?_) (by rfl) rfl ?_ ?_
         rotate_left
         ·go_simp
          rfl
         refine hK.out _ _ ⟨((cell_far (p:=⟨gb102,_,none⟩) NB101_102.out _).trans (hHeld.1)),((cell_far (p:=⟨gb102,_,none⟩) NB101_102.out _).trans (hHeld.2.1)),((cell_far (p:=⟨gb102,_,none⟩) NB101_102.out _).trans (hHeld.2.2.1)),((cell_far (p:=⟨gb102,_,none⟩) NB101_102.out _).trans (hHeld.2.2.2))⟩ (fun hHeld=>?_)
         clear hK K
         refine done_ (done_of HT_.out (by kernel_rfl)) ?_
         have hcz75_0:w72.cell? ⟨gb101,0,none⟩ = some (.int .i64 a0_0):=(zce BK101.out 0).trans rfl
         have hcz75_1:w72.cell? ⟨gb101,1,none⟩ = some (.int .i64 a0_1):=(zce BK101.out 1).trans rfl
         have hcz75_2:w72.cell? ⟨gb101,2,none⟩ = some (.int .i64 a0_2):=(zce BK101.out 2).trans rfl
         have hcz75_3:w72.cell? ⟨gb101,3,none⟩ = some (.string a0_3):=(zce BK101.out 3).trans rfl
         have hfz75_0:=zfz BK101.out 0
         have hfz75_1:=zfz BK101.out 1
         have hfz75_2:=zfz BK101.out 2
         have hfz75_3:=zfz BK101.out 3
         have hcz76_0:w72.cell? ⟨gb102,0,none⟩ = some (.int .i64 a0_0):=(zce BK102.out 0).trans rfl
         have hcz76_1:w72.cell? ⟨gb102,1,none⟩ = some (.int .i64 0):=(zce BK102.out 1).trans rfl
         have hcz76_2:w72.cell? ⟨gb102,2,none⟩ = some (.int .i64 0):=(zce BK102.out 2).trans rfl
         have hcz76_3:w72.cell? ⟨gb102,3,none⟩ = some (.string (⟨#[]⟩:ByteArray)):=(zce BK102.out 3).trans rfl
         have hfz76_0:=zfz BK102.out 0
         have hfz76_1:=zfz BK102.out 1
         have hfz76_2:=zfz BK102.out 2
         have hfz76_3:=zfz BK102.out 3
         try go_wp2
         go_ret
         exact ⟨by first|rfl|(simp [errW_none,errW_some] <;> rfl)|(simp only [← hji26,← hji27];first|rfl|(simp [errW_none,errW_some] <;> rfl))|(simp [*,errW_none,errW_some] <;> rfl),by repeat first|(with_reducible first|exact HB.out|apply zA|apply zN|apply z1|refine zS ?_ GE101.out|refine zS ?_ GE102.out)|exact HB.out⟩
       ·rw [if_neg c52] at H
        have c52b0:decide (0 < a0_2) = false:=decide_eq_false c52
        clear c52
        obtain rfl:=Option.some.inj H
        go_enter Tryz.func142,Tryz.ntmps142
        try go_wp2_with (first|((with_reducible refine gate_dst (N:=1) rfl ?_);refine box_event ?hg (N:=1) ?hd (cs:=#[.int .i64 a0_0, .int .i64 a0_1, .int .i64 a0_2, .string a0_3]) (t:=28) ?hr ?_;(case hd=>rfl);(case hg=>rfl);(case hr=>first|(go_simp;done)|(go_simp;rfl));intro gb101 hg w77 hbox hb;have n0_:=z_ (below_step (by repeat first|(with_reducible first|exact HB.out|apply zA|apply zN|apply z1)|exact HB.out) hb);have n1_:=z_ (hbox);have n2_:=z_ ((by rw [hg];exact (zBs (by repeat first|(with_reducible first|exact HB.out|apply zA|apply zN|apply z1)|exact HB.out)):w.heap.size ≤ gb101));have n3_:=z_ ((by rw [hg];exact (zBs (by repeat first|(with_reducible first|exact HB.out|apply zA|apply zN|apply z1)|exact HB.out)):w.heap.size ≤ gb101));clear HB;have HB:=n0_;have BK101:=n1_;have GW101:=n2_;have GE101:=n3_;clear n0_ n1_ n2_ n3_;clear hb hbox hg;have hcz78_0:w77.cell? ⟨gb101,0,none⟩ = some (.int .i64 a0_0):=(zce BK101.out 0).trans rfl;have hcz78_1:w77.cell? ⟨gb101,1,none⟩ = some (.int .i64 a0_1):=(zce BK101.out 1).trans rfl;have hcz78_2:w77.cell? ⟨gb101,2,none⟩ = some (.int .i64 a0_2):=(zce BK101.out 2).trans rfl;have hcz78_3:w77.cell? ⟨gb101,3,none⟩ = some (.string a0_3):=(zce BK101.out 3).trans rfl;have hfz78_0:=zfz BK101.out 0;have hfz78_1:=zfz BK101.out 1;have hfz78_2:=zfz BK101.out 2;have hfz78_3:=zfz BK101.out 3)|((with_reducible refine gate_dst (N:=3) rfl ?_);refine box_event ?hg (N:=3) ?hd (cs:=#[.int .i64 0, .int .i64 0, .int .i64 0, .string (⟨#[]⟩:ByteArray)]) (t:=28) ?hr ?_;(case hd=>rfl);(case hg=>rfl);(case hr=>first|(go_simp;done)|(go_simp;rfl));intro gb102 hg w79 hbox hb;have n0_:=z_ (zbb (g:=gb101) (o:=.cells #[.int .i64 a0_0, .int .i64 a0_1, .int .i64 a0_2, .string a0_3] 28 (0,0)) (by (with_reducible repeat first|apply zbN|apply zb1|apply zbA);exact BK101.out) hb);have n1_:=z_ (below_step (by repeat first|(with_reducible first|exact HB.out|apply zA|apply zN|apply z1|refine zS ?_ GE101.out)|exact HB.out) hb);have n2_:=z_ (hbox);have n3_:=z_ ((by rw [hg];exact (zBs (by repeat first|(with_reducible first|exact HB.out|apply zA|apply zN|apply z1|refine zS ?_ GE101.out)|exact HB.out)):w.heap.size ≤ gb102));have n4_:=z_ ((by rw [hg];exact (zBs (by repeat first|(with_reducible first|exact HB.out|apply zA|apply zN|apply z1|refine zS ?_ GE101.out)|exact HB.out)):w.heap.size ≤ gb102));have n5_:=z_ ((by rw [hg];exact Nat.ne_of_lt (blk_lt (g:=gb101) (o:=.cells #[.int .i64 a0_0, .int .i64 a0_1, .int .i64 a0_2, .string a0_3] 28 (0,0)) (by (with_reducible repeat first|apply zbN|apply zb1|apply zbA);exact BK101.out)):gb101 ≠ gb102));have n6_:=z_ ((by rw [hg];exact Nat.ne_of_gt (blk_lt (g:=gb101) (o:=.cells #[.int .i64 a0_0, .int .i64 a0_1, .int .i64 a0_2, .string a0_3] 28 (0,0)) (by (with_reducible repeat first|apply zbN|apply zb1|apply zbA);exact BK101.out)):gb102 ≠ gb101));clear BK101;clear HB;have BK101:=n0_;have HB:=n1_;have BK102:=n2_;have GW102:=n3_;have GE102:=n4_;have NB101_102:=n5_;have NB102_101:=n6_;clear n0_ n1_ n2_ n3_ n4_ n5_ n6_;clear hb hbox hg;have hnb80:=NB102_101.out;have hnc80:=NB101_102.out;have hcz81_0:w79.cell? ⟨gb102,0,none⟩ = some (.int .i64 0):=(zce BK102.out 0).trans rfl;have hcz81_1:w79.cell? ⟨gb102,1,none⟩ = some (.int .i64 0):=(zce BK102.out 1).trans rfl;have hcz81_2:w79.cell? ⟨gb102,2,none⟩ = some (.int .i64 0):=(zce BK102.out 2).trans rfl;have hcz81_3:w79.cell? ⟨gb102,3,none⟩ = some (.string (⟨#[]⟩:ByteArray)):=(zce BK102.out 3).trans rfl;have hfz81_0:=zfz BK102.out 0;have hfz81_1:=zfz BK102.out 1;have hfz81_2:=zfz BK102.out 2;have hfz81_3:=zfz BK102.out 3;have hcz82_0:w79.cell? ⟨gb101,0,none⟩ = some (.int .i64 a0_0):=(zce BK101.out 0).trans rfl;have hcz82_1:w79.cell? ⟨gb101,1,none⟩ = some (.int .i64 a0_1):=(zce BK101.out 1).trans rfl;have hcz82_2:w79.cell? ⟨gb101,2,none⟩ = some (.int .i64 a0_2):=(zce BK101.out 2).trans rfl;have hcz82_3:w79.cell? ⟨gb101,3,none⟩ = some (.string a0_3):=(zce BK101.out 3).trans rfl;have hfz82_0:=zfz BK101.out 0;have hfz82_1:=zfz BK101.out 1;have hfz82_2:=zfz BK101.out 2;have hfz82_3:=zfz BK101.out 3))
        have n0_:Aside0 (((((w79.setCell ⟨gb102,0,none⟩ (.int .i64 a0_0)).setCell ⟨gb102,1,none⟩ (.int .i64 0)).setCell ⟨gb102,2,none⟩ (.int .i64 0)).setCell ⟨gb102,3,none⟩ (.string (⟨#[]⟩:ByteArray))).heap[gb101]? = some (.cells #[.int .i64 a0_0, .int .i64 a0_1, .int .i64 a0_2, .string a0_3] 28 (0,0))):=⟨by (with_reducible repeat first|apply zbN|apply zb1|apply zbA);refine zbf ?_ NB101_102.out _;(with_reducible repeat first|apply zbN|apply zb1|apply zbA);refine zbf ?_ NB101_102.out _;(with_reducible repeat first|apply zbN|apply zb1|apply zbA);refine zbf ?_ NB101_102.out _;(with_reducible repeat first|apply zbN|apply zb1|apply zbA);refine zbf ?_ NB101_102.out _;(with_reducible repeat first|apply zbN|apply zb1|apply zbA);exact BK101.out⟩
        have n1_:Aside0 (((((w79.setCell ⟨gb102,0,none⟩ (.int .i64 a0_0)).setCell ⟨gb102,1,none⟩ (.int .i64 0)).setCell ⟨gb102,2,none⟩ (.int .i64 0)).setCell ⟨gb102,3,none⟩ (.string (⟨#[]⟩:ByteArray))).heap[gb102]? = some (.cells #[.int .i64 a0_0, .int .i64 0, .int .i64 0, .string (⟨#[]⟩:ByteArray)] 28 (0,0))):=⟨by (with_reducible repeat first|apply zbN|apply zb1|apply zbA);refine zbp (cs:=#[.int .i64 a0_0, .int .i64 0, .int .i64 0, .string (⟨#[]⟩:ByteArray)]) ?_ 3 _ rfl;(with_reducible repeat first|apply zbN|apply zb1|apply zbA);refine zbp (cs:=#[.int .i64 a0_0, .int .i64 0, .int .i64 0, .string (⟨#[]⟩:ByteArray)]) ?_ 2 _ rfl;(with_reducible repeat first|apply zbN|apply zb1|apply zbA);refine zbp (cs:=#[.int .i64 a0_0, .int .i64 0, .int .i64 0, .string (⟨#[]⟩:ByteArray)]) ?_ 1 _ rfl;(with_reducible repeat first|apply zbN|apply zb1|apply zbA);refine zbp (cs:=#[.int .i64 0, .int .i64 0, .int .i64 0, .string (⟨#[]⟩:ByteArray)]) ?_ 0 _ rfl;(with_reducible repeat first|apply zbN|apply zb1|apply zbA);exact BK102.out⟩
        have n2_:Aside0 (Below w.heap.size w ((((w79.setCell ⟨gb102,0,none⟩ (.int .i64 a0_0)).setCell ⟨gb102,1,none⟩ (.int .i64 0)).setCell ⟨gb102,2,none⟩ (.int .i64 0)).setCell ⟨gb102,3,none⟩ (.string (⟨#[]⟩:ByteArray)))):=⟨by repeat first|(with_reducible first|exact HB.out|apply zA|apply zN|apply z1|refine zS ?_ GE101.out|refine zS ?_ GE102.out)|exact HB.out⟩
        (try clear BK101)
        (try clear BK102)
        (try clear HB)
        generalize ((((w79.setCell ⟨gb102,0,none⟩ (.int .i64 a0_0)).setCell ⟨gb102,1,none⟩ (.int .i64 0)).setCell ⟨gb102,2,none⟩ (.int .i64 0)).setCell ⟨gb102,3,none⟩ (.string (⟨#[]⟩:ByteArray))) = w83 at n0_ n1_ n2_ ⊢
        have BK101:=n0_
        have BK102:=n1_
        have HB:=n2_
        clear n0_ n1_ n2_
        have n0_:=z_ (zb1 BK101.out)
        have n1_:=z_ (zb1 BK102.out)
        have n2_:=z_ (z1 HB.out)
        clear BK101
        clear BK102
        clear HB
        have BK101:=n0_
        have BK102:=n1_
        have HB:=n2_
        clear n0_ n1_ n2_
        refine start_ (n:=10) (S:=fun w'=>w'.cell? ⟨gb101,0,none⟩ = some (.int .i64 a0_0) ∧ w'.cell? ⟨gb101,1,none⟩ = some (.int .i64 a0_1) ∧ w'.cell? ⟨gb101,2,none⟩ = some (.int .i64 a0_2) ∧ w'.cell? ⟨gb101,3,none⟩ = some (.string a0_3)) (ds:=[]) #[false,false,false,false,false,false,false,false,false,false] (by kernel_rfl) rfl rfl ⟨(zce BK101.out 0).trans rfl,(zce BK101.out 1).trans rfl,(zce BK101.out 2).trans rfl,(zce BK101.out 3).trans rfl⟩ (fun hHeld=>?_);refine with_tabW val_Right.tab10 val_Right.bits10 (fun HT_ HW_=>?_)
        generalize w83.drew = w84 at BK101 BK102 HB hHeld ⊢
        refine pure_ (i:=0) (N:=some 25) (v:=?_) (a':=?_) #[true,false,false,false,false,false,false,false,false,false] rfl rfl (any_of HT_.out (by kernel_rfl)) (fun _ _ _ h=>h) (Or.inl ⟨by rfl,?_⟩) ?_ ?_
        rotate_left
        ·intro w'
         go_simp
         with_reducible rfl
        rotate_left
        ·simp only [Act.put,List.setIfInBounds_toArray,List.set_cons_zero,List.set_cons_succ,i64_w,i32_w]
         rfl
        refine pure_ (i:=2) (N:=some 27) (v:=?_) (a':=?_) #[true,false,true,false,false,false,false,false,false,false] rfl rfl (any_of HT_.out (by kernel_rfl)) (fun _ _ _ h=>h) (Or.inl ⟨by rfl,?_⟩) ?_ ?_
        rotate_left
        ·intro w'
         go_simp
         with_reducible rfl
        rotate_left
        ·simp only [Act.put,List.setIfInBounds_toArray,List.set_cons_zero,List.set_cons_succ,i64_w,i32_w]
         rfl
        refine take_ (i:=1) (N:=some 26) (v:=?_) (a':=?_) #[true,true,true,false,false,false,false,false,false,false] rfl rfl (take_ofW HT_.out HW_.out (by kernel_rfl)) (fun _ _ _ h=>h) (Or.inl ⟨by rfl,?_⟩) hHeld ?_ ?_
        rotate_left
        ·rintro w' ⟨s0,s1,s2,s3⟩
         go_simp
         with_reducible rfl
        rotate_left
        ·simp only [Act.put,List.setIfInBounds_toArray,List.set_cons_zero,List.set_cons_succ,i64_w,i32_w]
         rfl
        refine pure_ (i:=6) (N:=some 31) (v:=?_) (a':=?_) #[true,true,true,false,false,false,true,false,false,false] rfl rfl (any_of HT_.out (by kernel_rfl)) (fun _ _ _ h=>h) (Or.inl ⟨by rfl,?_⟩) ?_ ?_
        rotate_left
        ·intro w'
         go_simp
         with_reducible rfl
        rotate_left
        ·simp only [Act.put,List.setIfInBounds_toArray,List.set_cons_zero,List.set_cons_succ,i64_w,i32_w]
         rfl
        refine take_ (i:=3) (N:=some 28) (v:=?_) (a':=?_) #[true,true,true,true,false,false,true,false,false,false] rfl rfl (take_ofW HT_.out HW_.out (by kernel_rfl)) (fun _ _ _ h=>h) (Or.inl ⟨by rfl,?_⟩) hHeld ?_ ?_
        rotate_left
        ·rintro w' ⟨s0,s1,s2,s3⟩
         go_simp
         with_reducible rfl
        rotate_left
        ·simp only [Act.put,List.setIfInBounds_toArray,List.set_cons_zero,List.set_cons_succ,i64_w,i32_w]
         rfl
        refine pure_ (i:=4) (N:=some 29) (v:=?_) (a':=?_) #[true,true,true,true,true,false,true,false,false,false] rfl rfl (any_of HT_.out (by kernel_rfl)) (fun _ _ _ h=>h) (Or.inl ⟨by rfl,?_⟩) ?_ ?_
        rotate_left
        ·intro w'
         go_simp
         with_reducible rfl
        rotate_left
        ·simp only [Act.put,List.setIfInBounds_toArray,List.set_cons_zero,List.set_cons_succ,i64_w,i32_w]
         rfl
        refine pure_ (i:=5) (N:=some 30) (v:=?_) (a':=?_) #[true,true,true,true,true,true,true,false,false,false] rfl rfl (any_of HT_.out (by kernel_rfl)) (fun _ _ _ h=>h) (Or.inl ⟨by rfl,?_⟩) ?_ ?_
        rotate_left
        ·intro w'
         go_simp
         with_reducible rfl
        rotate_left
        ·simp only [Act.put,List.setIfInBounds_toArray,List.set_cons_zero,List.set_cons_succ,i64_w,i32_w]
         rfl
        refine one_ (i:=7) (N:=none) #[true,true,true,true,true,true,true,true,false,false] rfl rfl (one_of HT_.out (by kernel_rfl)) (by decide) (fun K hK=>?_)
        have hs85:w84.cell? ⟨gb102,1,none⟩ = some (.int .i64 0):=(zce BK102.out 1).trans rfl
        have hfs85:=zfz BK102.out 1
        have hns85_0:=NB101_102.out
        have hms85_0:=NB102_101.out
        refine skip_ (w1:=?_) (by rfl) rfl ?_ ?_
        rotate_left
        ·go_simp
         rfl
        refine hK.out _ _ ⟨((cell_far (p:=⟨gb102,_,none⟩) NB101_102.out _).trans (hHeld.1)),((cell_far (p:=⟨gb102,_,none⟩) NB101_102.out _).trans (hHeld.2.1)),((cell_far (p:=⟨gb102,_,none⟩) NB101_102.out _).trans (hHeld.2.2.1)),((cell_far (p:=⟨gb102,_,none⟩) NB101_102.out _).trans (hHeld.2.2.2))⟩ (fun hHeld=>?_)
        clear hK K
        refine pure_ (i:=8) (N:=some 32) (v:=?_) (a':=?_) #[true,true,true,true,true,true,true,true,true,false] rfl rfl (any_of HT_.out (by kernel_rfl)) (fun _ _ _ h=>h) (Or.inl ⟨by rfl,?_⟩) ?_ ?_
        rotate_left
        ·intro w'
         go_simp
         with_reducible rfl
        rotate_left
        ·simp only [Act.put,List.setIfInBounds_toArray,List.set_cons_zero,List.set_cons_succ,i64_w,i32_w]
         rfl
        refine one_ (i:=9) (N:=none) #[true,true,true,true,true,true,true,true,true,true] rfl rfl (one_of HT_.out (by kernel_rfl)) (by decide) (fun K hK=>?_)
        have hs86:w84.cell? ⟨gb102,2,none⟩ = some (.int .i64 0):=(zce BK102.out 2).trans rfl
        have hfs86:=zfz BK102.out 2
        have hns86_0:=NB101_102.out
        have hms86_0:=NB102_101.out
        refine skip_ (w1:=?_) (by rfl) rfl ?_ ?_
        rotate_left
        ·go_simp
         rfl
        refine hK.out _ _ ⟨((cell_far (p:=⟨gb102,_,none⟩) NB101_102.out _).trans (hHeld.1)),((cell_far (p:=⟨gb102,_,none⟩) NB101_102.out _).trans (hHeld.2.1)),((cell_far (p:=⟨gb102,_,none⟩) NB101_102.out _).trans (hHeld.2.2.1)),((cell_far (p:=⟨gb102,_,none⟩) NB101_102.out _).trans (hHeld.2.2.2))⟩ (fun hHeld=>?_)
        clear hK K
        refine done_ (done_of HT_.out (by kernel_rfl)) ?_
        have hcz87_0:w84.cell? ⟨gb101,0,none⟩ = some (.int .i64 a0_0):=(zce BK101.out 0).trans rfl
        have hcz87_1:w84.cell? ⟨gb101,1,none⟩ = some (.int .i64 a0_1):=(zce BK101.out 1).trans rfl
        have hcz87_2:w84.cell? ⟨gb101,2,none⟩ = some (.int .i64 a0_2):=(zce BK101.out 2).trans rfl
        have hcz87_3:w84.cell? ⟨gb101,3,none⟩ = some (.string a0_3):=(zce BK101.out 3).trans rfl
        have hfz87_0:=zfz BK101.out 0
        have hfz87_1:=zfz BK101.out 1
        have hfz87_2:=zfz BK101.out 2
        have hfz87_3:=zfz BK101.out 3
        have hcz88_0:w84.cell? ⟨gb102,0,none⟩ = some (.int .i64 a0_0):=(zce BK102.out 0).trans rfl
        have hcz88_1:w84.cell? ⟨gb102,1,none⟩ = some (.int .i64 0):=(zce BK102.out 1).trans rfl
        have hcz88_2:w84.cell? ⟨gb102,2,none⟩ = some (.int .i64 0):=(zce BK102.out 2).trans rfl
        have hcz88_3:w84.cell? ⟨gb102,3,none⟩ = some (.string (⟨#[]⟩:ByteArray)):=(zce BK102.out 3).trans rfl
        have hfz88_0:=zfz BK102.out 0
        have hfz88_1:=zfz BK102.out 1
        have hfz88_2:=zfz BK102.out 2
        have hfz88_3:=zfz BK102.out 3
        try go_wp2
        go_ret
        exact ⟨by first|rfl|(simp [errW_none,errW_some] <;> rfl)|(simp only [← hji26,← hji27];first|rfl|(simp [errW_none,errW_some] <;> rfl))|(simp [*,errW_none,errW_some] <;> rfl),by repeat first|(with_reducible first|exact HB.out|apply zA|apply zN|apply z1|refine zS ?_ GE101.out|refine zS ?_ GE102.out)|exact HB.out⟩
    ·rw [if_neg c25] at H
     have c25b0:(a0_0 == 3) = false:=beq_eq_false_iff_ne.mpr c25
     have c25b1:(a0_0 != 3) = true:=bne_iff_ne.mpr c25
     have HC89:=z_ H
     clear H
     go_enter Tryz.func142,Tryz.ntmps142
     go_upto_if 52 with (first|((with_reducible refine gate_dst (N:=1) rfl ?_);refine box_event ?hg (N:=1) ?hd (cs:=#[.int .i64 a0_0, .int .i64 a0_1, .int .i64 a0_2, .string a0_3]) (t:=28) ?hr ?_;(case hd=>rfl);(case hg=>rfl);(case hr=>first|(go_simp;done)|(go_simp;rfl));intro gb101 hg w90 hbox hb;have n0_:=z_ (below_step (by repeat first|(with_reducible first|exact HB.out|apply zA|apply zN|apply z1)|exact HB.out) hb);have n1_:=z_ (hbox);have n2_:=z_ ((by rw [hg];exact (zBs (by repeat first|(with_reducible first|exact HB.out|apply zA|apply zN|apply z1)|exact HB.out)):w.heap.size ≤ gb101));have n3_:=z_ ((by rw [hg];exact (zBs (by repeat first|(with_reducible first|exact HB.out|apply zA|apply zN|apply z1)|exact HB.out)):w.heap.size ≤ gb101));clear HB;have HB:=n0_;have BK101:=n1_;have GW101:=n2_;have GE101:=n3_;clear n0_ n1_ n2_ n3_;clear hb hbox hg;have hcz91_0:w90.cell? ⟨gb101,0,none⟩ = some (.int .i64 a0_0):=(zce BK101.out 0).trans rfl;have hcz91_1:w90.cell? ⟨gb101,1,none⟩ = some (.int .i64 a0_1):=(zce BK101.out 1).trans rfl;have hcz91_2:w90.cell? ⟨gb101,2,none⟩ = some (.int .i64 a0_2):=(zce BK101.out 2).trans rfl;have hcz91_3:w90.cell? ⟨gb101,3,none⟩ = some (.string a0_3):=(zce BK101.out 3).trans rfl;have hfz91_0:=zfz BK101.out 0;have hfz91_1:=zfz BK101.out 1;have hfz91_2:=zfz BK101.out 2;have hfz91_3:=zfz BK101.out 3)|((with_reducible refine gate_dst (N:=3) rfl ?_);refine box_event ?hg (N:=3) ?hd (cs:=#[.int .i64 0, .int .i64 0, .int .i64 0, .string (⟨#[]⟩:ByteArray)]) (t:=28) ?hr ?_;(case hd=>rfl);(case hg=>rfl);(case hr=>first|(go_simp;done)|(go_simp;rfl));intro gb102 hg w92 hbox hb;have n0_:=z_ (zbb (g:=gb101) (o:=.cells #[.int .i64 a0_0, .int .i64 a0_1, .int .i64 a0_2, .string a0_3] 28 (0,0)) (by (with_reducible repeat first|apply zbN|apply zb1|apply zbA);exact BK101.out) hb);have n1_:=z_ (below_step (by repeat first|(with_reducible first|exact HB.out|apply zA|apply zN|apply z1|refine zS ?_ GE101.out)|exact HB.out) hb);have n2_:=z_ (hbox);have n3_:=z_ ((by rw [hg];exact (zBs (by repeat first|(with_reducible first|exact HB.out|apply zA|apply zN|apply z1|refine zS ?_ GE101.out)|exact HB.out)):w.heap.size ≤ gb102));have n4_:=z_ ((by rw [hg];exact (zBs (by repeat first|(with_reducible first|exact HB.out|apply zA|apply zN|apply z1|refine zS ?_ GE101.out)|exact HB.out)):w.heap.size ≤ gb102));have n5_:=z_ ((by rw [hg];exact Nat.ne_of_lt (blk_lt (g:=gb101) (o:=.cells #[.int .i64 a0_0, .int .i64 a0_1, .int .i64 a0_2, .string a0_3] 28 (0,0)) (by (with_reducible repeat first|apply zbN|apply zb1|apply zbA);exact BK101.out)):gb101 ≠ gb102));have n6_:=z_ ((by rw [hg];exact Nat.ne_of_gt (blk_lt (g:=gb101) (o:=.cells #[.int .i64 a0_0, .int .i64 a0_1, .int .i64 a0_2, .string a0_3] 28 (0,0)) (by (with_reducible repeat first|apply zbN|apply zb1|apply zbA);exact BK101.out)):gb102 ≠ gb101));clear BK101;clear HB;have BK101:=n0_;have HB:=n1_;have BK102:=n2_;have GW102:=n3_;have GE102:=n4_;have NB101_102:=n5_;have NB102_101:=n6_;clear n0_ n1_ n2_ n3_ n4_ n5_ n6_;clear hb hbox hg;have hnb93:=NB102_101.out;have hnc93:=NB101_102.out;have hcz94_0:w92.cell? ⟨gb102,0,none⟩ = some (.int .i64 0):=(zce BK102.out 0).trans rfl;have hcz94_1:w92.cell? ⟨gb102,1,none⟩ = some (.int .i64 0):=(zce BK102.out 1).trans rfl;have hcz94_2:w92.cell? ⟨gb102,2,none⟩ = some (.int .i64 0):=(zce BK102.out 2).trans rfl;have hcz94_3:w92.cell? ⟨gb102,3,none⟩ = some (.string (⟨#[]⟩:ByteArray)):=(zce BK102.out 3).trans rfl;have hfz94_0:=zfz BK102.out 0;have hfz94_1:=zfz BK102.out 1;have hfz94_2:=zfz BK102.out 2;have hfz94_3:=zfz BK102.out 3;have hcz95_0:w92.cell? ⟨gb101,0,none⟩ = some (.int .i64 a0_0):=(zce BK101.out 0).trans rfl;have hcz95_1:w92.cell? ⟨gb101,1,none⟩ = some (.int .i64 a0_1):=(zce BK101.out 1).trans rfl;have hcz95_2:w92.cell? ⟨gb101,2,none⟩ = some (.int .i64 a0_2):=(zce BK101.out 2).trans rfl;have hcz95_3:w92.cell? ⟨gb101,3,none⟩ = some (.string a0_3):=(zce BK101.out 3).trans rfl;have hfz95_0:=zfz BK101.out 0;have hfz95_1:=zfz BK101.out 1;have hfz95_2:=zfz BK101.out 2;have hfz95_3:=zfz BK101.out 3))
     (try simp only [Act.put,List.setIfInBounds_toArray,List.set_cons_zero,List.set_cons_succ])
     go_cut [52] (fun v52 wc=>∃ (kq:Nat) (x52_88:Bool),v52 = .bool x52_88 ∧ Aside0 (val_Right.j0 kq x52_88 a0_0 a0_1 a0_2 a0_3 a0_0 0 0 (⟨#[]⟩:ByteArray) = some r) ∧ Aside0 (kq ≤ k) ∧ Aside0 (wc.heap[gb101]? = some (.cells #[.int .i64 a0_0, .int .i64 a0_1, .int .i64 a0_2, .string a0_3] 28 (0,0))) ∧ Aside0 (wc.heap[gb102]? = some (.cells #[.int .i64 a0_0, .int .i64 0, .int .i64 0, .string (⟨#[]⟩:ByteArray)] 28 (0,0))) ∧ Aside0 (Below w.heap.size w wc))
     case first =>
      have H:=HC89.out
      clear HC89
      by_cases c96:a0_0 = 4
      ·rw [if_pos c96] at H
       have c96b0:(a0_0 == 4) = true:=beq_iff_eq.mpr c96
       have c96b1:(a0_0 != 4) = false:=bne_eq_false_iff_eq.mpr c96
       clear c96
       (first|rw [c96b0]|(simp only [i64_w,i32_w];rw [c96b0])|skip)
       have H':=z_ H
       clear H
       go_wp2
       go_meet
       case rel=>exact ⟨_,((a0_0 == 4)),(by first|rfl|(simp;done)|(simp [*];done)),(by first|with_reducible exact H'|(rw [hji27];exact H')|exact H'),⟨by first|omega|exact Nat.le_refl _⟩,⟨by (with_reducible repeat first|apply zbN|apply zb1|apply zbA);refine zbf ?_ NB101_102.out _;(with_reducible repeat first|apply zbN|apply zb1|apply zbA);refine zbf ?_ NB101_102.out _;(with_reducible repeat first|apply zbN|apply zb1|apply zbA);refine zbf ?_ NB101_102.out _;(with_reducible repeat first|apply zbN|apply zb1|apply zbA);refine zbf ?_ NB101_102.out _;(with_reducible repeat first|apply zbN|apply zb1|apply zbA);exact BK101.out⟩,⟨by (with_reducible repeat first|apply zbN|apply zb1|apply zbA);refine zbp (cs:=#[.int .i64 a0_0, .int .i64 0, .int .i64 0, .string (⟨#[]⟩:ByteArray)]) ?_ 3 _ rfl;(with_reducible repeat first|apply zbN|apply zb1|apply zbA);refine zbp (cs:=#[.int .i64 a0_0, .int .i64 0, .int .i64 0, .string (⟨#[]⟩:ByteArray)]) ?_ 2 _ rfl;(with_reducible repeat first|apply zbN|apply zb1|apply zbA);refine zbp (cs:=#[.int .i64 a0_0, .int .i64 0, .int .i64 0, .string (⟨#[]⟩:ByteArray)]) ?_ 1 _ rfl;(with_reducible repeat first|apply zbN|apply zb1|apply zbA);refine zbp (cs:=#[.int .i64 0, .int .i64 0, .int .i64 0, .string (⟨#[]⟩:ByteArray)]) ?_ 0 _ rfl;(with_reducible repeat first|apply zbN|apply zb1|apply zbA);exact BK102.out⟩,⟨by repeat first|(with_reducible first|exact HB.out|apply zA|apply zN|apply z1|refine zS ?_ GE101.out|refine zS ?_ GE102.out)|exact HB.out⟩⟩
      ·rw [if_neg c96] at H
       have c96b0:(a0_0 == 4) = false:=beq_eq_false_iff_ne.mpr c96
       have c96b1:(a0_0 != 4) = true:=bne_iff_ne.mpr c96
       (first|rw [c96b0]|(simp only [i64_w,i32_w];rw [c96b0])|skip)
       have H':=z_ H
       clear H
       go_wp2
       go_meet
       case rel=>exact ⟨_,((a0_0 == 5)),(by first|rfl|(simp;done)|(simp [*];done)),(by first|with_reducible exact H'|(rw [hji27];exact H')|exact H'),⟨by first|omega|exact Nat.le_refl _⟩,⟨by (with_reducible repeat first|apply zbN|apply zb1|apply zbA);refine zbf ?_ NB101_102.out _;(with_reducible repeat first|apply zbN|apply zb1|apply zbA);refine zbf ?_ NB101_102.out _;(with_reducible repeat first|apply zbN|apply zb1|apply zbA);refine zbf ?_ NB101_102.out _;(with_reducible repeat first|apply zbN|apply zb1|apply zbA);refine zbf ?_ NB101_102.out _;(with_reducible repeat first|apply zbN|apply zb1|apply zbA);exact BK101.out⟩,⟨by (with_reducible repeat first|apply zbN|apply zb1|apply zbA);refine zbp (cs:=#[.int .i64 a0_0, .int .i64 0, .int .i64 0, .string (⟨#[]⟩:ByteArray)]) ?_ 3 _ rfl;(with_reducible repeat first|apply zbN|apply zb1|apply zbA);refine zbp (cs:=#[.int .i64 a0_0, .int .i64 0, .int .i64 0, .string (⟨#[]⟩:ByteArray)]) ?_ 2 _ rfl;(with_reducible repeat first|apply zbN|apply zb1|apply zbA);refine zbp (cs:=#[.int .i64 a0_0, .int .i64 0, .int .i64 0, .string (⟨#[]⟩:ByteArray)]) ?_ 1 _ rfl;(with_reducible repeat first|apply zbN|apply zb1|apply zbA);refine zbp (cs:=#[.int .i64 0, .int .i64 0, .int .i64 0, .string (⟨#[]⟩:ByteArray)]) ?_ 0 _ rfl;(with_reducible repeat first|apply zbN|apply zb1|apply zbA);exact BK102.out⟩,⟨by repeat first|(with_reducible first|exact HB.out|apply zA|apply zN|apply z1|refine zS ?_ GE101.out|refine zS ?_ GE102.out)|exact HB.out⟩⟩
     case rest =>
      clear HC89
      try clear c1
      try clear c2
      try clear p2
      try clear c4
      try clear c5
      try clear c6
      try clear c8
      try clear c9
      try clear c14
      try clear c25
      try clear c25b0
      try clear c25b1
      try clear c28
      try clear c28b0
      try clear c40
      try clear c40b0
      try clear c44
      try clear c52
      try clear c52b0
      try clear c53
      try clear c53b0
      try clear c53b1
      try clear c57
      try clear c68
      try clear c80
      try clear c93
      try clear c96
      try clear c96b0
      try clear c96b1
      try clear hcz39_0
      try clear hcz39_1
      try clear hcz39_2
      try clear hcz39_3
      try clear hcz42_0
      try clear hcz42_1
      try clear hcz42_2
      try clear hcz42_3
      try clear hcz45_0
      try clear hcz45_1
      try clear hcz45_2
      try clear hcz45_3
      try clear hcz46_0
      try clear hcz46_1
      try clear hcz46_2
      try clear hcz46_3
      try clear hcz51_0
      try clear hcz51_1
      try clear hcz51_2
      try clear hcz51_3
      try clear hcz55_0
      try clear hcz55_1
      try clear hcz55_2
      try clear hcz55_3
      try clear hcz58_0
      try clear hcz58_1
      try clear hcz58_2
      try clear hcz58_3
      try clear hcz59_0
      try clear hcz59_1
      try clear hcz59_2
      try clear hcz59_3
      try clear hcz64_0
      try clear hcz64_1
      try clear hcz64_2
      try clear hcz64_3
      try clear hcz66_0
      try clear hcz66_1
      try clear hcz66_2
      try clear hcz66_3
      try clear hcz69_0
      try clear hcz69_1
      try clear hcz69_2
      try clear hcz69_3
      try clear hcz70_0
      try clear hcz70_1
      try clear hcz70_2
      try clear hcz70_3
      try clear hcz75_0
      try clear hcz75_1
      try clear hcz75_2
      try clear hcz75_3
      try clear hcz76_0
      try clear hcz76_1
      try clear hcz76_2
      try clear hcz76_3
      try clear hcz78_0
      try clear hcz78_1
      try clear hcz78_2
      try clear hcz78_3
      try clear hcz81_0
      try clear hcz81_1
      try clear hcz81_2
      try clear hcz81_3
      try clear hcz82_0
      try clear hcz82_1
      try clear hcz82_2
      try clear hcz82_3
      try clear hcz87_0
      try clear hcz87_1
      try clear hcz87_2
      try clear hcz87_3
      try clear hcz88_0
      try clear hcz88_1
      try clear hcz88_2
      try clear hcz88_3
      try clear hcz91_0
      try clear hcz91_1
      try clear hcz91_2
      try clear hcz91_3
      try clear hcz94_0
      try clear hcz94_1
      try clear hcz94_2
      try clear hcz94_3
      try clear hcz95_0
      try clear hcz95_1
      try clear hcz95_2
      try clear hcz95_3
      try clear hfz39_0
      try clear hfz39_1
      try clear hfz39_2
      try clear hfz39_3
      try clear hfz42_0
      try clear hfz42_1
      try clear hfz42_2
      try clear hfz42_3
      try clear hfz45_0
      try clear hfz45_1
      try clear hfz45_2
      try clear hfz45_3
      try clear hfz46_0
      try clear hfz46_1
      try clear hfz46_2
      try clear hfz46_3
      try clear hfz51_0
      try clear hfz51_1
      try clear hfz51_2
      try clear hfz51_3
      try clear hfz55_0
      try clear hfz55_1
      try clear hfz55_2
      try clear hfz55_3
      try clear hfz58_0
      try clear hfz58_1
      try clear hfz58_2
      try clear hfz58_3
      try clear hfz59_0
      try clear hfz59_1
      try clear hfz59_2
      try clear hfz59_3
      try clear hfz64_0
      try clear hfz64_1
      try clear hfz64_2
      try clear hfz64_3
      try clear hfz66_0
      try clear hfz66_1
      try clear hfz66_2
      try clear hfz66_3
      try clear hfz69_0
      try clear hfz69_1
      try clear hfz69_2
      try clear hfz69_3
      try clear hfz70_0
      try clear hfz70_1
      try clear hfz70_2
      try clear hfz70_3
      try clear hfz75_0
      try clear hfz75_1
      try clear hfz75_2
      try clear hfz75_3
      try clear hfz76_0
      try clear hfz76_1
      try clear hfz76_2
      try clear hfz76_3
      try clear hfz78_0
      try clear hfz78_1
      try clear hfz78_2
      try clear hfz78_3
      try clear hfz81_0
      try clear hfz81_1
      try clear hfz81_2
      try clear hfz81_3
      try clear hfz82_0
      try clear hfz82_1
      try clear hfz82_2
      try clear hfz82_3
      try clear hfz87_0
      try clear hfz87_1
      try clear hfz87_2
      try clear hfz87_3
      try clear hfz88_0
      try clear hfz88_1
      try clear hfz88_2
      try clear hfz88_3
      try clear hfz91_0
      try clear hfz91_1
      try clear hfz91_2
      try clear hfz91_3
      try clear hfz94_0
      try clear hfz94_1
      try clear hfz94_2
      try clear hfz94_3
      try clear hfz95_0
      try clear hfz95_1
      try clear hfz95_2
      try clear hfz95_3
      obtain ⟨kq,x52_88,rfl,HA,HJ88,BK101,BK102,HB⟩:=hcut
      cases kq with
      | zero=>exact absurd HA.out (by simp [val_Right.j0])
      | succ kj88 =>
       have H:=HA.out
       clear HA
       simp only [val_Right.j0] at H
       by_cases c97:x52_88 = true
       ·subst c97
        have H1:(if (a0_3.size:Int) > 40 then (some false) else (if a0_0 = 4 then ((val_printable.f kj88 a0_3).bind fun t103=>(if t103 = true then (some (a0_0 == a0_0 && (a0_1 == 0 && (a0_2 == 0)))) else (some false))) else (some (a0_0 == a0_0 && (a0_1 == 0 && (a0_2 == 0)))))) = some r:=by rw [if_pos rfl] at H;exact H
        clear H
        have H:=H1
        clear H1
        by_cases c98:(a0_3.size:Int) > 40
        ·rw [if_pos c98] at H
         have c98b0:decide (40 < (a0_3.size:Int)) = true:=decide_eq_true c98
         have c98b1:decide (40 < a0_3.size) = true:=decide_eq_true (by omega)
         clear c98
         obtain rfl:=Option.some.inj H
         have hnb99:=NB101_102.out
         have hnc99:=NB102_101.out
         have hcz100_0:wc.cell? ⟨gb101,0,none⟩ = some (.int .i64 a0_0):=(zce BK101.out 0).trans rfl
         have hcz100_1:wc.cell? ⟨gb101,1,none⟩ = some (.int .i64 a0_1):=(zce BK101.out 1).trans rfl
         have hcz100_2:wc.cell? ⟨gb101,2,none⟩ = some (.int .i64 a0_2):=(zce BK101.out 2).trans rfl
         have hcz100_3:wc.cell? ⟨gb101,3,none⟩ = some (.string a0_3):=(zce BK101.out 3).trans rfl
         have hfz100_0:=zfz BK101.out 0
         have hfz100_1:=zfz BK101.out 1
         have hfz100_2:=zfz BK101.out 2
         have hfz100_3:=zfz BK101.out 3
         have hcz101_0:wc.cell? ⟨gb102,0,none⟩ = some (.int .i64 a0_0):=(zce BK102.out 0).trans rfl
         have hcz101_1:wc.cell? ⟨gb102,1,none⟩ = some (.int .i64 0):=(zce BK102.out 1).trans rfl
         have hcz101_2:wc.cell? ⟨gb102,2,none⟩ = some (.int .i64 0):=(zce BK102.out 2).trans rfl
         have hcz101_3:wc.cell? ⟨gb102,3,none⟩ = some (.string (⟨#[]⟩:ByteArray)):=(zce BK102.out 3).trans rfl
         have hfz101_0:=zfz BK102.out 0
         have hfz101_1:=zfz BK102.out 1
         have hfz101_2:=zfz BK102.out 2
         have hfz101_3:=zfz BK102.out 3
         go_wp2
         go_ret
         exact ⟨by first|rfl|(simp [errW_none,errW_some] <;> rfl)|(simp [*,errW_none,errW_some] <;> rfl),by repeat first|(with_reducible first|exact HB.out|apply zA|apply zN|apply z1|refine zS ?_ GE101.out|refine zS ?_ GE102.out)|exact HB.out⟩
        ·rw [if_neg c98] at H
         have c98b0:decide (40 < (a0_3.size:Int)) = false:=decide_eq_false c98
         have c98b1:decide (40 < a0_3.size) = false:=decide_eq_false (by omega)
         clear c98
         by_cases c102:a0_0 = 4
         ·rw [if_pos c102] at H
          have c102b0:(a0_0 == 4) = true:=beq_iff_eq.mpr c102
          have c102b1:(a0_0 != 4) = false:=bne_eq_false_iff_eq.mpr c102
          clear c102
          replace H:=Option.bind_eq_some_iff.mp H
          obtain ⟨t103,A1030,H⟩:=H
          replace H:(if t103 = true then (some (a0_0 == a0_0 && (a0_1 == 0 && (a0_2 == 0)))) else (some false)) = some r:=H
          have A103:=z_ A1030
          clear A1030
          by_cases c104:t103 = true
          ·subst c104
           have H1:(some (a0_0 == a0_0 && (a0_1 == 0 && (a0_2 == 0)))) = some r:=by rw [if_pos rfl] at H;exact H
           clear H
           have H:=H1
           clear H1
           obtain rfl:=Option.some.inj H
           have hnb105:=NB101_102.out
           have hnc105:=NB102_101.out
           have hcz106_0:wc.cell? ⟨gb101,0,none⟩ = some (.int .i64 a0_0):=(zce BK101.out 0).trans rfl
           have hcz106_1:wc.cell? ⟨gb101,1,none⟩ = some (.int .i64 a0_1):=(zce BK101.out 1).trans rfl
           have hcz106_2:wc.cell? ⟨gb101,2,none⟩ = some (.int .i64 a0_2):=(zce BK101.out 2).trans rfl
           have hcz106_3:wc.cell? ⟨gb101,3,none⟩ = some (.string a0_3):=(zce BK101.out 3).trans rfl
           have hfz106_0:=zfz BK101.out 0
           have hfz106_1:=zfz BK101.out 1
           have hfz106_2:=zfz BK101.out 2
           have hfz106_3:=zfz BK101.out 3
           have hcz107_0:wc.cell? ⟨gb102,0,none⟩ = some (.int .i64 a0_0):=(zce BK102.out 0).trans rfl
           have hcz107_1:wc.cell? ⟨gb102,1,none⟩ = some (.int .i64 0):=(zce BK102.out 1).trans rfl
           have hcz107_2:wc.cell? ⟨gb102,2,none⟩ = some (.int .i64 0):=(zce BK102.out 2).trans rfl
           have hcz107_3:wc.cell? ⟨gb102,3,none⟩ = some (.string (⟨#[]⟩:ByteArray)):=(zce BK102.out 3).trans rfl
           have hfz107_0:=zfz BK102.out 0
           have hfz107_1:=zfz BK102.out 1
           have hfz107_2:=zfz BK102.out 2
           have hfz107_3:=zfz BK102.out 3
           go_wp2_with (first|(go_at_call 167;(with_reducible refine (val_printable.calls kj88 a0_3 true _ A103.out).mono ?_);rintro e w' ⟨rfl,⟨nd,rfl⟩⟩))
           go_ret
           exact ⟨by first|rfl|(simp [errW_none,errW_some] <;> rfl)|(simp [*,errW_none,errW_some] <;> rfl),by repeat first|(with_reducible first|exact HB.out|apply zA|apply zN|apply z1|refine zS ?_ GE101.out|refine zS ?_ GE102.out)|exact HB.out⟩
          ·replace c104:=Bool.eq_false_iff.mpr c104
           subst c104
           have H1:(some false) = some r:=by rw [if_neg (show ¬ (false = true) by decide)] at H;exact H
           clear H
           have H:=H1
           clear H1
           obtain rfl:=Option.some.inj H
           have hnb108:=NB101_102.out
           have hnc108:=NB102_101.out
           have hcz109_0:wc.cell? ⟨gb101,0,none⟩ = some (.int .i64 a0_0):=(zce BK101.out 0).trans rfl
           have hcz109_1:wc.cell? ⟨gb101,1,none⟩ = some (.int .i64 a0_1):=(zce BK101.out 1).trans rfl
           have hcz109_2:wc.cell? ⟨gb101,2,none⟩ = some (.int .i64 a0_2):=(zce BK101.out 2).trans rfl
           have hcz109_3:wc.cell? ⟨gb101,3,none⟩ = some (.string a0_3):=(zce BK101.out 3).trans rfl
           have hfz109_0:=zfz BK101.out 0
           have hfz109_1:=zfz BK101.out 1
           have hfz109_2:=zfz BK101.out 2
           have hfz109_3:=zfz BK101.out 3
           have hcz110_0:wc.cell? ⟨gb102,0,none⟩ = some (.int .i64 a0_0):=(zce BK102.out 0).trans rfl
           have hcz110_1:wc.cell? ⟨gb102,1,none⟩ = some (.int .i64 0):=(zce BK102.out 1).trans rfl
           have hcz110_2:wc.cell? ⟨gb102,2,none⟩ = some (.int .i64 0):=(zce BK102.out 2).trans rfl
           have hcz110_3:wc.cell? ⟨gb102,3,none⟩ = some (.string (⟨#[]⟩:ByteArray)):=(zce BK102.out 3).trans rfl
           have hfz110_0:=zfz BK102.out 0
           have hfz110_1:=zfz BK102.out 1
           have hfz110_2:=zfz BK102.out 2
           have hfz110_3:=zfz BK102.out 3
           go_wp2_with (first|(go_at_call 167;(with_reducible refine (val_printable.calls kj88 a0_3 false _ A103.out).mono ?_);rintro e w' ⟨rfl,⟨nd,rfl⟩⟩))
           go_ret
           exact ⟨by first|rfl|(simp [errW_none,errW_some] <;> rfl)|(simp [*,errW_none,errW_some] <;> rfl),by repeat first|(with_reducible first|exact HB.out|apply zA|apply zN|apply z1|refine zS ?_ GE101.out|refine zS ?_ GE102.out)|exact HB.out⟩
         ·rw [if_neg c102] at H
          have c102b0:(a0_0 == 4) = false:=beq_eq_false_iff_ne.mpr c102
          have c102b1:(a0_0 != 4) = true:=bne_iff_ne.mpr c102
          obtain rfl:=Option.some.inj H
          have hnb111:=NB101_102.out
          have hnc111:=NB102_101.out
          have hcz112_0:wc.cell? ⟨gb101,0,none⟩ = some (.int .i64 a0_0):=(zce BK101.out 0).trans rfl
          have hcz112_1:wc.cell? ⟨gb101,1,none⟩ = some (.int .i64 a0_1):=(zce BK101.out 1).trans rfl
          have hcz112_2:wc.cell? ⟨gb101,2,none⟩ = some (.int .i64 a0_2):=(zce BK101.out 2).trans rfl
          have hcz112_3:wc.cell? ⟨gb101,3,none⟩ = some (.string a0_3):=(zce BK101.out 3).trans rfl
          have hfz112_0:=zfz BK101.out 0
          have hfz112_1:=zfz BK101.out 1
          have hfz112_2:=zfz BK101.out 2
          have hfz112_3:=zfz BK101.out 3
          have hcz113_0:wc.cell? ⟨gb102,0,none⟩ = some (.int .i64 a0_0):=(zce BK102.out 0).trans rfl
          have hcz113_1:wc.cell? ⟨gb102,1,none⟩ = some (.int .i64 0):=(zce BK102.out 1).trans rfl
          have hcz113_2:wc.cell? ⟨gb102,2,none⟩ = some (.int .i64 0):=(zce BK102.out 2).trans rfl
          have hcz113_3:wc.cell? ⟨gb102,3,none⟩ = some (.string (⟨#[]⟩:ByteArray)):=(zce BK102.out 3).trans rfl
          have hfz113_0:=zfz BK102.out 0
          have hfz113_1:=zfz BK102.out 1
          have hfz113_2:=zfz BK102.out 2
          have hfz113_3:=zfz BK102.out 3
          go_wp2
          go_ret
          exact ⟨by first|rfl|(simp [errW_none,errW_some] <;> rfl)|(simp [*,errW_none,errW_some] <;> rfl),by repeat first|(with_reducible first|exact HB.out|apply zA|apply zN|apply z1|refine zS ?_ GE101.out|refine zS ?_ GE102.out)|exact HB.out⟩
       ·replace c97:=Bool.eq_false_iff.mpr c97
        subst c97
        have H1:(some false) = some r:=by rw [if_neg (show ¬ (false = true) by decide)] at H;exact H
        clear H
        have H:=H1
        clear H1
        obtain rfl:=Option.some.inj H
        go_wp2
        go_ret
        exact ⟨by first|rfl|(simp [errW_none,errW_some] <;> rfl)|(simp [*,errW_none,errW_some] <;> rfl),by repeat first|(with_reducible first|exact HB.out|apply zA|apply zN|apply z1|refine zS ?_ GE101.out|refine zS ?_ GE102.out)|exact HB.out⟩
end Go.Proofs.YtdlkibeljkapeaaGreatDoor.B
