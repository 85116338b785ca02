-- Written by drive.py and pack.py (programs of this proof's own) through the kit's printer; not trusted: Lean checks it.
import Derived.Test.YtllkhdhanheieaaCValReckons1
import Derived.Test.YtllkhdhanheieaaCValReckons2
namespace Go.Proofs.Ytllkhdhanheieaa.R
open Go.RowKit Go.Proofs.YtllkhdhanheieaaW.PrintWords Go.Proofs.YtllkhdhanheieaaW.PrintLast Go.Proofs.YtllkhdhanheieaaW.PrintMore
attribute [local go_sem] max2_int min2_int max_two min_two max_three min_three max_four min_four
attribute [local go_sem high] own_gtr own_leq own_geq own_cell_set Option.map_some fld23_1
set_option linter.unusedVariables false
set_option linter.unusedSimpArgs false
def val_decs.f (k:Nat) (a0:Int) (a1_0:Int) (a1_1:Int) (a1_2:Int) (a1_3:ByteArray) (a2_0:Int) (a2_1:Int) (a2_2:Int) (a2_3:ByteArray):Option (Int × Int × Int × ByteArray × Bool):=if a0 = 6 then ((val_two.f a0 a1_1 a2_1).bind fun bt104=>((val_Norm.f k 3 bt104.1 (wrap64 (a1_2 + a2_2)) (⟨#[]⟩:ByteArray)).bind fun bt106=>(if bt104.2 = true then ((val_Right.f k bt106.1 bt106.2.1 bt106.2.2.1 bt106.2.2.2).bind fun t111=>(some (bt106.1,bt106.2.1,bt106.2.2.1,bt106.2.2.2,t111))) else (some (bt106.1,bt106.2.1,bt106.2.2.1,bt106.2.2.2,false))))) else ((val_same.f k a1_0 a1_1 a1_2 a1_3 a2_0 a2_1 a2_2 a2_3).bind fun bt112=>(if bt112.2.2.2 = true then ((val_two.f a0 bt112.1 bt112.2.1).bind fun bt116=>((val_Norm.f k 3 bt116.1 bt112.2.2.1 (⟨#[]⟩:ByteArray)).bind fun bt118=>(if bt116.2 = true then ((val_Right.f k bt118.1 bt118.2.1 bt118.2.2.1 bt118.2.2.2).bind fun t123=>(some (bt118.1,bt118.2.1,bt118.2.2.1,bt118.2.2.2,t123))) else (some (bt118.1,bt118.2.1,bt118.2.2.1,bt118.2.2.2,false))))) else (some (0,0,0,(⟨#[]⟩:ByteArray),false))))
theorem val_decs.mono:∀ a0 a1 a2 a3 a4 a5 a6 a7 a8 k,LeO (val_decs.f k a0 a1 a2 a3 a4 a5 a6 a7 a8) (val_decs.f (k + 1) a0 a1 a2 a3 a4 a5 a6 a7 a8):=by
 intro a0 a1 a2 a3 a4 a5 a6 a7 a8 k
 unfold val_decs.f
 repeat' first
   | (with_reducible exact val_Norm.mono _ _ _ _ _)
   | (with_reducible exact val_Right.mono _ _ _ _ _)
   | (with_reducible exact val_same.mono _ _ _ _ _ _ _ _ _)
   | (with_reducible exact LeO.refl _)
   | (with_reducible exact LeO.none _)
   | (with_reducible refine LeO.ite ?_ ?_)
   | (with_reducible refine LeO.bind ?_ (fun _=>?_))
   | exact val_Norm.mono _ _ _ _ _
   | exact val_Right.mono _ _ _ _ _
   | exact val_same.mono _ _ _ _ _ _ _ _ _
   | exact LeO.none _
   | refine LeO.ite ?_ ?_
   | refine LeO.bind ?_ (fun _=>?_)
def val_decs.T1:Bool × List (List Nat × List Nat):=(true,[([],[]),([0],[0]),([],[]),([2],[2]),([],[]),([4],[4]),([],[]),([6],[6]),([5,7],[5,7]),([1,0,1],[1]),([3,9,0,1,2,3,9],[3]),([8,10,0,1,2,3,4,5,6,7,8,9,10],[8])])
def val_decs.B1:List Nat:=[0,1,0,4,0,16,0,64,240,3,527,2047]
theorem val_decs.tab1:rtab .any (opsOf Try.f50 1) = val_decs.T1:=by kernel_rfl
theorem val_decs.bits1:waitsOk val_decs.T1.2 val_decs.B1 = true:=by kernel_rfl
def val_decs.T9:Bool × List (List Nat × List Nat):=(true,[([],[]),([],[]),([1],[1]),([2],[2]),([3,2,2],[2,3]),([2,4],[2,4]),([0,4,0],[0]),([5,6,0,1,2,3,4,5,6],[5])])
def val_decs.B9:List Nat:=[0,0,2,6,14,30,31,127]
theorem val_decs.tab9:rtab .any (opsOf Try.f50 9) = val_decs.T9:=by kernel_rfl
theorem val_decs.bits9:waitsOk val_decs.T9.2 val_decs.B9 = true:=by kernel_rfl
set_option maxHeartbeats 8000000 in
set_option maxRecDepth 100000 in
theorem val_decs.calls (k:Nat) (a0:Int) (a1_0:Int) (a1_1:Int) (a1_2:Int) (a1_3:ByteArray) (a2_0:Int) (a2_1:Int) (a2_2:Int) (a2_3:ByteArray) (r1:Int) (r2:Int) (r3:Int) (r4:ByteArray) (r5:Bool) (w:World) (h:val_decs.f k a0 a1_0 a1_1 a1_2 a1_3 a2_0 a2_1 a2_2 a2_3 = some (r1,r2,r3,r4,r5)) :
  Calls Try.prog 50 #[.int .i64 a0, .agg #[.int .i64 a1_0, .int .i64 a1_1, .int .i64 a1_2, .string a1_3], .agg #[.int .i64 a2_0, .int .i64 a2_1, .int .i64 a2_2, .string a2_3]] w fun e w'=>e = .returned (.tuple #[.agg #[.int .i64 r1, .int .i64 r2, .int .i64 r3, .string r4], .bool r5]) ∧ Below w.heap.size w w':=by
 have hu23:=Try.underlying23
 have HB:=z_ (Below.refl w.heap.size w)
 have H:(if a0 = 6 then ((val_two.f a0 a1_1 a2_1).bind fun bt104=>((val_Norm.f k 3 bt104.1 (wrap64 (a1_2 + a2_2)) (⟨#[]⟩:ByteArray)).bind fun bt106=>(if bt104.2 = true then ((val_Right.f k bt106.1 bt106.2.1 bt106.2.2.1 bt106.2.2.2).bind fun t111=>(some (bt106.1,bt106.2.1,bt106.2.2.1,bt106.2.2.2,t111))) else (some (bt106.1,bt106.2.1,bt106.2.2.1,bt106.2.2.2,false))))) else ((val_same.f k a1_0 a1_1 a1_2 a1_3 a2_0 a2_1 a2_2 a2_3).bind fun bt112=>(if bt112.2.2.2 = true then ((val_two.f a0 bt112.1 bt112.2.1).bind fun bt116=>((val_Norm.f k 3 bt116.1 bt112.2.2.1 (⟨#[]⟩:ByteArray)).bind fun bt118=>(if bt116.2 = true then ((val_Right.f k bt118.1 bt118.2.1 bt118.2.2.1 bt118.2.2.2).bind fun t123=>(some (bt118.1,bt118.2.1,bt118.2.2.1,bt118.2.2.2,t123))) else (some (bt118.1,bt118.2.1,bt118.2.2.1,bt118.2.2.2,false))))) else (some (0,0,0,(⟨#[]⟩:ByteArray),false))))) = some (r1,r2,r3,r4,r5):=h
 clear h
 by_cases c4:a0 = 6
 ·rw [if_pos c4] at H
  have c4b0:(a0 == 6) = true:=beq_iff_eq.mpr c4
  have c4b1:(a0 != 6) = false:=bne_eq_false_iff_eq.mpr c4
  clear c4
  replace H:=Option.bind_eq_some_iff.mp H
  obtain ⟨⟨t104,t105⟩,A50,H⟩:=H
  replace H:((val_Norm.f k 3 t104 (wrap64 (a1_2 + a2_2)) (⟨#[]⟩:ByteArray)).bind fun bt106=>(if t105 = true then ((val_Right.f k bt106.1 bt106.2.1 bt106.2.2.1 bt106.2.2.2).bind fun t111=>(some (bt106.1,bt106.2.1,bt106.2.2.1,bt106.2.2.2,t111))) else (some (bt106.1,bt106.2.1,bt106.2.2.1,bt106.2.2.2,false)))) = some (r1,r2,r3,r4,r5):=H
  have A5:=z_ A50
  clear A50
  replace H:=Option.bind_eq_some_iff.mp H
  obtain ⟨⟨t106,t107,t108,t109⟩,A60,H⟩:=H
  replace H:(if t105 = true then ((val_Right.f k t106 t107 t108 t109).bind fun t111=>(some (t106,t107,t108,t109,t111))) else (some (t106,t107,t108,t109,false))) = some (r1,r2,r3,r4,r5):=H
  have A6:=z_ A60
  clear A60
  by_cases c7:t105 = true
  focus
   subst c7
   have H1:((val_Right.f k t106 t107 t108 t109).bind fun t111=>(some (t106,t107,t108,t109,t111))) = some (r1,r2,r3,r4,r5):=by rw [if_pos rfl] at H;exact H
   clear H
   have H:=H1
   clear H1
   replace H:=Option.bind_eq_some_iff.mp H
   obtain ⟨t111,A80,H⟩:=H
   replace H:(some (t106,t107,t108,t109,t111)) = some (r1,r2,r3,r4,r5):=H
   have A8:=z_ A80
   clear A80
   simp only [Option.some.injEq,Prod.mk.injEq] at H
   obtain ⟨rfl,rfl,rfl,rfl,rfl⟩:=H
  rotate_left
  focus
   replace c7:=Bool.eq_false_iff.mpr c7
   subst c7
   have H1:(some (t106,t107,t108,t109,false)) = some (r1,r2,r3,r4,r5):=by rw [if_neg (show ¬ (false = true) by decide)] at H;exact H
   clear H
   have H:=H1
   clear H1
   simp only [Option.some.injEq,Prod.mk.injEq] at H
   obtain ⟨rfl,rfl,rfl,rfl,rfl⟩:=H
  rotate_left
  all_goals
   go_enter Try.func50,Try.ntmps50
   try go_wp2_with (first|((with_reducible refine gate_dst (N:=4) rfl ?_);refine box_event ?hg (N:=4) ?hd (cs:=#[.int .i64 a1_0, .int .i64 a1_1, .int .i64 a1_2, .string a1_3]) (t:=23) ?hr ?_;(case hd=>rfl);(case hg=>rfl);(case hr=>first|(go_simp;done)|(go_simp;rfl));intro gb101 hg w9 hbox hb;have n0_:=z_ (below_step (by repeat first|(with_reducible first|exact HB.out|apply zA|apply zN|apply z1)|exact HB.out) hb);have n1_:=z_ (hbox);have n2_:=z_ ((by rw [hg];exact (zBs (by repeat first|(with_reducible first|exact HB.out|apply zA|apply zN|apply z1)|exact HB.out)):w.heap.size ≤ gb101));have n3_:=z_ ((by rw [hg];exact (zBs (by repeat first|(with_reducible first|exact HB.out|apply zA|apply zN|apply z1)|exact HB.out)):w.heap.size ≤ gb101));clear HB;have HB:=n0_;have BK101:=n1_;have GW101:=n2_;have GE101:=n3_;clear n0_ n1_ n2_ n3_;clear hb hbox hg)|((with_reducible refine gate_dst (N:=5) rfl ?_);refine box_event ?hg (N:=5) ?hd (cs:=#[.int .i64 a2_0, .int .i64 a2_1, .int .i64 a2_2, .string a2_3]) (t:=23) ?hr ?_;(case hd=>rfl);(case hg=>rfl);(case hr=>first|(go_simp;done)|(go_simp;rfl));intro gb102 hg w10 hbox hb;have n0_:=z_ (zbb (g:=gb101) (o:=.cells #[.int .i64 a1_0, .int .i64 a1_1, .int .i64 a1_2, .string a1_3] 23 (0,0)) (by (with_reducible repeat first|apply zbN|apply zb1|apply zbA);exact BK101.out) hb);have n1_:=z_ (below_step (by repeat first|(with_reducible first|exact HB.out|apply zA|apply zN|apply z1|refine zS ?_ GE101.out)|exact HB.out) hb);have n2_:=z_ (hbox);have n3_:=z_ ((by rw [hg];exact (zBs (by repeat first|(with_reducible first|exact HB.out|apply zA|apply zN|apply z1|refine zS ?_ GE101.out)|exact HB.out)):w.heap.size ≤ gb102));have n4_:=z_ ((by rw [hg];exact (zBs (by repeat first|(with_reducible first|exact HB.out|apply zA|apply zN|apply z1|refine zS ?_ GE101.out)|exact HB.out)):w.heap.size ≤ gb102));have n5_:=z_ ((by rw [hg];exact Nat.ne_of_lt (blk_lt (g:=gb101) (o:=.cells #[.int .i64 a1_0, .int .i64 a1_1, .int .i64 a1_2, .string a1_3] 23 (0,0)) (by (with_reducible repeat first|apply zbN|apply zb1|apply zbA);exact BK101.out)):gb101 ≠ gb102));have n6_:=z_ ((by rw [hg];exact Nat.ne_of_gt (blk_lt (g:=gb101) (o:=.cells #[.int .i64 a1_0, .int .i64 a1_1, .int .i64 a1_2, .string a1_3] 23 (0,0)) (by (with_reducible repeat first|apply zbN|apply zb1|apply zbA);exact BK101.out)):gb102 ≠ gb101));clear BK101;clear HB;have BK101:=n0_;have HB:=n1_;have BK102:=n2_;have GW102:=n3_;have GE102:=n4_;have NB101_102:=n5_;have NB102_101:=n6_;clear n0_ n1_ n2_ n3_ n4_ n5_ n6_;clear hb hbox hg)|((with_reducible refine gate_dst (N:=6) rfl ?_);refine box_event ?hg (N:=6) ?hd (cs:=#[.int .i64 0, .int .i64 0, .int .i64 0, .string (⟨#[]⟩:ByteArray)]) (t:=23) ?hr ?_;(case hd=>rfl);(case hg=>rfl);(case hr=>first|(go_simp;done)|(go_simp;rfl));intro gb103 hg w11 hbox hb;have n0_:=z_ (zbb (g:=gb101) (o:=.cells #[.int .i64 a1_0, .int .i64 a1_1, .int .i64 a1_2, .string a1_3] 23 (0,0)) (by (with_reducible repeat first|apply zbN|apply zb1|apply zbA);exact BK101.out) hb);have n1_:=z_ (zbb (g:=gb102) (o:=.cells #[.int .i64 a2_0, .int .i64 a2_1, .int .i64 a2_2, .string a2_3] 23 (0,0)) (by (with_reducible repeat first|apply zbN|apply zb1|apply zbA);exact BK102.out) hb);have n2_:=z_ (below_step (by repeat first|(with_reducible first|exact HB.out|apply zA|apply zN|apply z1|refine zS ?_ GE101.out|refine zS ?_ GE102.out)|exact HB.out) hb);have n3_:=z_ (hbox);have n4_:=z_ ((by rw [hg];exact (zBs (by repeat first|(with_reducible first|exact HB.out|apply zA|apply zN|apply z1|refine zS ?_ GE101.out|refine zS ?_ GE102.out)|exact HB.out)):w.heap.size ≤ gb103));have n5_:=z_ ((by rw [hg];exact (zBs (by repeat first|(with_reducible first|exact HB.out|apply zA|apply zN|apply z1|refine zS ?_ GE101.out|refine zS ?_ GE102.out)|exact HB.out)):w.heap.size ≤ gb103));have n6_:=z_ ((by rw [hg];exact Nat.ne_of_lt (blk_lt (g:=gb101) (o:=.cells #[.int .i64 a1_0, .int .i64 a1_1, .int .i64 a1_2, .string a1_3] 23 (0,0)) (by (with_reducible repeat first|apply zbN|apply zb1|apply zbA);exact BK101.out)):gb101 ≠ gb103));have n7_:=z_ ((by rw [hg];exact Nat.ne_of_gt (blk_lt (g:=gb101) (o:=.cells #[.int .i64 a1_0, .int .i64 a1_1, .int .i64 a1_2, .string a1_3] 23 (0,0)) (by (with_reducible repeat first|apply zbN|apply zb1|apply zbA);exact BK101.out)):gb103 ≠ gb101));have n8_:=z_ ((by rw [hg];exact Nat.ne_of_lt (blk_lt (g:=gb102) (o:=.cells #[.int .i64 a2_0, .int .i64 a2_1, .int .i64 a2_2, .string a2_3] 23 (0,0)) (by (with_reducible repeat first|apply zbN|apply zb1|apply zbA);exact BK102.out)):gb102 ≠ gb103));have n9_:=z_ ((by rw [hg];exact Nat.ne_of_gt (blk_lt (g:=gb102) (o:=.cells #[.int .i64 a2_0, .int .i64 a2_1, .int .i64 a2_2, .string a2_3] 23 (0,0)) (by (with_reducible repeat first|apply zbN|apply zb1|apply zbA);exact BK102.out)):gb103 ≠ gb102));clear BK101;clear BK102;clear HB;have BK101:=n0_;have BK102:=n1_;have HB:=n2_;have BK103:=n3_;have GW103:=n4_;have GE103:=n5_;have NB101_103:=n6_;have NB103_101:=n7_;have NB102_103:=n8_;have NB103_102:=n9_;clear n0_ n1_ n2_ n3_ n4_ n5_ n6_ n7_ n8_ n9_;clear hb hbox hg))
   have n0_:=z_ (zb1 BK101.out)
   have n1_:=z_ (zb1 BK102.out)
   have n2_:=z_ (zb1 BK103.out)
   have n3_:=z_ (z1 HB.out)
   clear BK101
   clear BK102
   clear BK103
   clear HB
   have BK101:=n0_
   have BK102:=n1_
   have BK103:=n2_
   have HB:=n3_
  ·clear n0_ n1_ n2_ n3_
   refine start_ (n:=12) (S:=fun w'=>w'.cell? ⟨gb101,0,none⟩ = some (.int .i64 a1_0) ∧ w'.cell? ⟨gb101,1,none⟩ = some (.int .i64 a1_1) ∧ w'.cell? ⟨gb101,2,none⟩ = some (.int .i64 a1_2) ∧ w'.cell? ⟨gb101,3,none⟩ = some (.string a1_3) ∧ w'.cell? ⟨gb102,0,none⟩ = some (.int .i64 a2_0) ∧ w'.cell? ⟨gb102,1,none⟩ = some (.int .i64 a2_1) ∧ w'.cell? ⟨gb102,2,none⟩ = some (.int .i64 a2_2) ∧ w'.cell? ⟨gb102,3,none⟩ = some (.string a2_3)) (ds:=[]) #[false,false,false,false,false,false,false,false,false,false,false,false] (by kernel_rfl) rfl rfl ⟨(zce BK101.out 0).trans rfl,(zce BK101.out 1).trans rfl,(zce BK101.out 2).trans rfl,(zce BK101.out 3).trans rfl,(zce BK102.out 0).trans rfl,(zce BK102.out 1).trans rfl,(zce BK102.out 2).trans rfl,(zce BK102.out 3).trans rfl⟩ (fun hHeld=>?_);refine with_tabW val_decs.tab1 val_decs.bits1 (fun HT_ HW_=>?_)
   generalize w11.drew = w12 at BK101 BK102 BK103 HB hHeld ⊢
   refine pure_ (i:=0) (N:=some 15) (v:=?_) (a':=?_) #[true,false,false,false,false,false,false,false,false,false,false,false] rfl rfl (any_of HT_.out (by kernel_rfl)) (fun _ _ _ h=>h) (Or.inl ⟨by rfl,?_⟩) ?_ ?_
   rotate_left
   ·intro w'
    go_simp
    with_reducible rfl
   rotate_left
   ·simp only [Act.put,List.setIfInBounds_toArray,List.set_cons_zero,List.set_cons_succ,i64_w,i32_w]
    rfl
   refine pure_ (i:=2) (N:=some 17) (v:=?_) (a':=?_) #[true,false,true,false,false,false,false,false,false,false,false,false] rfl rfl (any_of HT_.out (by kernel_rfl)) (fun _ _ _ h=>h) (Or.inl ⟨by rfl,?_⟩) ?_ ?_
   rotate_left
   ·intro w'
    go_simp
    with_reducible rfl
   rotate_left
   ·simp only [Act.put,List.setIfInBounds_toArray,List.set_cons_zero,List.set_cons_succ,i64_w,i32_w]
    rfl
   refine pure_ (i:=4) (N:=some 19) (v:=?_) (a':=?_) #[true,false,true,false,true,false,false,false,false,false,false,false] rfl rfl (any_of HT_.out (by kernel_rfl)) (fun _ _ _ h=>h) (Or.inl ⟨by rfl,?_⟩) ?_ ?_
   rotate_left
   ·intro w'
    go_simp
    with_reducible rfl
   rotate_left
   ·simp only [Act.put,List.setIfInBounds_toArray,List.set_cons_zero,List.set_cons_succ,i64_w,i32_w]
    rfl
   refine pure_ (i:=6) (N:=some 21) (v:=?_) (a':=?_) #[true,false,true,false,true,false,true,false,false,false,false,false] rfl rfl (any_of HT_.out (by kernel_rfl)) (fun _ _ _ h=>h) (Or.inl ⟨by rfl,?_⟩) ?_ ?_
   rotate_left
   ·intro w'
    go_simp
    with_reducible rfl
   rotate_left
   ·simp only [Act.put,List.setIfInBounds_toArray,List.set_cons_zero,List.set_cons_succ,i64_w,i32_w]
    rfl
   refine take_ (i:=1) (N:=some 16) (v:=?_) (a':=?_) #[true,true,true,false,true,false,true,false,false,false,false,false] rfl rfl (take_ofW HT_.out HW_.out (by kernel_rfl)) (fun _ _ _ h=>h) (Or.inl ⟨by rfl,?_⟩) hHeld ?_ ?_
   rotate_left
   ·rintro w' ⟨s0,s1,s2,s3,s4,s5,s6,s7⟩
    go_simp
    with_reducible rfl
   rotate_left
   ·simp only [Act.put,List.setIfInBounds_toArray,List.set_cons_zero,List.set_cons_succ,i64_w,i32_w]
    rfl
   refine pure_ (i:=9) (N:=some 8) (v:=?_) (a':=?_) #[true,true,true,false,true,false,true,false,false,true,false,false] rfl rfl (any_of HT_.out (by kernel_rfl)) (fun _ _ _ h=>h) (Or.inl ⟨by rfl,?_⟩) ?_ ?_
   rotate_left
   ·intro w'
    go_simp
    with_reducible rfl
   rotate_left
   ·simp only [Act.put,List.setIfInBounds_toArray,List.set_cons_zero,List.set_cons_succ,i64_w,i32_w]
    rfl
   refine take_ (i:=3) (N:=some 18) (v:=?_) (a':=?_) #[true,true,true,true,true,false,true,false,false,true,false,false] rfl rfl (take_ofW HT_.out HW_.out (by kernel_rfl)) (fun _ _ _ h=>h) (Or.inl ⟨by rfl,?_⟩) hHeld ?_ ?_
   rotate_left
   ·rintro w' ⟨s0,s1,s2,s3,s4,s5,s6,s7⟩
    go_simp
    with_reducible rfl
   rotate_left
   ·simp only [Act.put,List.setIfInBounds_toArray,List.set_cons_zero,List.set_cons_succ,i64_w,i32_w]
    rfl
   refine pure_ (i:=10) (N:=some 9) (v:=?_) (a':=?_) #[true,true,true,true,true,false,true,false,false,true,true,false] rfl rfl (any_of HT_.out (by kernel_rfl)) (fun _ _ _ h=>h) (Or.inl ⟨by rfl,?_⟩) ?_ ?_
   rotate_left
   ·intro w'
    go_simp
    with_reducible rfl
   rotate_left
   ·simp only [Act.put,List.setIfInBounds_toArray,List.set_cons_zero,List.set_cons_succ,i64_w,i32_w]
    rfl
   refine take_ (i:=5) (N:=some 20) (v:=?_) (a':=?_) #[true,true,true,true,true,true,true,false,false,true,true,false] rfl rfl (take_ofW HT_.out HW_.out (by kernel_rfl)) (fun _ _ _ h=>h) (Or.inl ⟨by rfl,?_⟩) hHeld ?_ ?_
   rotate_left
   ·rintro w' ⟨s0,s1,s2,s3,s4,s5,s6,s7⟩
    go_simp
    with_reducible rfl
   rotate_left
   ·simp only [Act.put,List.setIfInBounds_toArray,List.set_cons_zero,List.set_cons_succ,i64_w,i32_w]
    rfl
   refine take_ (i:=7) (N:=some 22) (v:=?_) (a':=?_) #[true,true,true,true,true,true,true,true,false,true,true,false] rfl rfl (take_ofW HT_.out HW_.out (by kernel_rfl)) (fun _ _ _ h=>h) (Or.inl ⟨by rfl,?_⟩) hHeld ?_ ?_
   rotate_left
   ·rintro w' ⟨s0,s1,s2,s3,s4,s5,s6,s7⟩
    go_simp
    with_reducible rfl
   rotate_left
   ·simp only [Act.put,List.setIfInBounds_toArray,List.set_cons_zero,List.set_cons_succ,i64_w,i32_w]
    rfl
   refine pure_ (i:=8) (N:=some 23) (v:=?_) (a':=?_) #[true,true,true,true,true,true,true,true,true,true,true,false] rfl rfl (any_of HT_.out (by kernel_rfl)) (fun _ _ _ h=>h) (Or.inl ⟨by rfl,?_⟩) ?_ ?_
   rotate_left
   ·intro w'
    go_simp
    with_reducible rfl
   rotate_left
   ·simp only [Act.put,List.setIfInBounds_toArray,List.set_cons_zero,List.set_cons_succ,i64_w,i32_w]
    rfl
   refine pure_ (i:=11) (N:=some 10) (v:=?_) (a':=?_) #[true,true,true,true,true,true,true,true,true,true,true,true] rfl rfl (any_of HT_.out (by kernel_rfl)) (fun _ _ _ h=>h) (Or.inl ⟨by rfl,?_⟩) ?_ ?_
   rotate_left
   ·intro w'
    go_simp
    with_reducible rfl
   rotate_left
   ·simp only [Act.put,List.setIfInBounds_toArray,List.set_cons_zero,List.set_cons_succ,i64_w,i32_w]
    rfl
   refine done_ (done_of HT_.out (by kernel_rfl)) ?_
   try go_wp2_with (first|((with_reducible refine gate_callee (f:=58) rfl ?_);refine goesL_ (some 41) rfl rfl Try.func58 (by kernel_rfl) rfl #[.int .i64 a0, .int .i64 a1_1, .int .i64 a2_1] rfl (by (try simp only [List.map_toArray,List.map_cons,List.map_nil]);first|done|rfl|(simp only [List.length_drop,List.length_take];rfl)) ?_;(with_reducible refine (val_two.calls a0 a1_1 a2_1 t104 true _ A5.out).mono ?_);rintro e w' ⟨rfl,⟨nd,rfl⟩⟩;refine ⟨_,rfl,?_⟩;(try (rw [drewN_self w12];generalize hq_:World.drewN w12 _ = w12;have n0_:Aside0 (w12.heap[gb101]? = some (.cells #[.int .i64 a1_0, .int .i64 a1_1, .int .i64 a1_2, .string a1_3] 23 (0,0))):=⟨by rw [← hq_];exact (by (with_reducible repeat first|apply zbN|apply zb1|apply zbA);exact BK101.out)⟩;have n1_:Aside0 (w12.heap[gb102]? = some (.cells #[.int .i64 a2_0, .int .i64 a2_1, .int .i64 a2_2, .string a2_3] 23 (0,0))):=⟨by rw [← hq_];exact (by (with_reducible repeat first|apply zbN|apply zb1|apply zbA);exact BK102.out)⟩;have n2_:Aside0 (w12.heap[gb103]? = some (.cells #[.int .i64 0, .int .i64 0, .int .i64 0, .string (⟨#[]⟩:ByteArray)] 23 (0,0))):=⟨by rw [← hq_];exact (by (with_reducible repeat first|apply zbN|apply zb1|apply zbA);exact BK103.out)⟩;have n3_:Aside0 (Below w.heap.size w w12):=⟨by rw [← hq_];exact (by repeat first|(with_reducible first|exact HB.out|apply zA|apply zN|apply z1|refine zS ?_ GE101.out|refine zS ?_ GE102.out|refine zS ?_ GE103.out)|exact HB.out)⟩;clear BK101 BK102 BK103 HB hq_;have BK101:=n0_;have BK102:=n1_;have BK103:=n2_;have HB:=n3_;clear n0_ n1_ n2_ n3_));(try have hcu13_0:w12.cell? ⟨gb101,0,none⟩ = some (.int .i64 a1_0):=(zce BK101.out 0).trans rfl);(try have hcu13_1:w12.cell? ⟨gb101,1,none⟩ = some (.int .i64 a1_1):=(zce BK101.out 1).trans rfl);(try have hcu13_2:w12.cell? ⟨gb101,2,none⟩ = some (.int .i64 a1_2):=(zce BK101.out 2).trans rfl);(try have hcu13_3:w12.cell? ⟨gb101,3,none⟩ = some (.string a1_3):=(zce BK101.out 3).trans rfl);(try have hfu13_0:=zfz BK101.out 0);(try have hfu13_1:=zfz BK101.out 1);(try have hfu13_2:=zfz BK101.out 2);(try have hfu13_3:=zfz BK101.out 3);(try have hcu14_0:w12.cell? ⟨gb102,0,none⟩ = some (.int .i64 a2_0):=(zce BK102.out 0).trans rfl);(try have hcu14_1:w12.cell? ⟨gb102,1,none⟩ = some (.int .i64 a2_1):=(zce BK102.out 1).trans rfl);(try have hcu14_2:w12.cell? ⟨gb102,2,none⟩ = some (.int .i64 a2_2):=(zce BK102.out 2).trans rfl);(try have hcu14_3:w12.cell? ⟨gb102,3,none⟩ = some (.string a2_3):=(zce BK102.out 3).trans rfl);(try have hfu14_0:=zfz BK102.out 0);(try have hfu14_1:=zfz BK102.out 1);(try have hfu14_2:=zfz BK102.out 2);(try have hfu14_3:=zfz BK102.out 3);(try have hcu15_0:w12.cell? ⟨gb103,0,none⟩ = some (.int .i64 0):=(zce BK103.out 0).trans rfl);(try have hcu15_1:w12.cell? ⟨gb103,1,none⟩ = some (.int .i64 0):=(zce BK103.out 1).trans rfl);(try have hcu15_2:w12.cell? ⟨gb103,2,none⟩ = some (.int .i64 0):=(zce BK103.out 2).trans rfl);(try have hcu15_3:w12.cell? ⟨gb103,3,none⟩ = some (.string (⟨#[]⟩:ByteArray)):=(zce BK103.out 3).trans rfl);(try have hfu15_0:=zfz BK103.out 0);(try have hfu15_1:=zfz BK103.out 1);(try have hfu15_2:=zfz BK103.out 2);(try have hfu15_3:=zfz BK103.out 3))|((with_reducible refine gate_callee (f:=16) rfl ?_);refine goesL_ (some 47) rfl rfl Try.func16 (by kernel_rfl) rfl #[.agg #[.int .i64 3, .int .i64 t104, .int .i64 (wrap64 (a1_2 + a2_2)), .string (⟨#[]⟩:ByteArray)]] rfl (by (try simp only [List.map_toArray,List.map_cons,List.map_nil]);first|done|rfl|(simp only [List.length_drop,List.length_take];rfl)) ?_;(with_reducible refine (val_Norm.calls k 3 t104 (wrap64 (a1_2 + a2_2)) (⟨#[]⟩:ByteArray) t106 t107 t108 t109 _ A6.out).mono ?_);rintro e w16 ⟨rfl,hb⟩;refine ⟨_,rfl,?_⟩;have n0_:=z_ (zbb (g:=gb101) (o:=.cells #[.int .i64 a1_0, .int .i64 a1_1, .int .i64 a1_2, .string a1_3] 23 (0,0)) (by (with_reducible repeat first|apply zbN|apply zb1|apply zbA);exact BK101.out) hb);have n1_:=z_ (zbb (g:=gb102) (o:=.cells #[.int .i64 a2_0, .int .i64 a2_1, .int .i64 a2_2, .string a2_3] 23 (0,0)) (by (with_reducible repeat first|apply zbN|apply zb1|apply zbA);exact BK102.out) hb);have n2_:=z_ (zbb (g:=gb103) (o:=.cells #[.int .i64 0, .int .i64 0, .int .i64 0, .string (⟨#[]⟩:ByteArray)] 23 (0,0)) (by (with_reducible repeat first|apply zbN|apply zb1|apply zbA);exact BK103.out) hb);have n3_:=z_ (below_step (by repeat first|(with_reducible first|exact HB.out|apply zA|apply zN|apply z1|refine zS ?_ GE101.out|refine zS ?_ GE102.out|refine zS ?_ GE103.out)|exact HB.out) hb);clear BK101;clear BK102;clear BK103;clear HB;have BK101:=n0_;have BK102:=n1_;have BK103:=n2_;have HB:=n3_;clear n0_ n1_ n2_ n3_;(try clear hb);(try clear hb2);(try clear hk);(try clear hi))|((with_reducible refine gate_dst (N:=14) rfl ?_);refine box_event ?hg (N:=14) ?hd (cs:=#[.int .i64 0, .int .i64 0, .int .i64 0, .string (⟨#[]⟩:ByteArray)]) (t:=23) ?hr ?_;(case hd=>rfl);(case hg=>rfl);(case hr=>first|(go_simp;done)|(go_simp;rfl));intro gb110 hg w17 hbox hb;have n0_:=z_ (zbb (g:=gb101) (o:=.cells #[.int .i64 a1_0, .int .i64 a1_1, .int .i64 a1_2, .string a1_3] 23 (0,0)) (by (with_reducible repeat first|apply zbN|apply zb1|apply zbA);exact BK101.out) hb);have n1_:=z_ (zbb (g:=gb102) (o:=.cells #[.int .i64 a2_0, .int .i64 a2_1, .int .i64 a2_2, .string a2_3] 23 (0,0)) (by (with_reducible repeat first|apply zbN|apply zb1|apply zbA);exact BK102.out) hb);have n2_:=z_ (zbb (g:=gb103) (o:=.cells #[.int .i64 0, .int .i64 0, .int .i64 0, .string (⟨#[]⟩:ByteArray)] 23 (0,0)) (by (with_reducible repeat first|apply zbN|apply zb1|apply zbA);exact BK103.out) hb);have n3_:=z_ (below_step (by repeat first|(with_reducible first|exact HB.out|apply zA|apply zN|apply z1|refine zS ?_ GE101.out|refine zS ?_ GE102.out|refine zS ?_ GE103.out)|exact HB.out) hb);have n4_:=z_ (hbox);have n5_:=z_ ((by rw [hg];exact (zBs (by repeat first|(with_reducible first|exact HB.out|apply zA|apply zN|apply z1|refine zS ?_ GE101.out|refine zS ?_ GE102.out|refine zS ?_ GE103.out)|exact HB.out)):w.heap.size ≤ gb110));have n6_:=z_ ((by rw [hg];exact (zBs (by repeat first|(with_reducible first|exact HB.out|apply zA|apply zN|apply z1|refine zS ?_ GE101.out|refine zS ?_ GE102.out|refine zS ?_ GE103.out)|exact HB.out)):w.heap.size ≤ gb110));have n7_:=z_ ((by rw [hg];exact Nat.ne_of_lt (blk_lt (g:=gb101) (o:=.cells #[.int .i64 a1_0, .int .i64 a1_1, .int .i64 a1_2, .string a1_3] 23 (0,0)) (by (with_reducible repeat first|apply zbN|apply zb1|apply zbA);exact BK101.out)):gb101 ≠ gb110));have n8_:=z_ ((by rw [hg];exact Nat.ne_of_gt (blk_lt (g:=gb101) (o:=.cells #[.int .i64 a1_0, .int .i64 a1_1, .int .i64 a1_2, .string a1_3] 23 (0,0)) (by (with_reducible repeat first|apply zbN|apply zb1|apply zbA);exact BK101.out)):gb110 ≠ gb101));have n9_:=z_ ((by rw [hg];exact Nat.ne_of_lt (blk_lt (g:=gb102) (o:=.cells #[.int .i64 a2_0, .int .i64 a2_1, .int .i64 a2_2, .string a2_3] 23 (0,0)) (by (with_reducible repeat first|apply zbN|apply zb1|apply zbA);exact BK102.out)):gb102 ≠ gb110));have n10_:=z_ ((by rw [hg];exact Nat.ne_of_gt (blk_lt (g:=gb102) (o:=.cells #[.int .i64 a2_0, .int .i64 a2_1, .int .i64 a2_2, .string a2_3] 23 (0,0)) (by (with_reducible repeat first|apply zbN|apply zb1|apply zbA);exact BK102.out)):gb110 ≠ gb102));have n11_:=z_ ((by rw [hg];exact Nat.ne_of_lt (blk_lt (g:=gb103) (o:=.cells #[.int .i64 0, .int .i64 0, .int .i64 0, .string (⟨#[]⟩:ByteArray)] 23 (0,0)) (by (with_reducible repeat first|apply zbN|apply zb1|apply zbA);exact BK103.out)):gb103 ≠ gb110));have n12_:=z_ ((by rw [hg];exact Nat.ne_of_gt (blk_lt (g:=gb103) (o:=.cells #[.int .i64 0, .int .i64 0, .int .i64 0, .string (⟨#[]⟩:ByteArray)] 23 (0,0)) (by (with_reducible repeat first|apply zbN|apply zb1|apply zbA);exact BK103.out)):gb110 ≠ gb103));clear BK101;clear BK102;clear BK103;clear HB;have BK101:=n0_;have BK102:=n1_;have BK103:=n2_;have HB:=n3_;have BK110:=n4_;have GW110:=n5_;have GE110:=n6_;have NB101_110:=n7_;have NB110_101:=n8_;have NB102_110:=n9_;have NB110_102:=n10_;have NB103_110:=n11_;have NB110_103:=n12_;clear n0_ n1_ n2_ n3_ n4_ n5_ n6_ n7_ n8_ n9_ n10_ n11_ n12_;clear hb hbox hg;have hnb18:=NB110_101.out;have hnc18:=NB101_110.out;have hnb19:=NB110_102.out;have hnc19:=NB102_110.out;have hnb20:=NB110_103.out;have hnc20:=NB103_110.out;have hcz21_0:w17.cell? ⟨gb110,0,none⟩ = some (.int .i64 0):=(zce BK110.out 0).trans rfl;have hcz21_1:w17.cell? ⟨gb110,1,none⟩ = some (.int .i64 0):=(zce BK110.out 1).trans rfl;have hcz21_2:w17.cell? ⟨gb110,2,none⟩ = some (.int .i64 0):=(zce BK110.out 2).trans rfl;have hcz21_3:w17.cell? ⟨gb110,3,none⟩ = some (.string (⟨#[]⟩:ByteArray)):=(zce BK110.out 3).trans rfl;have hfz21_0:=zfz BK110.out 0;have hfz21_1:=zfz BK110.out 1;have hfz21_2:=zfz BK110.out 2;have hfz21_3:=zfz BK110.out 3))
   have n0_:Aside0 (((((w17.setCell ⟨gb110,0,none⟩ (.int .i64 t106)).setCell ⟨gb110,1,none⟩ (.int .i64 t107)).setCell ⟨gb110,2,none⟩ (.int .i64 t108)).setCell ⟨gb110,3,none⟩ (.string t109)).heap[gb101]? = some (.cells #[.int .i64 a1_0, .int .i64 a1_1, .int .i64 a1_2, .string a1_3] 23 (0,0))):=⟨by (with_reducible repeat first|apply zbN|apply zb1|apply zbA);refine zbf ?_ NB101_110.out _;(with_reducible repeat first|apply zbN|apply zb1|apply zbA);refine zbf ?_ NB101_110.out _;(with_reducible repeat first|apply zbN|apply zb1|apply zbA);refine zbf ?_ NB101_110.out _;(with_reducible repeat first|apply zbN|apply zb1|apply zbA);refine zbf ?_ NB101_110.out _;(with_reducible repeat first|apply zbN|apply zb1|apply zbA);exact BK101.out⟩
   have n1_:Aside0 (((((w17.setCell ⟨gb110,0,none⟩ (.int .i64 t106)).setCell ⟨gb110,1,none⟩ (.int .i64 t107)).setCell ⟨gb110,2,none⟩ (.int .i64 t108)).setCell ⟨gb110,3,none⟩ (.string t109)).heap[gb102]? = some (.cells #[.int .i64 a2_0, .int .i64 a2_1, .int .i64 a2_2, .string a2_3] 23 (0,0))):=⟨by (with_reducible repeat first|apply zbN|apply zb1|apply zbA);refine zbf ?_ NB102_110.out _;(with_reducible repeat first|apply zbN|apply zb1|apply zbA);refine zbf ?_ NB102_110.out _;(with_reducible repeat first|apply zbN|apply zb1|apply zbA);refine zbf ?_ NB102_110.out _;(with_reducible repeat first|apply zbN|apply zb1|apply zbA);refine zbf ?_ NB102_110.out _;(with_reducible repeat first|apply zbN|apply zb1|apply zbA);exact BK102.out⟩
   have n2_:Aside0 (((((w17.setCell ⟨gb110,0,none⟩ (.int .i64 t106)).setCell ⟨gb110,1,none⟩ (.int .i64 t107)).setCell ⟨gb110,2,none⟩ (.int .i64 t108)).setCell ⟨gb110,3,none⟩ (.string t109)).heap[gb103]? = some (.cells #[.int .i64 0, .int .i64 0, .int .i64 0, .string (⟨#[]⟩:ByteArray)] 23 (0,0))):=⟨by (with_reducible repeat first|apply zbN|apply zb1|apply zbA);refine zbf ?_ NB103_110.out _;(with_reducible repeat first|apply zbN|apply zb1|apply zbA);refine zbf ?_ NB103_110.out _;(with_reducible repeat first|apply zbN|apply zb1|apply zbA);refine zbf ?_ NB103_110.out _;(with_reducible repeat first|apply zbN|apply zb1|apply zbA);refine zbf ?_ NB103_110.out _;(with_reducible repeat first|apply zbN|apply zb1|apply zbA);exact BK103.out⟩
   have n3_:Aside0 (((((w17.setCell ⟨gb110,0,none⟩ (.int .i64 t106)).setCell ⟨gb110,1,none⟩ (.int .i64 t107)).setCell ⟨gb110,2,none⟩ (.int .i64 t108)).setCell ⟨gb110,3,none⟩ (.string t109)).heap[gb110]? = some (.cells #[.int .i64 t106, .int .i64 t107, .int .i64 t108, .string t109] 23 (0,0))):=⟨by (with_reducible repeat first|apply zbN|apply zb1|apply zbA);refine zbp (cs:=#[.int .i64 t106, .int .i64 t107, .int .i64 t108, .string (⟨#[]⟩:ByteArray)]) ?_ 3 _ rfl;(with_reducible repeat first|apply zbN|apply zb1|apply zbA);refine zbp (cs:=#[.int .i64 t106, .int .i64 t107, .int .i64 0, .string (⟨#[]⟩:ByteArray)]) ?_ 2 _ rfl;(with_reducible repeat first|apply zbN|apply zb1|apply zbA);refine zbp (cs:=#[.int .i64 t106, .int .i64 0, .int .i64 0, .string (⟨#[]⟩:ByteArray)]) ?_ 1 _ rfl;(with_reducible repeat first|apply zbN|apply zb1|apply zbA);refine zbp (cs:=#[.int .i64 0, .int .i64 0, .int .i64 0, .string (⟨#[]⟩:ByteArray)]) ?_ 0 _ rfl;(with_reducible repeat first|apply zbN|apply zb1|apply zbA);exact BK110.out⟩
   have n4_:Aside0 (Below w.heap.size w ((((w17.setCell ⟨gb110,0,none⟩ (.int .i64 t106)).setCell ⟨gb110,1,none⟩ (.int .i64 t107)).setCell ⟨gb110,2,none⟩ (.int .i64 t108)).setCell ⟨gb110,3,none⟩ (.string t109))):=⟨by repeat first|(with_reducible first|exact HB.out|apply zA|apply zN|apply z1|refine zS ?_ GE101.out|refine zS ?_ GE102.out|refine zS ?_ GE103.out|refine zS ?_ GE110.out)|exact HB.out⟩
   (try clear BK101)
   (try clear BK102)
   (try clear BK103)
   (try clear BK110)
   (try clear HB)
   generalize ((((w17.setCell ⟨gb110,0,none⟩ (.int .i64 t106)).setCell ⟨gb110,1,none⟩ (.int .i64 t107)).setCell ⟨gb110,2,none⟩ (.int .i64 t108)).setCell ⟨gb110,3,none⟩ (.string t109)) = w22 at n0_ n1_ n2_ n3_ n4_ ⊢
   have BK101:=n0_
   have BK102:=n1_
   have BK103:=n2_
   have BK110:=n3_
   have HB:=n4_
   clear n0_ n1_ n2_ n3_ n4_
   have n0_:=z_ (zb1 BK101.out)
   have n1_:=z_ (zb1 BK102.out)
   have n2_:=z_ (zb1 BK103.out)
   have n3_:=z_ (zb1 BK110.out)
   have n4_:=z_ (z1 HB.out)
   clear BK101
   clear BK102
   clear BK103
   clear BK110
   clear HB
   have BK101:=n0_
   have BK102:=n1_
   have BK103:=n2_
   have BK110:=n3_
   have HB:=n4_
   clear n0_ n1_ n2_ n3_ n4_
   refine start_ (n:=8) (S:=fun w'=>w'.cell? ⟨gb110,0,none⟩ = some (.int .i64 t106) ∧ w'.cell? ⟨gb110,1,none⟩ = some (.int .i64 t107) ∧ w'.cell? ⟨gb110,2,none⟩ = some (.int .i64 t108) ∧ w'.cell? ⟨gb110,3,none⟩ = some (.string t109)) (ds:=[]) #[false,false,false,false,false,false,false,false] (by kernel_rfl) rfl rfl ⟨(zce BK110.out 0).trans rfl,(zce BK110.out 1).trans rfl,(zce BK110.out 2).trans rfl,(zce BK110.out 3).trans rfl⟩ (fun hHeld=>?_);refine with_tabW val_decs.tab9 val_decs.bits9 (fun HT_ HW_=>?_)
   generalize w22.drew = w23 at BK101 BK102 BK103 BK110 HB hHeld ⊢
   refine pure_ (i:=1) (N:=some 49) (v:=?_) (a':=?_) #[false,true,false,false,false,false,false,false] rfl rfl (any_of HT_.out (by kernel_rfl)) (fun _ _ _ h=>h) (Or.inl ⟨by rfl,?_⟩) ?_ ?_
   rotate_left
   ·intro w'
    go_simp
    with_reducible rfl
   rotate_left
   ·simp only [Act.put,List.setIfInBounds_toArray,List.set_cons_zero,List.set_cons_succ,i64_w,i32_w]
    rfl
   refine pure_ (i:=2) (N:=some 50) (v:=?_) (a':=?_) #[false,true,true,false,false,false,false,false] rfl rfl (any_of HT_.out (by kernel_rfl)) (fun _ _ _ h=>h) (Or.inl ⟨by rfl,?_⟩) ?_ ?_
   rotate_left
   ·intro w'
    go_simp
    with_reducible rfl
   rotate_left
   ·simp only [Act.put,List.setIfInBounds_toArray,List.set_cons_zero,List.set_cons_succ,i64_w,i32_w]
    rfl
   refine take_ (i:=0) (N:=some 48) (v:=?_) (a':=?_) #[true,true,true,false,false,false,false,false] rfl rfl (take_ofW HT_.out HW_.out (by kernel_rfl)) (fun _ _ _ h=>h) (Or.inl ⟨by rfl,?_⟩) hHeld ?_ ?_
   rotate_left
   ·rintro w' ⟨s0,s1,s2,s3⟩
    go_simp
    with_reducible rfl
   rotate_left
   ·simp only [Act.put,List.setIfInBounds_toArray,List.set_cons_zero,List.set_cons_succ,i64_w,i32_w]
    rfl
   refine take_ (i:=3) (N:=some 51) (v:=?_) (a':=?_) #[true,true,true,true,false,false,false,false] rfl rfl (take_ofW HT_.out HW_.out (by kernel_rfl)) (fun _ _ _ h=>h) (Or.inl ⟨by rfl,?_⟩) hHeld ?_ ?_
   rotate_left
   ·rintro w' ⟨s0,s1,s2,s3⟩
    go_simp
    with_reducible rfl
   rotate_left
   ·simp only [Act.put,List.setIfInBounds_toArray,List.set_cons_zero,List.set_cons_succ,i64_w,i32_w]
    rfl
   refine one_ (i:=4) (N:=some 52) #[true,true,true,true,true,false,false,false] rfl rfl (one_of HT_.out (by kernel_rfl)) (by decide) (fun K hK=>?_)
   refine goes_ Try.func15 (by kernel_rfl) rfl #[.agg #[.int .i64 t106, .int .i64 t107, .int .i64 t108, .string t109]] (by rfl) rfl rfl (by (try simp only [List.map_toArray,List.map_cons,List.map_nil]);first|done|rfl|(simp only [List.length_drop,List.length_take];rfl)) ?_
   with_reducible refine (val_Right.calls k t106 t107 t108 t109 t111 _ A8.out).mono ?_
   rintro e w24 ⟨rfl,hb⟩
   refine ⟨_,rfl,?_⟩
   have n0_:=z_ (zbb (g:=gb101) (o:=.cells #[.int .i64 a1_0, .int .i64 a1_1, .int .i64 a1_2, .string a1_3] 23 (0,0)) (by (with_reducible repeat first|apply zbN|apply zb1|apply zbA);exact BK101.out) hb)
   have n1_:=z_ (zbb (g:=gb102) (o:=.cells #[.int .i64 a2_0, .int .i64 a2_1, .int .i64 a2_2, .string a2_3] 23 (0,0)) (by (with_reducible repeat first|apply zbN|apply zb1|apply zbA);exact BK102.out) hb)
   have n2_:=z_ (zbb (g:=gb103) (o:=.cells #[.int .i64 0, .int .i64 0, .int .i64 0, .string (⟨#[]⟩:ByteArray)] 23 (0,0)) (by (with_reducible repeat first|apply zbN|apply zb1|apply zbA);exact BK103.out) hb)
   have n3_:=z_ (zbb (g:=gb110) (o:=.cells #[.int .i64 t106, .int .i64 t107, .int .i64 t108, .string t109] 23 (0,0)) (by (with_reducible repeat first|apply zbN|apply zb1|apply zbA);exact BK110.out) hb)
   have n4_:=z_ (below_step (by repeat first|(with_reducible first|exact HB.out|apply zA|apply zN|apply z1|refine zS ?_ GE101.out|refine zS ?_ GE102.out|refine zS ?_ GE103.out|refine zS ?_ GE110.out)|exact HB.out) hb)
   clear BK101
   clear BK102
   clear BK103
   clear BK110
   clear HB
   have BK101:=n0_
   have BK102:=n1_
   have BK103:=n2_
   have BK110:=n3_
   have HB:=n4_
   clear n0_ n1_ n2_ n3_ n4_
   (try clear hb)
   (try clear hb2)
   (try clear hk)
   (try clear hi)
   refine hK.out _ _ ⟨(zce BK110.out 0).trans rfl,(zce BK110.out 1).trans rfl,(zce BK110.out 2).trans rfl,(zce BK110.out 3).trans rfl⟩ (fun hHeld=>?_)
   clear hK K
   refine norm_ (a':=?_) ?_ ?_
   rotate_left
   ·show Act.put _ (some 52) _ = _
    simp only [Act.put,List.setIfInBounds_toArray,List.set_cons_zero,List.set_cons_succ,i64_w,i32_w]
    rfl
   refine pure_ (i:=5) (N:=some 53) (v:=?_) (a':=?_) #[true,true,true,true,true,true,false,false] rfl rfl (any_of HT_.out (by kernel_rfl)) (fun _ _ _ h=>h) (Or.inl ⟨by rfl,?_⟩) ?_ ?_
   rotate_left
   ·intro w'
    go_simp
    with_reducible rfl
   rotate_left
   ·simp only [Act.put,List.setIfInBounds_toArray,List.set_cons_zero,List.set_cons_succ,i64_w,i32_w]
    rfl
   refine one_ (i:=6) (N:=none) #[true,true,true,true,true,true,true,false] rfl rfl (one_of HT_.out (by kernel_rfl)) (by decide) (fun K hK=>?_)
   have hs25:w24.cell? ⟨gb103,0,none⟩ = some (.int .i64 0):=(zce BK103.out 0).trans rfl
   have hfs25:=zfz BK103.out 0
   have hns25_0:=NB101_103.out
   have hns25_1:=NB102_103.out
   have hns25_3:=NB110_103.out
   have hms25_0:=NB103_101.out
   have hms25_1:=NB103_102.out
   have hms25_3:=NB103_110.out
   have hs26:w24.cell? ⟨gb103,1,none⟩ = some (.int .i64 0):=(zce BK103.out 1).trans rfl
   have hfs26:=zfz BK103.out 1
   have hns26_0:=NB101_103.out
   have hns26_1:=NB102_103.out
   have hns26_3:=NB110_103.out
   have hms26_0:=NB103_101.out
   have hms26_1:=NB103_102.out
   have hms26_3:=NB103_110.out
   have hs27:w24.cell? ⟨gb103,2,none⟩ = some (.int .i64 0):=(zce BK103.out 2).trans rfl
   have hfs27:=zfz BK103.out 2
   have hns27_0:=NB101_103.out
   have hns27_1:=NB102_103.out
   have hns27_3:=NB110_103.out
   have hms27_0:=NB103_101.out
   have hms27_1:=NB103_102.out
   have hms27_3:=NB103_110.out
   have hs28:w24.cell? ⟨gb103,3,none⟩ = some (.string (⟨#[]⟩:ByteArray)):=(zce BK103.out 3).trans rfl
   have hfs28:=zfz BK103.out 3
   have hns28_0:=NB101_103.out
   have hns28_1:=NB102_103.out
   have hns28_3:=NB110_103.out
   have hms28_0:=NB103_101.out
   have hms28_1:=NB103_102.out
   have hms28_3:=NB103_110.out
   refine skip_ (w1:=?_) (by rfl) rfl ?_ ?_
   rotate_left
   ·go_simp
    rfl
   refine hK.out _ _ ⟨((cell_far (p:=⟨gb103,_,none⟩) NB110_103.out _).trans (((cell_far (p:=⟨gb103,_,none⟩) NB110_103.out _).trans (((cell_far (p:=⟨gb103,_,none⟩) NB110_103.out _).trans (((cell_far (p:=⟨gb103,_,none⟩) NB110_103.out _).trans (hHeld.1)))))))),((cell_far (p:=⟨gb103,_,none⟩) NB110_103.out _).trans (((cell_far (p:=⟨gb103,_,none⟩) NB110_103.out _).trans (((cell_far (p:=⟨gb103,_,none⟩) NB110_103.out _).trans (((cell_far (p:=⟨gb103,_,none⟩) NB110_103.out _).trans (hHeld.2.1)))))))),((cell_far (p:=⟨gb103,_,none⟩) NB110_103.out _).trans (((cell_far (p:=⟨gb103,_,none⟩) NB110_103.out _).trans (((cell_far (p:=⟨gb103,_,none⟩) NB110_103.out _).trans (((cell_far (p:=⟨gb103,_,none⟩) NB110_103.out _).trans (hHeld.2.2.1)))))))),((cell_far (p:=⟨gb103,_,none⟩) NB110_103.out _).trans (((cell_far (p:=⟨gb103,_,none⟩) NB110_103.out _).trans (((cell_far (p:=⟨gb103,_,none⟩) NB110_103.out _).trans (((cell_far (p:=⟨gb103,_,none⟩) NB110_103.out _).trans (hHeld.2.2.2))))))))⟩ (fun hHeld=>?_)
   clear hK K
   refine pure_ (i:=7) (N:=some 7) (v:=?_) (a':=?_) #[true,true,true,true,true,true,true,true] rfl rfl (any_of HT_.out (by kernel_rfl)) (fun _ _ _ h=>h) (Or.inl ⟨by rfl,?_⟩) ?_ ?_
   rotate_left
   ·intro w'
    go_simp
    with_reducible rfl
   rotate_left
   ·simp only [Act.put,List.setIfInBounds_toArray,List.set_cons_zero,List.set_cons_succ,i64_w,i32_w]
    rfl
   refine done_ (done_of HT_.out (by kernel_rfl)) ?_
   try go_wp2
   refine bodyPost_ret (results_ct rfl _ _ gb103 23 #[.int .i64 t106, .int .i64 t107, .int .i64 t108, .string t109] (0,0) _ rfl (by (with_reducible repeat first|apply zbN|apply zb1|apply zbA);refine zbp (cs:=#[.int .i64 t106, .int .i64 t107, .int .i64 t108, .string (⟨#[]⟩:ByteArray)]) ?_ 3 _ rfl;(with_reducible repeat first|apply zbN|apply zb1|apply zbA);refine zbp (cs:=#[.int .i64 t106, .int .i64 t107, .int .i64 0, .string (⟨#[]⟩:ByteArray)]) ?_ 2 _ rfl;(with_reducible repeat first|apply zbN|apply zb1|apply zbA);refine zbp (cs:=#[.int .i64 t106, .int .i64 0, .int .i64 0, .string (⟨#[]⟩:ByteArray)]) ?_ 1 _ rfl;(with_reducible repeat first|apply zbN|apply zb1|apply zbA);refine zbp (cs:=#[.int .i64 0, .int .i64 0, .int .i64 0, .string (⟨#[]⟩:ByteArray)]) ?_ 0 _ rfl;(with_reducible repeat first|apply zbN|apply zb1|apply zbA);exact BK103.out) Try.underlying23 rfl (by kernel_rfl)) rfl ?_
   exact ⟨by first|rfl|(simp [errW_none,errW_some] <;> rfl)|(simp [*,errW_none,errW_some] <;> rfl),by repeat first|(with_reducible first|exact HB.out|apply zA|apply zN|apply z1|refine zS ?_ GE101.out|refine zS ?_ GE102.out|refine zS ?_ GE103.out|refine zS ?_ GE110.out)|exact HB.out⟩
  ·clear n0_ n1_ n2_ n3_
   refine start_ (n:=12) (S:=fun w'=>w'.cell? ⟨gb101,0,none⟩ = some (.int .i64 a1_0) ∧ w'.cell? ⟨gb101,1,none⟩ = some (.int .i64 a1_1) ∧ w'.cell? ⟨gb101,2,none⟩ = some (.int .i64 a1_2) ∧ w'.cell? ⟨gb101,3,none⟩ = some (.string a1_3) ∧ w'.cell? ⟨gb102,0,none⟩ = some (.int .i64 a2_0) ∧ w'.cell? ⟨gb102,1,none⟩ = some (.int .i64 a2_1) ∧ w'.cell? ⟨gb102,2,none⟩ = some (.int .i64 a2_2) ∧ w'.cell? ⟨gb102,3,none⟩ = some (.string a2_3)) (ds:=[]) #[false,false,false,false,false,false,false,false,false,false,false,false] (by kernel_rfl) rfl rfl ⟨(zce BK101.out 0).trans rfl,(zce BK101.out 1).trans rfl,(zce BK101.out 2).trans rfl,(zce BK101.out 3).trans rfl,(zce BK102.out 0).trans rfl,(zce BK102.out 1).trans rfl,(zce BK102.out 2).trans rfl,(zce BK102.out 3).trans rfl⟩ (fun hHeld=>?_);refine with_tabW val_decs.tab1 val_decs.bits1 (fun HT_ HW_=>?_)
   generalize w11.drew = w12 at BK101 BK102 BK103 HB hHeld ⊢
   refine pure_ (i:=0) (N:=some 15) (v:=?_) (a':=?_) #[true,false,false,false,false,false,false,false,false,false,false,false] rfl rfl (any_of HT_.out (by kernel_rfl)) (fun _ _ _ h=>h) (Or.inl ⟨by rfl,?_⟩) ?_ ?_
   rotate_left
   ·intro w'
    go_simp
    with_reducible rfl
   rotate_left
   ·simp only [Act.put,List.setIfInBounds_toArray,List.set_cons_zero,List.set_cons_succ,i64_w,i32_w]
    rfl
   refine pure_ (i:=2) (N:=some 17) (v:=?_) (a':=?_) #[true,false,true,false,false,false,false,false,false,false,false,false] rfl rfl (any_of HT_.out (by kernel_rfl)) (fun _ _ _ h=>h) (Or.inl ⟨by rfl,?_⟩) ?_ ?_
   rotate_left
   ·intro w'
    go_simp
    with_reducible rfl
   rotate_left
   ·simp only [Act.put,List.setIfInBounds_toArray,List.set_cons_zero,List.set_cons_succ,i64_w,i32_w]
    rfl
   refine pure_ (i:=4) (N:=some 19) (v:=?_) (a':=?_) #[true,false,true,false,true,false,false,false,false,false,false,false] rfl rfl (any_of HT_.out (by kernel_rfl)) (fun _ _ _ h=>h) (Or.inl ⟨by rfl,?_⟩) ?_ ?_
   rotate_left
   ·intro w'
    go_simp
    with_reducible rfl
   rotate_left
   ·simp only [Act.put,List.setIfInBounds_toArray,List.set_cons_zero,List.set_cons_succ,i64_w,i32_w]
    rfl
   refine pure_ (i:=6) (N:=some 21) (v:=?_) (a':=?_) #[true,false,true,false,true,false,true,false,false,false,false,false] rfl rfl (any_of HT_.out (by kernel_rfl)) (fun _ _ _ h=>h) (Or.inl ⟨by rfl,?_⟩) ?_ ?_
   rotate_left
   ·intro w'
    go_simp
    with_reducible rfl
   rotate_left
   ·simp only [Act.put,List.setIfInBounds_toArray,List.set_cons_zero,List.set_cons_succ,i64_w,i32_w]
    rfl
   refine take_ (i:=1) (N:=some 16) (v:=?_) (a':=?_) #[true,true,true,false,true,false,true,false,false,false,false,false] rfl rfl (take_ofW HT_.out HW_.out (by kernel_rfl)) (fun _ _ _ h=>h) (Or.inl ⟨by rfl,?_⟩) hHeld ?_ ?_
   rotate_left
   ·rintro w' ⟨s0,s1,s2,s3,s4,s5,s6,s7⟩
    go_simp
    with_reducible rfl
   rotate_left
   ·simp only [Act.put,List.setIfInBounds_toArray,List.set_cons_zero,List.set_cons_succ,i64_w,i32_w]
    rfl
   refine pure_ (i:=9) (N:=some 8) (v:=?_) (a':=?_) #[true,true,true,false,true,false,true,false,false,true,false,false] rfl rfl (any_of HT_.out (by kernel_rfl)) (fun _ _ _ h=>h) (Or.inl ⟨by rfl,?_⟩) ?_ ?_
   rotate_left
   ·intro w'
    go_simp
    with_reducible rfl
   rotate_left
   ·simp only [Act.put,List.setIfInBounds_toArray,List.set_cons_zero,List.set_cons_succ,i64_w,i32_w]
    rfl
   refine take_ (i:=3) (N:=some 18) (v:=?_) (a':=?_) #[true,true,true,true,true,false,true,false,false,true,false,false] rfl rfl (take_ofW HT_.out HW_.out (by kernel_rfl)) (fun _ _ _ h=>h) (Or.inl ⟨by rfl,?_⟩) hHeld ?_ ?_
   rotate_left
   ·rintro w' ⟨s0,s1,s2,s3,s4,s5,s6,s7⟩
    go_simp
    with_reducible rfl
   rotate_left
   ·simp only [Act.put,List.setIfInBounds_toArray,List.set_cons_zero,List.set_cons_succ,i64_w,i32_w]
    rfl
   refine pure_ (i:=10) (N:=some 9) (v:=?_) (a':=?_) #[true,true,true,true,true,false,true,false,false,true,true,false] rfl rfl (any_of HT_.out (by kernel_rfl)) (fun _ _ _ h=>h) (Or.inl ⟨by rfl,?_⟩) ?_ ?_
   rotate_left
   ·intro w'
    go_simp
    with_reducible rfl
   rotate_left
   ·simp only [Act.put,List.setIfInBounds_toArray,List.set_cons_zero,List.set_cons_succ,i64_w,i32_w]
    rfl
   refine take_ (i:=5) (N:=some 20) (v:=?_) (a':=?_) #[true,true,true,true,true,true,true,false,false,true,true,false] rfl rfl (take_ofW HT_.out HW_.out (by kernel_rfl)) (fun _ _ _ h=>h) (Or.inl ⟨by rfl,?_⟩) hHeld ?_ ?_
   rotate_left
   ·rintro w' ⟨s0,s1,s2,s3,s4,s5,s6,s7⟩
    go_simp
    with_reducible rfl
   rotate_left
   ·simp only [Act.put,List.setIfInBounds_toArray,List.set_cons_zero,List.set_cons_succ,i64_w,i32_w]
    rfl
   refine take_ (i:=7) (N:=some 22) (v:=?_) (a':=?_) #[true,true,true,true,true,true,true,true,false,true,true,false] rfl rfl (take_ofW HT_.out HW_.out (by kernel_rfl)) (fun _ _ _ h=>h) (Or.inl ⟨by rfl,?_⟩) hHeld ?_ ?_
   rotate_left
   ·rintro w' ⟨s0,s1,s2,s3,s4,s5,s6,s7⟩
    go_simp
    with_reducible rfl
   rotate_left
   ·simp only [Act.put,List.setIfInBounds_toArray,List.set_cons_zero,List.set_cons_succ,i64_w,i32_w]
    rfl
   refine pure_ (i:=8) (N:=some 23) (v:=?_) (a':=?_) #[true,true,true,true,true,true,true,true,true,true,true,false] rfl rfl (any_of HT_.out (by kernel_rfl)) (fun _ _ _ h=>h) (Or.inl ⟨by rfl,?_⟩) ?_ ?_
   rotate_left
   ·intro w'
    go_simp
    with_reducible rfl
   rotate_left
   ·simp only [Act.put,List.setIfInBounds_toArray,List.set_cons_zero,List.set_cons_succ,i64_w,i32_w]
    rfl
   refine pure_ (i:=11) (N:=some 10) (v:=?_) (a':=?_) #[true,true,true,true,true,true,true,true,true,true,true,true] rfl rfl (any_of HT_.out (by kernel_rfl)) (fun _ _ _ h=>h) (Or.inl ⟨by rfl,?_⟩) ?_ ?_
   rotate_left
   ·intro w'
    go_simp
    with_reducible rfl
   rotate_left
   ·simp only [Act.put,List.setIfInBounds_toArray,List.set_cons_zero,List.set_cons_succ,i64_w,i32_w]
    rfl
   refine done_ (done_of HT_.out (by kernel_rfl)) ?_
   try go_wp2_with (first|((with_reducible refine gate_callee (f:=58) rfl ?_);refine goesL_ (some 41) rfl rfl Try.func58 (by kernel_rfl) rfl #[.int .i64 a0, .int .i64 a1_1, .int .i64 a2_1] rfl (by (try simp only [List.map_toArray,List.map_cons,List.map_nil]);first|done|rfl|(simp only [List.length_drop,List.length_take];rfl)) ?_;(with_reducible refine (val_two.calls a0 a1_1 a2_1 t104 false _ A5.out).mono ?_);rintro e w' ⟨rfl,⟨nd,rfl⟩⟩;refine ⟨_,rfl,?_⟩;(try (rw [drewN_self w12];generalize hq_:World.drewN w12 _ = w12;have n0_:Aside0 (w12.heap[gb101]? = some (.cells #[.int .i64 a1_0, .int .i64 a1_1, .int .i64 a1_2, .string a1_3] 23 (0,0))):=⟨by rw [← hq_];exact (by (with_reducible repeat first|apply zbN|apply zb1|apply zbA);exact BK101.out)⟩;have n1_:Aside0 (w12.heap[gb102]? = some (.cells #[.int .i64 a2_0, .int .i64 a2_1, .int .i64 a2_2, .string a2_3] 23 (0,0))):=⟨by rw [← hq_];exact (by (with_reducible repeat first|apply zbN|apply zb1|apply zbA);exact BK102.out)⟩;have n2_:Aside0 (w12.heap[gb103]? = some (.cells #[.int .i64 0, .int .i64 0, .int .i64 0, .string (⟨#[]⟩:ByteArray)] 23 (0,0))):=⟨by rw [← hq_];exact (by (with_reducible repeat first|apply zbN|apply zb1|apply zbA);exact BK103.out)⟩;have n3_:Aside0 (Below w.heap.size w w12):=⟨by rw [← hq_];exact (by repeat first|(with_reducible first|exact HB.out|apply zA|apply zN|apply z1|refine zS ?_ GE101.out|refine zS ?_ GE102.out|refine zS ?_ GE103.out)|exact HB.out)⟩;clear BK101 BK102 BK103 HB hq_;have BK101:=n0_;have BK102:=n1_;have BK103:=n2_;have HB:=n3_;clear n0_ n1_ n2_ n3_));(try have hcu33_0:w12.cell? ⟨gb101,0,none⟩ = some (.int .i64 a1_0):=(zce BK101.out 0).trans rfl);(try have hcu33_1:w12.cell? ⟨gb101,1,none⟩ = some (.int .i64 a1_1):=(zce BK101.out 1).trans rfl);(try have hcu33_2:w12.cell? ⟨gb101,2,none⟩ = some (.int .i64 a1_2):=(zce BK101.out 2).trans rfl);(try have hcu33_3:w12.cell? ⟨gb101,3,none⟩ = some (.string a1_3):=(zce BK101.out 3).trans rfl);(try have hfu33_0:=zfz BK101.out 0);(try have hfu33_1:=zfz BK101.out 1);(try have hfu33_2:=zfz BK101.out 2);(try have hfu33_3:=zfz BK101.out 3);(try have hcu34_0:w12.cell? ⟨gb102,0,none⟩ = some (.int .i64 a2_0):=(zce BK102.out 0).trans rfl);(try have hcu34_1:w12.cell? ⟨gb102,1,none⟩ = some (.int .i64 a2_1):=(zce BK102.out 1).trans rfl);(try have hcu34_2:w12.cell? ⟨gb102,2,none⟩ = some (.int .i64 a2_2):=(zce BK102.out 2).trans rfl);(try have hcu34_3:w12.cell? ⟨gb102,3,none⟩ = some (.string a2_3):=(zce BK102.out 3).trans rfl);(try have hfu34_0:=zfz BK102.out 0);(try have hfu34_1:=zfz BK102.out 1);(try have hfu34_2:=zfz BK102.out 2);(try have hfu34_3:=zfz BK102.out 3);(try have hcu35_0:w12.cell? ⟨gb103,0,none⟩ = some (.int .i64 0):=(zce BK103.out 0).trans rfl);(try have hcu35_1:w12.cell? ⟨gb103,1,none⟩ = some (.int .i64 0):=(zce BK103.out 1).trans rfl);(try have hcu35_2:w12.cell? ⟨gb103,2,none⟩ = some (.int .i64 0):=(zce BK103.out 2).trans rfl);(try have hcu35_3:w12.cell? ⟨gb103,3,none⟩ = some (.string (⟨#[]⟩:ByteArray)):=(zce BK103.out 3).trans rfl);(try have hfu35_0:=zfz BK103.out 0);(try have hfu35_1:=zfz BK103.out 1);(try have hfu35_2:=zfz BK103.out 2);(try have hfu35_3:=zfz BK103.out 3))|((with_reducible refine gate_callee (f:=16) rfl ?_);refine goesL_ (some 47) rfl rfl Try.func16 (by kernel_rfl) rfl #[.agg #[.int .i64 3, .int .i64 t104, .int .i64 (wrap64 (a1_2 + a2_2)), .string (⟨#[]⟩:ByteArray)]] rfl (by (try simp only [List.map_toArray,List.map_cons,List.map_nil]);first|done|rfl|(simp only [List.length_drop,List.length_take];rfl)) ?_;(with_reducible refine (val_Norm.calls k 3 t104 (wrap64 (a1_2 + a2_2)) (⟨#[]⟩:ByteArray) t106 t107 t108 t109 _ A6.out).mono ?_);rintro e w36 ⟨rfl,hb⟩;refine ⟨_,rfl,?_⟩;have n0_:=z_ (zbb (g:=gb101) (o:=.cells #[.int .i64 a1_0, .int .i64 a1_1, .int .i64 a1_2, .string a1_3] 23 (0,0)) (by (with_reducible repeat first|apply zbN|apply zb1|apply zbA);exact BK101.out) hb);have n1_:=z_ (zbb (g:=gb102) (o:=.cells #[.int .i64 a2_0, .int .i64 a2_1, .int .i64 a2_2, .string a2_3] 23 (0,0)) (by (with_reducible repeat first|apply zbN|apply zb1|apply zbA);exact BK102.out) hb);have n2_:=z_ (zbb (g:=gb103) (o:=.cells #[.int .i64 0, .int .i64 0, .int .i64 0, .string (⟨#[]⟩:ByteArray)] 23 (0,0)) (by (with_reducible repeat first|apply zbN|apply zb1|apply zbA);exact BK103.out) hb);have n3_:=z_ (below_step (by repeat first|(with_reducible first|exact HB.out|apply zA|apply zN|apply z1|refine zS ?_ GE101.out|refine zS ?_ GE102.out|refine zS ?_ GE103.out)|exact HB.out) hb);clear BK101;clear BK102;clear BK103;clear HB;have BK101:=n0_;have BK102:=n1_;have BK103:=n2_;have HB:=n3_;clear n0_ n1_ n2_ n3_;(try clear hb);(try clear hb2);(try clear hk);(try clear hi))|((with_reducible refine gate_dst (N:=14) rfl ?_);refine box_event ?hg (N:=14) ?hd (cs:=#[.int .i64 0, .int .i64 0, .int .i64 0, .string (⟨#[]⟩:ByteArray)]) (t:=23) ?hr ?_;(case hd=>rfl);(case hg=>rfl);(case hr=>first|(go_simp;done)|(go_simp;rfl));intro gb110 hg w37 hbox hb;have n0_:=z_ (zbb (g:=gb101) (o:=.cells #[.int .i64 a1_0, .int .i64 a1_1, .int .i64 a1_2, .string a1_3] 23 (0,0)) (by (with_reducible repeat first|apply zbN|apply zb1|apply zbA);exact BK101.out) hb);have n1_:=z_ (zbb (g:=gb102) (o:=.cells #[.int .i64 a2_0, .int .i64 a2_1, .int .i64 a2_2, .string a2_3] 23 (0,0)) (by (with_reducible repeat first|apply zbN|apply zb1|apply zbA);exact BK102.out) hb);have n2_:=z_ (zbb (g:=gb103) (o:=.cells #[.int .i64 0, .int .i64 0, .int .i64 0, .string (⟨#[]⟩:ByteArray)] 23 (0,0)) (by (with_reducible repeat first|apply zbN|apply zb1|apply zbA);exact BK103.out) hb);have n3_:=z_ (below_step (by repeat first|(with_reducible first|exact HB.out|apply zA|apply zN|apply z1|refine zS ?_ GE101.out|refine zS ?_ GE102.out|refine zS ?_ GE103.out)|exact HB.out) hb);have n4_:=z_ (hbox);have n5_:=z_ ((by rw [hg];exact (zBs (by repeat first|(with_reducible first|exact HB.out|apply zA|apply zN|apply z1|refine zS ?_ GE101.out|refine zS ?_ GE102.out|refine zS ?_ GE103.out)|exact HB.out)):w.heap.size ≤ gb110));have n6_:=z_ ((by rw [hg];exact (zBs (by repeat first|(with_reducible first|exact HB.out|apply zA|apply zN|apply z1|refine zS ?_ GE101.out|refine zS ?_ GE102.out|refine zS ?_ GE103.out)|exact HB.out)):w.heap.size ≤ gb110));have n7_:=z_ ((by rw [hg];exact Nat.ne_of_lt (blk_lt (g:=gb101) (o:=.cells #[.int .i64 a1_0, .int .i64 a1_1, .int .i64 a1_2, .string a1_3] 23 (0,0)) (by (with_reducible repeat first|apply zbN|apply zb1|apply zbA);exact BK101.out)):gb101 ≠ gb110));have n8_:=z_ ((by rw [hg];exact Nat.ne_of_gt (blk_lt (g:=gb101) (o:=.cells #[.int .i64 a1_0, .int .i64 a1_1, .int .i64 a1_2, .string a1_3] 23 (0,0)) (by (with_reducible repeat first|apply zbN|apply zb1|apply zbA);exact BK101.out)):gb110 ≠ gb101));have n9_:=z_ ((by rw [hg];exact Nat.ne_of_lt (blk_lt (g:=gb102) (o:=.cells #[.int .i64 a2_0, .int .i64 a2_1, .int .i64 a2_2, .string a2_3] 23 (0,0)) (by (with_reducible repeat first|apply zbN|apply zb1|apply zbA);exact BK102.out)):gb102 ≠ gb110));have n10_:=z_ ((by rw [hg];exact Nat.ne_of_gt (blk_lt (g:=gb102) (o:=.cells #[.int .i64 a2_0, .int .i64 a2_1, .int .i64 a2_2, .string a2_3] 23 (0,0)) (by (with_reducible repeat first|apply zbN|apply zb1|apply zbA);exact BK102.out)):gb110 ≠ gb102));have n11_:=z_ ((by rw [hg];exact Nat.ne_of_lt (blk_lt (g:=gb103) (o:=.cells #[.int .i64 0, .int .i64 0, .int .i64 0, .string (⟨#[]⟩:ByteArray)] 23 (0,0)) (by (with_reducible repeat first|apply zbN|apply zb1|apply zbA);exact BK103.out)):gb103 ≠ gb110));have n12_:=z_ ((by rw [hg];exact Nat.ne_of_gt (blk_lt (g:=gb103) (o:=.cells #[.int .i64 0, .int .i64 0, .int .i64 0, .string (⟨#[]⟩:ByteArray)] 23 (0,0)) (by (with_reducible repeat first|apply zbN|apply zb1|apply zbA);exact BK103.out)):gb110 ≠ gb103));clear BK101;clear BK102;clear BK103;clear HB;have BK101:=n0_;have BK102:=n1_;have BK103:=n2_;have HB:=n3_;have BK110:=n4_;have GW110:=n5_;have GE110:=n6_;have NB101_110:=n7_;have NB110_101:=n8_;have NB102_110:=n9_;have NB110_102:=n10_;have NB103_110:=n11_;have NB110_103:=n12_;clear n0_ n1_ n2_ n3_ n4_ n5_ n6_ n7_ n8_ n9_ n10_ n11_ n12_;clear hb hbox hg;have hnb38:=NB110_101.out;have hnc38:=NB101_110.out;have hnb39:=NB110_102.out;have hnc39:=NB102_110.out;have hnb40:=NB110_103.out;have hnc40:=NB103_110.out;have hcz41_0:w37.cell? ⟨gb110,0,none⟩ = some (.int .i64 0):=(zce BK110.out 0).trans rfl;have hcz41_1:w37.cell? ⟨gb110,1,none⟩ = some (.int .i64 0):=(zce BK110.out 1).trans rfl;have hcz41_2:w37.cell? ⟨gb110,2,none⟩ = some (.int .i64 0):=(zce BK110.out 2).trans rfl;have hcz41_3:w37.cell? ⟨gb110,3,none⟩ = some (.string (⟨#[]⟩:ByteArray)):=(zce BK110.out 3).trans rfl;have hfz41_0:=zfz BK110.out 0;have hfz41_1:=zfz BK110.out 1;have hfz41_2:=zfz BK110.out 2;have hfz41_3:=zfz BK110.out 3))
   have n0_:Aside0 (((((w37.setCell ⟨gb110,0,none⟩ (.int .i64 t106)).setCell ⟨gb110,1,none⟩ (.int .i64 t107)).setCell ⟨gb110,2,none⟩ (.int .i64 t108)).setCell ⟨gb110,3,none⟩ (.string t109)).heap[gb101]? = some (.cells #[.int .i64 a1_0, .int .i64 a1_1, .int .i64 a1_2, .string a1_3] 23 (0,0))):=⟨by (with_reducible repeat first|apply zbN|apply zb1|apply zbA);refine zbf ?_ NB101_110.out _;(with_reducible repeat first|apply zbN|apply zb1|apply zbA);refine zbf ?_ NB101_110.out _;(with_reducible repeat first|apply zbN|apply zb1|apply zbA);refine zbf ?_ NB101_110.out _;(with_reducible repeat first|apply zbN|apply zb1|apply zbA);refine zbf ?_ NB101_110.out _;(with_reducible repeat first|apply zbN|apply zb1|apply zbA);exact BK101.out⟩
   have n1_:Aside0 (((((w37.setCell ⟨gb110,0,none⟩ (.int .i64 t106)).setCell ⟨gb110,1,none⟩ (.int .i64 t107)).setCell ⟨gb110,2,none⟩ (.int .i64 t108)).setCell ⟨gb110,3,none⟩ (.string t109)).heap[gb102]? = some (.cells #[.int .i64 a2_0, .int .i64 a2_1, .int .i64 a2_2, .string a2_3] 23 (0,0))):=⟨by (with_reducible repeat first|apply zbN|apply zb1|apply zbA);refine zbf ?_ NB102_110.out _;(with_reducible repeat first|apply zbN|apply zb1|apply zbA);refine zbf ?_ NB102_110.out _;(with_reducible repeat first|apply zbN|apply zb1|apply zbA);refine zbf ?_ NB102_110.out _;(with_reducible repeat first|apply zbN|apply zb1|apply zbA);refine zbf ?_ NB102_110.out _;(with_reducible repeat first|apply zbN|apply zb1|apply zbA);exact BK102.out⟩
   have n2_:Aside0 (((((w37.setCell ⟨gb110,0,none⟩ (.int .i64 t106)).setCell ⟨gb110,1,none⟩ (.int .i64 t107)).setCell ⟨gb110,2,none⟩ (.int .i64 t108)).setCell ⟨gb110,3,none⟩ (.string t109)).heap[gb103]? = some (.cells #[.int .i64 0, .int .i64 0, .int .i64 0, .string (⟨#[]⟩:ByteArray)] 23 (0,0))):=⟨by (with_reducible repeat first|apply zbN|apply zb1|apply zbA);refine zbf ?_ NB103_110.out _;(with_reducible repeat first|apply zbN|apply zb1|apply zbA);refine zbf ?_ NB103_110.out _;(with_reducible repeat first|apply zbN|apply zb1|apply zbA);refine zbf ?_ NB103_110.out _;(with_reducible repeat first|apply zbN|apply zb1|apply zbA);refine zbf ?_ NB103_110.out _;(with_reducible repeat first|apply zbN|apply zb1|apply zbA);exact BK103.out⟩
   have n3_:Aside0 (((((w37.setCell ⟨gb110,0,none⟩ (.int .i64 t106)).setCell ⟨gb110,1,none⟩ (.int .i64 t107)).setCell ⟨gb110,2,none⟩ (.int .i64 t108)).setCell ⟨gb110,3,none⟩ (.string t109)).heap[gb110]? = some (.cells #[.int .i64 t106, .int .i64 t107, .int .i64 t108, .string t109] 23 (0,0))):=⟨by (with_reducible repeat first|apply zbN|apply zb1|apply zbA);refine zbp (cs:=#[.int .i64 t106, .int .i64 t107, .int .i64 t108, .string (⟨#[]⟩:ByteArray)]) ?_ 3 _ rfl;(with_reducible repeat first|apply zbN|apply zb1|apply zbA);refine zbp (cs:=#[.int .i64 t106, .int .i64 t107, .int .i64 0, .string (⟨#[]⟩:ByteArray)]) ?_ 2 _ rfl;(with_reducible repeat first|apply zbN|apply zb1|apply zbA);refine zbp (cs:=#[.int .i64 t106, .int .i64 0, .int .i64 0, .string (⟨#[]⟩:ByteArray)]) ?_ 1 _ rfl;(with_reducible repeat first|apply zbN|apply zb1|apply zbA);refine zbp (cs:=#[.int .i64 0, .int .i64 0, .int .i64 0, .string (⟨#[]⟩:ByteArray)]) ?_ 0 _ rfl;(with_reducible repeat first|apply zbN|apply zb1|apply zbA);exact BK110.out⟩
   have n4_:Aside0 (Below w.heap.size w ((((w37.setCell ⟨gb110,0,none⟩ (.int .i64 t106)).setCell ⟨gb110,1,none⟩ (.int .i64 t107)).setCell ⟨gb110,2,none⟩ (.int .i64 t108)).setCell ⟨gb110,3,none⟩ (.string t109))):=⟨by repeat first|(with_reducible first|exact HB.out|apply zA|apply zN|apply z1|refine zS ?_ GE101.out|refine zS ?_ GE102.out|refine zS ?_ GE103.out|refine zS ?_ GE110.out)|exact HB.out⟩
   (try clear BK101)
   (try clear BK102)
   (try clear BK103)
   (try clear BK110)
   (try clear HB)
   generalize ((((w37.setCell ⟨gb110,0,none⟩ (.int .i64 t106)).setCell ⟨gb110,1,none⟩ (.int .i64 t107)).setCell ⟨gb110,2,none⟩ (.int .i64 t108)).setCell ⟨gb110,3,none⟩ (.string t109)) = w42 at n0_ n1_ n2_ n3_ n4_ ⊢
   have BK101:=n0_
   have BK102:=n1_
   have BK103:=n2_
   have BK110:=n3_
   have HB:=n4_
   clear n0_ n1_ n2_ n3_ n4_
   have n0_:=z_ (zb1 BK101.out)
   have n1_:=z_ (zb1 BK102.out)
   have n2_:=z_ (zb1 BK103.out)
   have n3_:=z_ (zb1 BK110.out)
   have n4_:=z_ (z1 HB.out)
   clear BK101
   clear BK102
   clear BK103
   clear BK110
   clear HB
   have BK101:=n0_
   have BK102:=n1_
   have BK103:=n2_
   have BK110:=n3_
   have HB:=n4_
   clear n0_ n1_ n2_ n3_ n4_
   refine start_ (n:=8) (S:=fun w'=>w'.cell? ⟨gb110,0,none⟩ = some (.int .i64 t106) ∧ w'.cell? ⟨gb110,1,none⟩ = some (.int .i64 t107) ∧ w'.cell? ⟨gb110,2,none⟩ = some (.int .i64 t108) ∧ w'.cell? ⟨gb110,3,none⟩ = some (.string t109)) (ds:=[]) #[false,false,false,false,false,false,false,false] (by kernel_rfl) rfl rfl ⟨(zce BK110.out 0).trans rfl,(zce BK110.out 1).trans rfl,(zce BK110.out 2).trans rfl,(zce BK110.out 3).trans rfl⟩ (fun hHeld=>?_);refine with_tabW val_decs.tab9 val_decs.bits9 (fun HT_ HW_=>?_)
   generalize w42.drew = w43 at BK101 BK102 BK103 BK110 HB hHeld ⊢
   refine pure_ (i:=1) (N:=some 49) (v:=?_) (a':=?_) #[false,true,false,false,false,false,false,false] rfl rfl (any_of HT_.out (by kernel_rfl)) (fun _ _ _ h=>h) (Or.inl ⟨by rfl,?_⟩) ?_ ?_
   rotate_left
   ·intro w'
    go_simp
    with_reducible rfl
   rotate_left
   ·simp only [Act.put,List.setIfInBounds_toArray,List.set_cons_zero,List.set_cons_succ,i64_w,i32_w]
    rfl
   refine pure_ (i:=2) (N:=some 50) (v:=?_) (a':=?_) #[false,true,true,false,false,false,false,false] rfl rfl (any_of HT_.out (by kernel_rfl)) (fun _ _ _ h=>h) (Or.inl ⟨by rfl,?_⟩) ?_ ?_
   rotate_left
   ·intro w'
    go_simp
    with_reducible rfl
   rotate_left
   ·simp only [Act.put,List.setIfInBounds_toArray,List.set_cons_zero,List.set_cons_succ,i64_w,i32_w]
    rfl
   refine pure_ (i:=3) (N:=some 51) (v:=undef) (a':=?_) #[false,true,true,true,false,false,false,false] rfl rfl (any_of HT_.out (by kernel_rfl)) (fun _ _ _ h=>h) (Or.inr ⟨by rfl,rfl⟩) ?_ ?_
   rotate_left
   ·simp only [Act.put,List.setIfInBounds_toArray,List.set_cons_zero,List.set_cons_succ,i64_w,i32_w]
    rfl
   refine pure_ (i:=4) (N:=some 52) (v:=undef) (a':=?_) #[false,true,true,true,true,false,false,false] rfl rfl (any_of HT_.out (by kernel_rfl)) (fun _ _ _ h=>h) (Or.inr ⟨by rfl,rfl⟩) ?_ ?_
   rotate_left
   ·simp only [Act.put,List.setIfInBounds_toArray,List.set_cons_zero,List.set_cons_succ,i64_w,i32_w]
    rfl
   refine pure_ (i:=5) (N:=some 53) (v:=?_) (a':=?_) #[false,true,true,true,true,true,false,false] rfl rfl (any_of HT_.out (by kernel_rfl)) (fun _ _ _ h=>h) (Or.inl ⟨by rfl,?_⟩) ?_ ?_
   rotate_left
   ·intro w'
    go_simp
    with_reducible rfl
   rotate_left
   ·simp only [Act.put,List.setIfInBounds_toArray,List.set_cons_zero,List.set_cons_succ,i64_w,i32_w]
    rfl
   refine take_ (i:=0) (N:=some 48) (v:=?_) (a':=?_) #[true,true,true,true,true,true,false,false] rfl rfl (take_ofW HT_.out HW_.out (by kernel_rfl)) (fun _ _ _ h=>h) (Or.inl ⟨by rfl,?_⟩) hHeld ?_ ?_
   rotate_left
   ·rintro w' ⟨s0,s1,s2,s3⟩
    go_simp
    with_reducible rfl
   rotate_left
   ·simp only [Act.put,List.setIfInBounds_toArray,List.set_cons_zero,List.set_cons_succ,i64_w,i32_w]
    rfl
   refine one_ (i:=6) (N:=none) #[true,true,true,true,true,true,true,false] rfl rfl (one_of HT_.out (by kernel_rfl)) (by decide) (fun K hK=>?_)
   have hs44:w43.cell? ⟨gb103,0,none⟩ = some (.int .i64 0):=(zce BK103.out 0).trans rfl
   have hfs44:=zfz BK103.out 0
   have hns44_0:=NB101_103.out
   have hns44_1:=NB102_103.out
   have hns44_3:=NB110_103.out
   have hms44_0:=NB103_101.out
   have hms44_1:=NB103_102.out
   have hms44_3:=NB103_110.out
   have hs45:w43.cell? ⟨gb103,1,none⟩ = some (.int .i64 0):=(zce BK103.out 1).trans rfl
   have hfs45:=zfz BK103.out 1
   have hns45_0:=NB101_103.out
   have hns45_1:=NB102_103.out
   have hns45_3:=NB110_103.out
   have hms45_0:=NB103_101.out
   have hms45_1:=NB103_102.out
   have hms45_3:=NB103_110.out
   have hs46:w43.cell? ⟨gb103,2,none⟩ = some (.int .i64 0):=(zce BK103.out 2).trans rfl
   have hfs46:=zfz BK103.out 2
   have hns46_0:=NB101_103.out
   have hns46_1:=NB102_103.out
   have hns46_3:=NB110_103.out
   have hms46_0:=NB103_101.out
   have hms46_1:=NB103_102.out
   have hms46_3:=NB103_110.out
   have hs47:w43.cell? ⟨gb103,3,none⟩ = some (.string (⟨#[]⟩:ByteArray)):=(zce BK103.out 3).trans rfl
   have hfs47:=zfz BK103.out 3
   have hns47_0:=NB101_103.out
   have hns47_1:=NB102_103.out
   have hns47_3:=NB110_103.out
   have hms47_0:=NB103_101.out
   have hms47_1:=NB103_102.out
   have hms47_3:=NB103_110.out
   refine skip_ (w1:=?_) (by rfl) rfl ?_ ?_
   rotate_left
   ·go_simp
    rfl
   refine hK.out _ _ ⟨((cell_far (p:=⟨gb103,_,none⟩) NB110_103.out _).trans (((cell_far (p:=⟨gb103,_,none⟩) NB110_103.out _).trans (((cell_far (p:=⟨gb103,_,none⟩) NB110_103.out _).trans (((cell_far (p:=⟨gb103,_,none⟩) NB110_103.out _).trans (hHeld.1)))))))),((cell_far (p:=⟨gb103,_,none⟩) NB110_103.out _).trans (((cell_far (p:=⟨gb103,_,none⟩) NB110_103.out _).trans (((cell_far (p:=⟨gb103,_,none⟩) NB110_103.out _).trans (((cell_far (p:=⟨gb103,_,none⟩) NB110_103.out _).trans (hHeld.2.1)))))))),((cell_far (p:=⟨gb103,_,none⟩) NB110_103.out _).trans (((cell_far (p:=⟨gb103,_,none⟩) NB110_103.out _).trans (((cell_far (p:=⟨gb103,_,none⟩) NB110_103.out _).trans (((cell_far (p:=⟨gb103,_,none⟩) NB110_103.out _).trans (hHeld.2.2.1)))))))),((cell_far (p:=⟨gb103,_,none⟩) NB110_103.out _).trans (((cell_far (p:=⟨gb103,_,none⟩) NB110_103.out _).trans (((cell_far (p:=⟨gb103,_,none⟩) NB110_103.out _).trans (((cell_far (p:=⟨gb103,_,none⟩) NB110_103.out _).trans (hHeld.2.2.2))))))))⟩ (fun hHeld=>?_)
   clear hK K
   refine pure_ (i:=7) (N:=some 7) (v:=?_) (a':=?_) #[true,true,true,true,true,true,true,true] rfl rfl (any_of HT_.out (by kernel_rfl)) (fun _ _ _ h=>h) (Or.inl ⟨by rfl,?_⟩) ?_ ?_
   rotate_left
   ·intro w'
    go_simp
    with_reducible rfl
   rotate_left
   ·simp only [Act.put,List.setIfInBounds_toArray,List.set_cons_zero,List.set_cons_succ,i64_w,i32_w]
    rfl
   refine done_ (done_of HT_.out (by kernel_rfl)) ?_
   try go_wp2
   refine bodyPost_ret (results_ct rfl _ _ gb103 23 #[.int .i64 t106, .int .i64 t107, .int .i64 t108, .string t109] (0,0) _ rfl (by (with_reducible repeat first|apply zbN|apply zb1|apply zbA);refine zbp (cs:=#[.int .i64 t106, .int .i64 t107, .int .i64 t108, .string (⟨#[]⟩:ByteArray)]) ?_ 3 _ rfl;(with_reducible repeat first|apply zbN|apply zb1|apply zbA);refine zbp (cs:=#[.int .i64 t106, .int .i64 t107, .int .i64 0, .string (⟨#[]⟩:ByteArray)]) ?_ 2 _ rfl;(with_reducible repeat first|apply zbN|apply zb1|apply zbA);refine zbp (cs:=#[.int .i64 t106, .int .i64 0, .int .i64 0, .string (⟨#[]⟩:ByteArray)]) ?_ 1 _ rfl;(with_reducible repeat first|apply zbN|apply zb1|apply zbA);refine zbp (cs:=#[.int .i64 0, .int .i64 0, .int .i64 0, .string (⟨#[]⟩:ByteArray)]) ?_ 0 _ rfl;(with_reducible repeat first|apply zbN|apply zb1|apply zbA);exact BK103.out) Try.underlying23 rfl (by kernel_rfl)) rfl ?_
   exact ⟨by first|rfl|(simp [errW_none,errW_some] <;> rfl)|(simp [*,errW_none,errW_some] <;> rfl),by repeat first|(with_reducible first|exact HB.out|apply zA|apply zN|apply z1|refine zS ?_ GE101.out|refine zS ?_ GE102.out|refine zS ?_ GE103.out|refine zS ?_ GE110.out)|exact HB.out⟩
 ·rw [if_neg c4] at H
  have c4b0:(a0 == 6) = false:=beq_eq_false_iff_ne.mpr c4
  have c4b1:(a0 != 6) = true:=bne_iff_ne.mpr c4
  replace H:=Option.bind_eq_some_iff.mp H
  obtain ⟨⟨t112,t113,t114,t115⟩,A480,H⟩:=H
  replace H:(if t115 = true then ((val_two.f a0 t112 t113).bind fun bt116=>((val_Norm.f k 3 bt116.1 t114 (⟨#[]⟩:ByteArray)).bind fun bt118=>(if bt116.2 = true then ((val_Right.f k bt118.1 bt118.2.1 bt118.2.2.1 bt118.2.2.2).bind fun t123=>(some (bt118.1,bt118.2.1,bt118.2.2.1,bt118.2.2.2,t123))) else (some (bt118.1,bt118.2.1,bt118.2.2.1,bt118.2.2.2,false))))) else (some (0,0,0,(⟨#[]⟩:ByteArray),false))) = some (r1,r2,r3,r4,r5):=H
  have A48:=z_ A480
  clear A480
  by_cases c49:t115 = true
  focus
   subst c49
   have H1:((val_two.f a0 t112 t113).bind fun bt116=>((val_Norm.f k 3 bt116.1 t114 (⟨#[]⟩:ByteArray)).bind fun bt118=>(if bt116.2 = true then ((val_Right.f k bt118.1 bt118.2.1 bt118.2.2.1 bt118.2.2.2).bind fun t123=>(some (bt118.1,bt118.2.1,bt118.2.2.1,bt118.2.2.2,t123))) else (some (bt118.1,bt118.2.1,bt118.2.2.1,bt118.2.2.2,false))))) = some (r1,r2,r3,r4,r5):=by rw [if_pos rfl] at H;exact H
   clear H
   have H:=H1
   clear H1
   replace H:=Option.bind_eq_some_iff.mp H
   obtain ⟨⟨t116,t117⟩,A500,H⟩:=H
   replace H:((val_Norm.f k 3 t116 t114 (⟨#[]⟩:ByteArray)).bind fun bt118=>(if t117 = true then ((val_Right.f k bt118.1 bt118.2.1 bt118.2.2.1 bt118.2.2.2).bind fun t123=>(some (bt118.1,bt118.2.1,bt118.2.2.1,bt118.2.2.2,t123))) else (some (bt118.1,bt118.2.1,bt118.2.2.1,bt118.2.2.2,false)))) = some (r1,r2,r3,r4,r5):=H
   have A50:=z_ A500
   clear A500
   replace H:=Option.bind_eq_some_iff.mp H
   obtain ⟨⟨t118,t119,t120,t121⟩,A510,H⟩:=H
   replace H:(if t117 = true then ((val_Right.f k t118 t119 t120 t121).bind fun t123=>(some (t118,t119,t120,t121,t123))) else (some (t118,t119,t120,t121,false))) = some (r1,r2,r3,r4,r5):=H
   have A51:=z_ A510
   clear A510
   by_cases c52:t117 = true
   focus
    subst c52
    have H1:((val_Right.f k t118 t119 t120 t121).bind fun t123=>(some (t118,t119,t120,t121,t123))) = some (r1,r2,r3,r4,r5):=by rw [if_pos rfl] at H;exact H
    clear H
    have H:=H1
    clear H1
    replace H:=Option.bind_eq_some_iff.mp H
    obtain ⟨t123,A530,H⟩:=H
    replace H:(some (t118,t119,t120,t121,t123)) = some (r1,r2,r3,r4,r5):=H
    have A53:=z_ A530
    clear A530
    simp only [Option.some.injEq,Prod.mk.injEq] at H
    obtain ⟨rfl,rfl,rfl,rfl,rfl⟩:=H
   rotate_left
   focus
    replace c52:=Bool.eq_false_iff.mpr c52
    subst c52
    have H1:(some (t118,t119,t120,t121,false)) = some (r1,r2,r3,r4,r5):=by rw [if_neg (show ¬ (false = true) by decide)] at H;exact H
    clear H
    have H:=H1
    clear H1
    simp only [Option.some.injEq,Prod.mk.injEq] at H
    obtain ⟨rfl,rfl,rfl,rfl,rfl⟩:=H
   rotate_left
  rotate_left 2
  focus
   replace c49:=Bool.eq_false_iff.mpr c49
   subst c49
   have H1:(some (0,0,0,(⟨#[]⟩:ByteArray),false)) = some (r1,r2,r3,r4,r5):=by rw [if_neg (show ¬ (false = true) by decide)] at H;exact H
   clear H
   have H:=H1
   clear H1
   simp only [Option.some.injEq,Prod.mk.injEq] at H
   obtain ⟨rfl,rfl,rfl,rfl,rfl⟩:=H
  rotate_left
  all_goals
   go_enter Try.func50,Try.ntmps50
   try go_wp2_with (first|((with_reducible refine gate_dst (N:=4) rfl ?_);refine box_event ?hg (N:=4) ?hd (cs:=#[.int .i64 a1_0, .int .i64 a1_1, .int .i64 a1_2, .string a1_3]) (t:=23) ?hr ?_;(case hd=>rfl);(case hg=>rfl);(case hr=>first|(go_simp;done)|(go_simp;rfl));intro gb101 hg w54 hbox hb;have n0_:=z_ (below_step (by repeat first|(with_reducible first|exact HB.out|apply zA|apply zN|apply z1)|exact HB.out) hb);have n1_:=z_ (hbox);have n2_:=z_ ((by rw [hg];exact (zBs (by repeat first|(with_reducible first|exact HB.out|apply zA|apply zN|apply z1)|exact HB.out)):w.heap.size ≤ gb101));have n3_:=z_ ((by rw [hg];exact (zBs (by repeat first|(with_reducible first|exact HB.out|apply zA|apply zN|apply z1)|exact HB.out)):w.heap.size ≤ gb101));clear HB;have HB:=n0_;have BK101:=n1_;have GW101:=n2_;have GE101:=n3_;clear n0_ n1_ n2_ n3_;clear hb hbox hg)|((with_reducible refine gate_dst (N:=5) rfl ?_);refine box_event ?hg (N:=5) ?hd (cs:=#[.int .i64 a2_0, .int .i64 a2_1, .int .i64 a2_2, .string a2_3]) (t:=23) ?hr ?_;(case hd=>rfl);(case hg=>rfl);(case hr=>first|(go_simp;done)|(go_simp;rfl));intro gb102 hg w55 hbox hb;have n0_:=z_ (zbb (g:=gb101) (o:=.cells #[.int .i64 a1_0, .int .i64 a1_1, .int .i64 a1_2, .string a1_3] 23 (0,0)) (by (with_reducible repeat first|apply zbN|apply zb1|apply zbA);exact BK101.out) hb);have n1_:=z_ (below_step (by repeat first|(with_reducible first|exact HB.out|apply zA|apply zN|apply z1|refine zS ?_ GE101.out)|exact HB.out) hb);have n2_:=z_ (hbox);have n3_:=z_ ((by rw [hg];exact (zBs (by repeat first|(with_reducible first|exact HB.out|apply zA|apply zN|apply z1|refine zS ?_ GE101.out)|exact HB.out)):w.heap.size ≤ gb102));have n4_:=z_ ((by rw [hg];exact (zBs (by repeat first|(with_reducible first|exact HB.out|apply zA|apply zN|apply z1|refine zS ?_ GE101.out)|exact HB.out)):w.heap.size ≤ gb102));have n5_:=z_ ((by rw [hg];exact Nat.ne_of_lt (blk_lt (g:=gb101) (o:=.cells #[.int .i64 a1_0, .int .i64 a1_1, .int .i64 a1_2, .string a1_3] 23 (0,0)) (by (with_reducible repeat first|apply zbN|apply zb1|apply zbA);exact BK101.out)):gb101 ≠ gb102));have n6_:=z_ ((by rw [hg];exact Nat.ne_of_gt (blk_lt (g:=gb101) (o:=.cells #[.int .i64 a1_0, .int .i64 a1_1, .int .i64 a1_2, .string a1_3] 23 (0,0)) (by (with_reducible repeat first|apply zbN|apply zb1|apply zbA);exact BK101.out)):gb102 ≠ gb101));clear BK101;clear HB;have BK101:=n0_;have HB:=n1_;have BK102:=n2_;have GW102:=n3_;have GE102:=n4_;have NB101_102:=n5_;have NB102_101:=n6_;clear n0_ n1_ n2_ n3_ n4_ n5_ n6_;clear hb hbox hg)|((with_reducible refine gate_dst (N:=6) rfl ?_);refine box_event ?hg (N:=6) ?hd (cs:=#[.int .i64 0, .int .i64 0, .int .i64 0, .string (⟨#[]⟩:ByteArray)]) (t:=23) ?hr ?_;(case hd=>rfl);(case hg=>rfl);(case hr=>first|(go_simp;done)|(go_simp;rfl));intro gb103 hg w56 hbox hb;have n0_:=z_ (zbb (g:=gb101) (o:=.cells #[.int .i64 a1_0, .int .i64 a1_1, .int .i64 a1_2, .string a1_3] 23 (0,0)) (by (with_reducible repeat first|apply zbN|apply zb1|apply zbA);exact BK101.out) hb);have n1_:=z_ (zbb (g:=gb102) (o:=.cells #[.int .i64 a2_0, .int .i64 a2_1, .int .i64 a2_2, .string a2_3] 23 (0,0)) (by (with_reducible repeat first|apply zbN|apply zb1|apply zbA);exact BK102.out) hb);have n2_:=z_ (below_step (by repeat first|(with_reducible first|exact HB.out|apply zA|apply zN|apply z1|refine zS ?_ GE101.out|refine zS ?_ GE102.out)|exact HB.out) hb);have n3_:=z_ (hbox);have n4_:=z_ ((by rw [hg];exact (zBs (by repeat first|(with_reducible first|exact HB.out|apply zA|apply zN|apply z1|refine zS ?_ GE101.out|refine zS ?_ GE102.out)|exact HB.out)):w.heap.size ≤ gb103));have n5_:=z_ ((by rw [hg];exact (zBs (by repeat first|(with_reducible first|exact HB.out|apply zA|apply zN|apply z1|refine zS ?_ GE101.out|refine zS ?_ GE102.out)|exact HB.out)):w.heap.size ≤ gb103));have n6_:=z_ ((by rw [hg];exact Nat.ne_of_lt (blk_lt (g:=gb101) (o:=.cells #[.int .i64 a1_0, .int .i64 a1_1, .int .i64 a1_2, .string a1_3] 23 (0,0)) (by (with_reducible repeat first|apply zbN|apply zb1|apply zbA);exact BK101.out)):gb101 ≠ gb103));have n7_:=z_ ((by rw [hg];exact Nat.ne_of_gt (blk_lt (g:=gb101) (o:=.cells #[.int .i64 a1_0, .int .i64 a1_1, .int .i64 a1_2, .string a1_3] 23 (0,0)) (by (with_reducible repeat first|apply zbN|apply zb1|apply zbA);exact BK101.out)):gb103 ≠ gb101));have n8_:=z_ ((by rw [hg];exact Nat.ne_of_lt (blk_lt (g:=gb102) (o:=.cells #[.int .i64 a2_0, .int .i64 a2_1, .int .i64 a2_2, .string a2_3] 23 (0,0)) (by (with_reducible repeat first|apply zbN|apply zb1|apply zbA);exact BK102.out)):gb102 ≠ gb103));have n9_:=z_ ((by rw [hg];exact Nat.ne_of_gt (blk_lt (g:=gb102) (o:=.cells #[.int .i64 a2_0, .int .i64 a2_1, .int .i64 a2_2, .string a2_3] 23 (0,0)) (by (with_reducible repeat first|apply zbN|apply zb1|apply zbA);exact BK102.out)):gb103 ≠ gb102));clear BK101;clear BK102;clear HB;have BK101:=n0_;have BK102:=n1_;have HB:=n2_;have BK103:=n3_;have GW103:=n4_;have GE103:=n5_;have NB101_103:=n6_;have NB103_101:=n7_;have NB102_103:=n8_;have NB103_102:=n9_;clear n0_ n1_ n2_ n3_ n4_ n5_ n6_ n7_ n8_ n9_;clear hb hbox hg))
   have n0_:=z_ (zb1 BK101.out)
   have n1_:=z_ (zb1 BK102.out)
   have n2_:=z_ (zb1 BK103.out)
   have n3_:=z_ (z1 HB.out)
   clear BK101
   clear BK102
   clear BK103
   clear HB
   have BK101:=n0_
   have BK102:=n1_
   have BK103:=n2_
   have HB:=n3_
   clear n0_ n1_ n2_ n3_
   refine start_ (n:=12) (S:=fun w'=>w'.cell? ⟨gb101,0,none⟩ = some (.int .i64 a1_0) ∧ w'.cell? ⟨gb101,1,none⟩ = some (.int .i64 a1_1) ∧ w'.cell? ⟨gb101,2,none⟩ = some (.int .i64 a1_2) ∧ w'.cell? ⟨gb101,3,none⟩ = some (.string a1_3) ∧ w'.cell? ⟨gb102,0,none⟩ = some (.int .i64 a2_0) ∧ w'.cell? ⟨gb102,1,none⟩ = some (.int .i64 a2_1) ∧ w'.cell? ⟨gb102,2,none⟩ = some (.int .i64 a2_2) ∧ w'.cell? ⟨gb102,3,none⟩ = some (.string a2_3)) (ds:=[]) #[false,false,false,false,false,false,false,false,false,false,false,false] (by kernel_rfl) rfl rfl ⟨(zce BK101.out 0).trans rfl,(zce BK101.out 1).trans rfl,(zce BK101.out 2).trans rfl,(zce BK101.out 3).trans rfl,(zce BK102.out 0).trans rfl,(zce BK102.out 1).trans rfl,(zce BK102.out 2).trans rfl,(zce BK102.out 3).trans rfl⟩ (fun hHeld=>?_);refine with_tabW val_decs.tab1 val_decs.bits1 (fun HT_ HW_=>?_)
   generalize w56.drew = w57 at BK101 BK102 BK103 HB hHeld ⊢
   refine pure_ (i:=0) (N:=some 15) (v:=?_) (a':=?_) #[true,false,false,false,false,false,false,false,false,false,false,false] rfl rfl (any_of HT_.out (by kernel_rfl)) (fun _ _ _ h=>h) (Or.inl ⟨by rfl,?_⟩) ?_ ?_
   rotate_left
   ·intro w'
    go_simp
    with_reducible rfl
   rotate_left
   ·simp only [Act.put,List.setIfInBounds_toArray,List.set_cons_zero,List.set_cons_succ,i64_w,i32_w]
    rfl
   refine pure_ (i:=2) (N:=some 17) (v:=?_) (a':=?_) #[true,false,true,false,false,false,false,false,false,false,false,false] rfl rfl (any_of HT_.out (by kernel_rfl)) (fun _ _ _ h=>h) (Or.inl ⟨by rfl,?_⟩) ?_ ?_
   rotate_left
   ·intro w'
    go_simp
    with_reducible rfl
   rotate_left
   ·simp only [Act.put,List.setIfInBounds_toArray,List.set_cons_zero,List.set_cons_succ,i64_w,i32_w]
    rfl
   refine pure_ (i:=4) (N:=some 19) (v:=?_) (a':=?_) #[true,false,true,false,true,false,false,false,false,false,false,false] rfl rfl (any_of HT_.out (by kernel_rfl)) (fun _ _ _ h=>h) (Or.inl ⟨by rfl,?_⟩) ?_ ?_
   rotate_left
   ·intro w'
    go_simp
    with_reducible rfl
   rotate_left
   ·simp only [Act.put,List.setIfInBounds_toArray,List.set_cons_zero,List.set_cons_succ,i64_w,i32_w]
    rfl
   refine pure_ (i:=6) (N:=some 21) (v:=?_) (a':=?_) #[true,false,true,false,true,false,true,false,false,false,false,false] rfl rfl (any_of HT_.out (by kernel_rfl)) (fun _ _ _ h=>h) (Or.inl ⟨by rfl,?_⟩) ?_ ?_
   rotate_left
   ·intro w'
    go_simp
    with_reducible rfl
   rotate_left
   ·simp only [Act.put,List.setIfInBounds_toArray,List.set_cons_zero,List.set_cons_succ,i64_w,i32_w]
    rfl
   refine take_ (i:=1) (N:=some 16) (v:=?_) (a':=?_) #[true,true,true,false,true,false,true,false,false,false,false,false] rfl rfl (take_ofW HT_.out HW_.out (by kernel_rfl)) (fun _ _ _ h=>h) (Or.inl ⟨by rfl,?_⟩) hHeld ?_ ?_
   rotate_left
   ·rintro w' ⟨s0,s1,s2,s3,s4,s5,s6,s7⟩
    go_simp
    with_reducible rfl
   rotate_left
   ·simp only [Act.put,List.setIfInBounds_toArray,List.set_cons_zero,List.set_cons_succ,i64_w,i32_w]
    rfl
   refine pure_ (i:=9) (N:=some 8) (v:=?_) (a':=?_) #[true,true,true,false,true,false,true,false,false,true,false,false] rfl rfl (any_of HT_.out (by kernel_rfl)) (fun _ _ _ h=>h) (Or.inl ⟨by rfl,?_⟩) ?_ ?_
   rotate_left
   ·intro w'
    go_simp
    with_reducible rfl
   rotate_left
   ·simp only [Act.put,List.setIfInBounds_toArray,List.set_cons_zero,List.set_cons_succ,i64_w,i32_w]
    rfl
   refine take_ (i:=3) (N:=some 18) (v:=?_) (a':=?_) #[true,true,true,true,true,false,true,false,false,true,false,false] rfl rfl (take_ofW HT_.out HW_.out (by kernel_rfl)) (fun _ _ _ h=>h) (Or.inl ⟨by rfl,?_⟩) hHeld ?_ ?_
   rotate_left
   ·rintro w' ⟨s0,s1,s2,s3,s4,s5,s6,s7⟩
    go_simp
    with_reducible rfl
   rotate_left
   ·simp only [Act.put,List.setIfInBounds_toArray,List.set_cons_zero,List.set_cons_succ,i64_w,i32_w]
    rfl
   refine pure_ (i:=10) (N:=some 9) (v:=?_) (a':=?_) #[true,true,true,true,true,false,true,false,false,true,true,false] rfl rfl (any_of HT_.out (by kernel_rfl)) (fun _ _ _ h=>h) (Or.inl ⟨by rfl,?_⟩) ?_ ?_
   rotate_left
   ·intro w'
    go_simp
    with_reducible rfl
   rotate_left
   ·simp only [Act.put,List.setIfInBounds_toArray,List.set_cons_zero,List.set_cons_succ,i64_w,i32_w]
    rfl
   refine take_ (i:=5) (N:=some 20) (v:=?_) (a':=?_) #[true,true,true,true,true,true,true,false,false,true,true,false] rfl rfl (take_ofW HT_.out HW_.out (by kernel_rfl)) (fun _ _ _ h=>h) (Or.inl ⟨by rfl,?_⟩) hHeld ?_ ?_
   rotate_left
   ·rintro w' ⟨s0,s1,s2,s3,s4,s5,s6,s7⟩
    go_simp
    with_reducible rfl
   rotate_left
   ·simp only [Act.put,List.setIfInBounds_toArray,List.set_cons_zero,List.set_cons_succ,i64_w,i32_w]
    rfl
   refine take_ (i:=7) (N:=some 22) (v:=?_) (a':=?_) #[true,true,true,true,true,true,true,true,false,true,true,false] rfl rfl (take_ofW HT_.out HW_.out (by kernel_rfl)) (fun _ _ _ h=>h) (Or.inl ⟨by rfl,?_⟩) hHeld ?_ ?_
   rotate_left
   ·rintro w' ⟨s0,s1,s2,s3,s4,s5,s6,s7⟩
    go_simp
    with_reducible rfl
   rotate_left
   ·simp only [Act.put,List.setIfInBounds_toArray,List.set_cons_zero,List.set_cons_succ,i64_w,i32_w]
    rfl
   refine pure_ (i:=8) (N:=some 23) (v:=?_) (a':=?_) #[true,true,true,true,true,true,true,true,true,true,true,false] rfl rfl (any_of HT_.out (by kernel_rfl)) (fun _ _ _ h=>h) (Or.inl ⟨by rfl,?_⟩) ?_ ?_
   rotate_left
   ·intro w'
    go_simp
    with_reducible rfl
   rotate_left
   ·simp only [Act.put,List.setIfInBounds_toArray,List.set_cons_zero,List.set_cons_succ,i64_w,i32_w]
    rfl
   refine pure_ (i:=11) (N:=some 10) (v:=?_) (a':=?_) #[true,true,true,true,true,true,true,true,true,true,true,true] rfl rfl (any_of HT_.out (by kernel_rfl)) (fun _ _ _ h=>h) (Or.inl ⟨by rfl,?_⟩) ?_ ?_
   rotate_left
   ·intro w'
    go_simp
    with_reducible rfl
   rotate_left
   ·simp only [Act.put,List.setIfInBounds_toArray,List.set_cons_zero,List.set_cons_succ,i64_w,i32_w]
    rfl
   refine done_ (done_of HT_.out (by kernel_rfl)) ?_
   have hnb58:=NB101_102.out
   have hnc58:=NB102_101.out
   have hnb59:=NB101_103.out
   have hnc59:=NB103_101.out
   have hcz60_0:w57.cell? ⟨gb101,0,none⟩ = some (.int .i64 a1_0):=(zce BK101.out 0).trans rfl
   have hcz60_1:w57.cell? ⟨gb101,1,none⟩ = some (.int .i64 a1_1):=(zce BK101.out 1).trans rfl
   have hcz60_2:w57.cell? ⟨gb101,2,none⟩ = some (.int .i64 a1_2):=(zce BK101.out 2).trans rfl
   have hcz60_3:w57.cell? ⟨gb101,3,none⟩ = some (.string a1_3):=(zce BK101.out 3).trans rfl
   have hfz60_0:=zfz BK101.out 0
   have hfz60_1:=zfz BK101.out 1
   have hfz60_2:=zfz BK101.out 2
   have hfz60_3:=zfz BK101.out 3
   have hnb61:=NB102_103.out
   have hnc61:=NB103_102.out
   have hcz62_0:w57.cell? ⟨gb102,0,none⟩ = some (.int .i64 a2_0):=(zce BK102.out 0).trans rfl
   have hcz62_1:w57.cell? ⟨gb102,1,none⟩ = some (.int .i64 a2_1):=(zce BK102.out 1).trans rfl
   have hcz62_2:w57.cell? ⟨gb102,2,none⟩ = some (.int .i64 a2_2):=(zce BK102.out 2).trans rfl
   have hcz62_3:w57.cell? ⟨gb102,3,none⟩ = some (.string a2_3):=(zce BK102.out 3).trans rfl
   have hfz62_0:=zfz BK102.out 0
   have hfz62_1:=zfz BK102.out 1
   have hfz62_2:=zfz BK102.out 2
  ·have hfz62_3:=zfz BK102.out 3
   try go_wp2_with (first|((with_reducible refine gate_callee (f:=59) rfl ?_);refine goesL_ (some 29) rfl rfl Try.func59 (by kernel_rfl) rfl #[.agg #[.int .i64 a1_0, .int .i64 a1_1, .int .i64 a1_2, .string a1_3], .agg #[.int .i64 a2_0, .int .i64 a2_1, .int .i64 a2_2, .string a2_3]] rfl (by (try simp only [List.map_toArray,List.map_cons,List.map_nil]);first|done|rfl|(simp only [List.length_drop,List.length_take];rfl)) ?_;(with_reducible refine (val_same.calls k a1_0 a1_1 a1_2 a1_3 a2_0 a2_1 a2_2 a2_3 t112 t113 t114 true _ A48.out).mono ?_);rintro e w63 ⟨rfl,hb⟩;refine ⟨_,rfl,?_⟩;have n0_:=z_ (zbb (g:=gb101) (o:=.cells #[.int .i64 a1_0, .int .i64 a1_1, .int .i64 a1_2, .string a1_3] 23 (0,0)) (by (with_reducible repeat first|apply zbN|apply zb1|apply zbA);exact BK101.out) hb);have n1_:=z_ (zbb (g:=gb102) (o:=.cells #[.int .i64 a2_0, .int .i64 a2_1, .int .i64 a2_2, .string a2_3] 23 (0,0)) (by (with_reducible repeat first|apply zbN|apply zb1|apply zbA);exact BK102.out) hb);have n2_:=z_ (zbb (g:=gb103) (o:=.cells #[.int .i64 0, .int .i64 0, .int .i64 0, .string (⟨#[]⟩:ByteArray)] 23 (0,0)) (by (with_reducible repeat first|apply zbN|apply zb1|apply zbA);exact BK103.out) hb);have n3_:=z_ (below_step (by repeat first|(with_reducible first|exact HB.out|apply zA|apply zN|apply z1|refine zS ?_ GE101.out|refine zS ?_ GE102.out|refine zS ?_ GE103.out)|exact HB.out) hb);clear BK101;clear BK102;clear BK103;clear HB;have BK101:=n0_;have BK102:=n1_;have BK103:=n2_;have HB:=n3_;clear n0_ n1_ n2_ n3_;(try clear hb);(try clear hb2);(try clear hk);(try clear hi))|((with_reducible refine gate_callee (f:=58) rfl ?_);refine goesL_ (some 41) rfl rfl Try.func58 (by kernel_rfl) rfl #[.int .i64 a0, .int .i64 t112, .int .i64 t113] rfl (by (try simp only [List.map_toArray,List.map_cons,List.map_nil]);first|done|rfl|(simp only [List.length_drop,List.length_take];rfl)) ?_;(with_reducible refine (val_two.calls a0 t112 t113 t116 true _ A50.out).mono ?_);rintro e w' ⟨rfl,⟨nd,rfl⟩⟩;refine ⟨_,rfl,?_⟩;(try (rw [drewN_self w63];generalize hq_:World.drewN w63 _ = w63;have n0_:Aside0 (w63.heap[gb101]? = some (.cells #[.int .i64 a1_0, .int .i64 a1_1, .int .i64 a1_2, .string a1_3] 23 (0,0))):=⟨by rw [← hq_];exact (by (with_reducible repeat first|apply zbN|apply zb1|apply zbA);exact BK101.out)⟩;have n1_:Aside0 (w63.heap[gb102]? = some (.cells #[.int .i64 a2_0, .int .i64 a2_1, .int .i64 a2_2, .string a2_3] 23 (0,0))):=⟨by rw [← hq_];exact (by (with_reducible repeat first|apply zbN|apply zb1|apply zbA);exact BK102.out)⟩;have n2_:Aside0 (w63.heap[gb103]? = some (.cells #[.int .i64 0, .int .i64 0, .int .i64 0, .string (⟨#[]⟩:ByteArray)] 23 (0,0))):=⟨by rw [← hq_];exact (by (with_reducible repeat first|apply zbN|apply zb1|apply zbA);exact BK103.out)⟩;have n3_:Aside0 (Below w.heap.size w w63):=⟨by rw [← hq_];exact (by repeat first|(with_reducible first|exact HB.out|apply zA|apply zN|apply z1|refine zS ?_ GE101.out|refine zS ?_ GE102.out|refine zS ?_ GE103.out)|exact HB.out)⟩;clear BK101 BK102 BK103 HB hq_;have BK101:=n0_;have BK102:=n1_;have BK103:=n2_;have HB:=n3_;clear n0_ n1_ n2_ n3_));(try have hcu64_0:w63.cell? ⟨gb101,0,none⟩ = some (.int .i64 a1_0):=(zce BK101.out 0).trans rfl);(try have hcu64_1:w63.cell? ⟨gb101,1,none⟩ = some (.int .i64 a1_1):=(zce BK101.out 1).trans rfl);(try have hcu64_2:w63.cell? ⟨gb101,2,none⟩ = some (.int .i64 a1_2):=(zce BK101.out 2).trans rfl);(try have hcu64_3:w63.cell? ⟨gb101,3,none⟩ = some (.string a1_3):=(zce BK101.out 3).trans rfl);(try have hfu64_0:=zfz BK101.out 0);(try have hfu64_1:=zfz BK101.out 1);(try have hfu64_2:=zfz BK101.out 2);(try have hfu64_3:=zfz BK101.out 3);(try have hcu65_0:w63.cell? ⟨gb102,0,none⟩ = some (.int .i64 a2_0):=(zce BK102.out 0).trans rfl);(try have hcu65_1:w63.cell? ⟨gb102,1,none⟩ = some (.int .i64 a2_1):=(zce BK102.out 1).trans rfl);(try have hcu65_2:w63.cell? ⟨gb102,2,none⟩ = some (.int .i64 a2_2):=(zce BK102.out 2).trans rfl);(try have hcu65_3:w63.cell? ⟨gb102,3,none⟩ = some (.string a2_3):=(zce BK102.out 3).trans rfl);(try have hfu65_0:=zfz BK102.out 0);(try have hfu65_1:=zfz BK102.out 1);(try have hfu65_2:=zfz BK102.out 2);(try have hfu65_3:=zfz BK102.out 3);(try have hcu66_0:w63.cell? ⟨gb103,0,none⟩ = some (.int .i64 0):=(zce BK103.out 0).trans rfl);(try have hcu66_1:w63.cell? ⟨gb103,1,none⟩ = some (.int .i64 0):=(zce BK103.out 1).trans rfl);(try have hcu66_2:w63.cell? ⟨gb103,2,none⟩ = some (.int .i64 0):=(zce BK103.out 2).trans rfl);(try have hcu66_3:w63.cell? ⟨gb103,3,none⟩ = some (.string (⟨#[]⟩:ByteArray)):=(zce BK103.out 3).trans rfl);(try have hfu66_0:=zfz BK103.out 0);(try have hfu66_1:=zfz BK103.out 1);(try have hfu66_2:=zfz BK103.out 2);(try have hfu66_3:=zfz BK103.out 3))|((with_reducible refine gate_callee (f:=16) rfl ?_);refine goesL_ (some 47) rfl rfl Try.func16 (by kernel_rfl) rfl #[.agg #[.int .i64 3, .int .i64 t116, .int .i64 t114, .string (⟨#[]⟩:ByteArray)]] rfl (by (try simp only [List.map_toArray,List.map_cons,List.map_nil]);first|done|rfl|(simp only [List.length_drop,List.length_take];rfl)) ?_;(with_reducible refine (val_Norm.calls k 3 t116 t114 (⟨#[]⟩:ByteArray) t118 t119 t120 t121 _ A51.out).mono ?_);rintro e w67 ⟨rfl,hb⟩;refine ⟨_,rfl,?_⟩;have n0_:=z_ (zbb (g:=gb101) (o:=.cells #[.int .i64 a1_0, .int .i64 a1_1, .int .i64 a1_2, .string a1_3] 23 (0,0)) (by (with_reducible repeat first|apply zbN|apply zb1|apply zbA);exact BK101.out) hb);have n1_:=z_ (zbb (g:=gb102) (o:=.cells #[.int .i64 a2_0, .int .i64 a2_1, .int .i64 a2_2, .string a2_3] 23 (0,0)) (by (with_reducible repeat first|apply zbN|apply zb1|apply zbA);exact BK102.out) hb);have n2_:=z_ (zbb (g:=gb103) (o:=.cells #[.int .i64 0, .int .i64 0, .int .i64 0, .string (⟨#[]⟩:ByteArray)] 23 (0,0)) (by (with_reducible repeat first|apply zbN|apply zb1|apply zbA);exact BK103.out) hb);have n3_:=z_ (below_step (by repeat first|(with_reducible first|exact HB.out|apply zA|apply zN|apply z1|refine zS ?_ GE101.out|refine zS ?_ GE102.out|refine zS ?_ GE103.out)|exact HB.out) hb);clear BK101;clear BK102;clear BK103;clear HB;have BK101:=n0_;have BK102:=n1_;have BK103:=n2_;have HB:=n3_;clear n0_ n1_ n2_ n3_;(try clear hb);(try clear hb2);(try clear hk);(try clear hi))|((with_reducible refine gate_dst (N:=14) rfl ?_);refine box_event ?hg (N:=14) ?hd (cs:=#[.int .i64 0, .int .i64 0, .int .i64 0, .string (⟨#[]⟩:ByteArray)]) (t:=23) ?hr ?_;(case hd=>rfl);(case hg=>rfl);(case hr=>first|(go_simp;done)|(go_simp;rfl));intro gb122 hg w68 hbox hb;have n0_:=z_ (zbb (g:=gb101) (o:=.cells #[.int .i64 a1_0, .int .i64 a1_1, .int .i64 a1_2, .string a1_3] 23 (0,0)) (by (with_reducible repeat first|apply zbN|apply zb1|apply zbA);exact BK101.out) hb);have n1_:=z_ (zbb (g:=gb102) (o:=.cells #[.int .i64 a2_0, .int .i64 a2_1, .int .i64 a2_2, .string a2_3] 23 (0,0)) (by (with_reducible repeat first|apply zbN|apply zb1|apply zbA);exact BK102.out) hb);have n2_:=z_ (zbb (g:=gb103) (o:=.cells #[.int .i64 0, .int .i64 0, .int .i64 0, .string (⟨#[]⟩:ByteArray)] 23 (0,0)) (by (with_reducible repeat first|apply zbN|apply zb1|apply zbA);exact BK103.out) hb);have n3_:=z_ (below_step (by repeat first|(with_reducible first|exact HB.out|apply zA|apply zN|apply z1|refine zS ?_ GE101.out|refine zS ?_ GE102.out|refine zS ?_ GE103.out)|exact HB.out) hb);have n4_:=z_ (hbox);have n5_:=z_ ((by rw [hg];exact (zBs (by repeat first|(with_reducible first|exact HB.out|apply zA|apply zN|apply z1|refine zS ?_ GE101.out|refine zS ?_ GE102.out|refine zS ?_ GE103.out)|exact HB.out)):w.heap.size ≤ gb122));have n6_:=z_ ((by rw [hg];exact (zBs (by repeat first|(with_reducible first|exact HB.out|apply zA|apply zN|apply z1|refine zS ?_ GE101.out|refine zS ?_ GE102.out|refine zS ?_ GE103.out)|exact HB.out)):w.heap.size ≤ gb122));have n7_:=z_ ((by rw [hg];exact Nat.ne_of_lt (blk_lt (g:=gb101) (o:=.cells #[.int .i64 a1_0, .int .i64 a1_1, .int .i64 a1_2, .string a1_3] 23 (0,0)) (by (with_reducible repeat first|apply zbN|apply zb1|apply zbA);exact BK101.out)):gb101 ≠ gb122));have n8_:=z_ ((by rw [hg];exact Nat.ne_of_gt (blk_lt (g:=gb101) (o:=.cells #[.int .i64 a1_0, .int .i64 a1_1, .int .i64 a1_2, .string a1_3] 23 (0,0)) (by (with_reducible repeat first|apply zbN|apply zb1|apply zbA);exact BK101.out)):gb122 ≠ gb101));have n9_:=z_ ((by rw [hg];exact Nat.ne_of_lt (blk_lt (g:=gb102) (o:=.cells #[.int .i64 a2_0, .int .i64 a2_1, .int .i64 a2_2, .string a2_3] 23 (0,0)) (by (with_reducible repeat first|apply zbN|apply zb1|apply zbA);exact BK102.out)):gb102 ≠ gb122));have n10_:=z_ ((by rw [hg];exact Nat.ne_of_gt (blk_lt (g:=gb102) (o:=.cells #[.int .i64 a2_0, .int .i64 a2_1, .int .i64 a2_2, .string a2_3] 23 (0,0)) (by (with_reducible repeat first|apply zbN|apply zb1|apply zbA);exact BK102.out)):gb122 ≠ gb102));have n11_:=z_ ((by rw [hg];exact Nat.ne_of_lt (blk_lt (g:=gb103) (o:=.cells #[.int .i64 0, .int .i64 0, .int .i64 0, .string (⟨#[]⟩:ByteArray)] 23 (0,0)) (by (with_reducible repeat first|apply zbN|apply zb1|apply zbA);exact BK103.out)):gb103 ≠ gb122));have n12_:=z_ ((by rw [hg];exact Nat.ne_of_gt (blk_lt (g:=gb103) (o:=.cells #[.int .i64 0, .int .i64 0, .int .i64 0, .string (⟨#[]⟩:ByteArray)] 23 (0,0)) (by (with_reducible repeat first|apply zbN|apply zb1|apply zbA);exact BK103.out)):gb122 ≠ gb103));clear BK101;clear BK102;clear BK103;clear HB;have BK101:=n0_;have BK102:=n1_;have BK103:=n2_;have HB:=n3_;have BK122:=n4_;have GW122:=n5_;have GE122:=n6_;have NB101_122:=n7_;have NB122_101:=n8_;have NB102_122:=n9_;have NB122_102:=n10_;have NB103_122:=n11_;have NB122_103:=n12_;clear n0_ n1_ n2_ n3_ n4_ n5_ n6_ n7_ n8_ n9_ n10_ n11_ n12_;clear hb hbox hg;have hnb69:=NB122_101.out;have hnc69:=NB101_122.out;have hnb70:=NB122_102.out;have hnc70:=NB102_122.out;have hnb71:=NB122_103.out;have hnc71:=NB103_122.out;have hcz72_0:w68.cell? ⟨gb122,0,none⟩ = some (.int .i64 0):=(zce BK122.out 0).trans rfl;have hcz72_1:w68.cell? ⟨gb122,1,none⟩ = some (.int .i64 0):=(zce BK122.out 1).trans rfl;have hcz72_2:w68.cell? ⟨gb122,2,none⟩ = some (.int .i64 0):=(zce BK122.out 2).trans rfl;have hcz72_3:w68.cell? ⟨gb122,3,none⟩ = some (.string (⟨#[]⟩:ByteArray)):=(zce BK122.out 3).trans rfl;have hfz72_0:=zfz BK122.out 0;have hfz72_1:=zfz BK122.out 1;have hfz72_2:=zfz BK122.out 2;have hfz72_3:=zfz BK122.out 3))
   have n0_:Aside0 (((((w68.setCell ⟨gb122,0,none⟩ (.int .i64 t118)).setCell ⟨gb122,1,none⟩ (.int .i64 t119)).setCell ⟨gb122,2,none⟩ (.int .i64 t120)).setCell ⟨gb122,3,none⟩ (.string t121)).heap[gb101]? = some (.cells #[.int .i64 a1_0, .int .i64 a1_1, .int .i64 a1_2, .string a1_3] 23 (0,0))):=⟨by (with_reducible repeat first|apply zbN|apply zb1|apply zbA);refine zbf ?_ NB101_122.out _;(with_reducible repeat first|apply zbN|apply zb1|apply zbA);refine zbf ?_ NB101_122.out _;(with_reducible repeat first|apply zbN|apply zb1|apply zbA);refine zbf ?_ NB101_122.out _;(with_reducible repeat first|apply zbN|apply zb1|apply zbA);refine zbf ?_ NB101_122.out _;(with_reducible repeat first|apply zbN|apply zb1|apply zbA);exact BK101.out⟩
   have n1_:Aside0 (((((w68.setCell ⟨gb122,0,none⟩ (.int .i64 t118)).setCell ⟨gb122,1,none⟩ (.int .i64 t119)).setCell ⟨gb122,2,none⟩ (.int .i64 t120)).setCell ⟨gb122,3,none⟩ (.string t121)).heap[gb102]? = some (.cells #[.int .i64 a2_0, .int .i64 a2_1, .int .i64 a2_2, .string a2_3] 23 (0,0))):=⟨by (with_reducible repeat first|apply zbN|apply zb1|apply zbA);refine zbf ?_ NB102_122.out _;(with_reducible repeat first|apply zbN|apply zb1|apply zbA);refine zbf ?_ NB102_122.out _;(with_reducible repeat first|apply zbN|apply zb1|apply zbA);refine zbf ?_ NB102_122.out _;(with_reducible repeat first|apply zbN|apply zb1|apply zbA);refine zbf ?_ NB102_122.out _;(with_reducible repeat first|apply zbN|apply zb1|apply zbA);exact BK102.out⟩
   have n2_:Aside0 (((((w68.setCell ⟨gb122,0,none⟩ (.int .i64 t118)).setCell ⟨gb122,1,none⟩ (.int .i64 t119)).setCell ⟨gb122,2,none⟩ (.int .i64 t120)).setCell ⟨gb122,3,none⟩ (.string t121)).heap[gb103]? = some (.cells #[.int .i64 0, .int .i64 0, .int .i64 0, .string (⟨#[]⟩:ByteArray)] 23 (0,0))):=⟨by (with_reducible repeat first|apply zbN|apply zb1|apply zbA);refine zbf ?_ NB103_122.out _;(with_reducible repeat first|apply zbN|apply zb1|apply zbA);refine zbf ?_ NB103_122.out _;(with_reducible repeat first|apply zbN|apply zb1|apply zbA);refine zbf ?_ NB103_122.out _;(with_reducible repeat first|apply zbN|apply zb1|apply zbA);refine zbf ?_ NB103_122.out _;(with_reducible repeat first|apply zbN|apply zb1|apply zbA);exact BK103.out⟩
   have n3_:Aside0 (((((w68.setCell ⟨gb122,0,none⟩ (.int .i64 t118)).setCell ⟨gb122,1,none⟩ (.int .i64 t119)).setCell ⟨gb122,2,none⟩ (.int .i64 t120)).setCell ⟨gb122,3,none⟩ (.string t121)).heap[gb122]? = some (.cells #[.int .i64 t118, .int .i64 t119, .int .i64 t120, .string t121] 23 (0,0))):=⟨by (with_reducible repeat first|apply zbN|apply zb1|apply zbA);refine zbp (cs:=#[.int .i64 t118, .int .i64 t119, .int .i64 t120, .string (⟨#[]⟩:ByteArray)]) ?_ 3 _ rfl;(with_reducible repeat first|apply zbN|apply zb1|apply zbA);refine zbp (cs:=#[.int .i64 t118, .int .i64 t119, .int .i64 0, .string (⟨#[]⟩:ByteArray)]) ?_ 2 _ rfl;(with_reducible repeat first|apply zbN|apply zb1|apply zbA);refine zbp (cs:=#[.int .i64 t118, .int .i64 0, .int .i64 0, .string (⟨#[]⟩:ByteArray)]) ?_ 1 _ rfl;(with_reducible repeat first|apply zbN|apply zb1|apply zbA);refine zbp (cs:=#[.int .i64 0, .int .i64 0, .int .i64 0, .string (⟨#[]⟩:ByteArray)]) ?_ 0 _ rfl;(with_reducible repeat first|apply zbN|apply zb1|apply zbA);exact BK122.out⟩
   have n4_:Aside0 (Below w.heap.size w ((((w68.setCell ⟨gb122,0,none⟩ (.int .i64 t118)).setCell ⟨gb122,1,none⟩ (.int .i64 t119)).setCell ⟨gb122,2,none⟩ (.int .i64 t120)).setCell ⟨gb122,3,none⟩ (.string t121))):=⟨by repeat first|(with_reducible first|exact HB.out|apply zA|apply zN|apply z1|refine zS ?_ GE101.out|refine zS ?_ GE102.out|refine zS ?_ GE103.out|refine zS ?_ GE122.out)|exact HB.out⟩
   (try clear BK101)
   (try clear BK102)
   (try clear BK103)
   (try clear BK122)
   (try clear HB)
   generalize ((((w68.setCell ⟨gb122,0,none⟩ (.int .i64 t118)).setCell ⟨gb122,1,none⟩ (.int .i64 t119)).setCell ⟨gb122,2,none⟩ (.int .i64 t120)).setCell ⟨gb122,3,none⟩ (.string t121)) = w73 at n0_ n1_ n2_ n3_ n4_ ⊢
   have BK101:=n0_
   have BK102:=n1_
   have BK103:=n2_
   have BK122:=n3_
   have HB:=n4_
   clear n0_ n1_ n2_ n3_ n4_
   have n0_:=z_ (zb1 BK101.out)
   have n1_:=z_ (zb1 BK102.out)
   have n2_:=z_ (zb1 BK103.out)
   have n3_:=z_ (zb1 BK122.out)
   have n4_:=z_ (z1 HB.out)
   clear BK101
   clear BK102
   clear BK103
   clear BK122
   clear HB
   have BK101:=n0_
   have BK102:=n1_
   have BK103:=n2_
   have BK122:=n3_
   have HB:=n4_
   clear n0_ n1_ n2_ n3_ n4_
   refine start_ (n:=8) (S:=fun w'=>w'.cell? ⟨gb122,0,none⟩ = some (.int .i64 t118) ∧ w'.cell? ⟨gb122,1,none⟩ = some (.int .i64 t119) ∧ w'.cell? ⟨gb122,2,none⟩ = some (.int .i64 t120) ∧ w'.cell? ⟨gb122,3,none⟩ = some (.string t121)) (ds:=[]) #[false,false,false,false,false,false,false,false] (by kernel_rfl) rfl rfl ⟨(zce BK122.out 0).trans rfl,(zce BK122.out 1).trans rfl,(zce BK122.out 2).trans rfl,(zce BK122.out 3).trans rfl⟩ (fun hHeld=>?_);refine with_tabW val_decs.tab9 val_decs.bits9 (fun HT_ HW_=>?_)
   generalize w73.drew = w74 at BK101 BK102 BK103 BK122 HB hHeld ⊢
   refine pure_ (i:=1) (N:=some 49) (v:=?_) (a':=?_) #[false,true,false,false,false,false,false,false] rfl rfl (any_of HT_.out (by kernel_rfl)) (fun _ _ _ h=>h) (Or.inl ⟨by rfl,?_⟩) ?_ ?_
   rotate_left
   ·intro w'
    go_simp
    with_reducible rfl
   rotate_left
   ·simp only [Act.put,List.setIfInBounds_toArray,List.set_cons_zero,List.set_cons_succ,i64_w,i32_w]
    rfl
   refine pure_ (i:=2) (N:=some 50) (v:=?_) (a':=?_) #[false,true,true,false,false,false,false,false] rfl rfl (any_of HT_.out (by kernel_rfl)) (fun _ _ _ h=>h) (Or.inl ⟨by rfl,?_⟩) ?_ ?_
   rotate_left
   ·intro w'
    go_simp
    with_reducible rfl
   rotate_left
   ·simp only [Act.put,List.setIfInBounds_toArray,List.set_cons_zero,List.set_cons_succ,i64_w,i32_w]
    rfl
   refine take_ (i:=0) (N:=some 48) (v:=?_) (a':=?_) #[true,true,true,false,false,false,false,false] rfl rfl (take_ofW HT_.out HW_.out (by kernel_rfl)) (fun _ _ _ h=>h) (Or.inl ⟨by rfl,?_⟩) hHeld ?_ ?_
   rotate_left
   ·rintro w' ⟨s0,s1,s2,s3⟩
    go_simp
    with_reducible rfl
   rotate_left
   ·simp only [Act.put,List.setIfInBounds_toArray,List.set_cons_zero,List.set_cons_succ,i64_w,i32_w]
    rfl
   refine take_ (i:=3) (N:=some 51) (v:=?_) (a':=?_) #[true,true,true,true,false,false,false,false] rfl rfl (take_ofW HT_.out HW_.out (by kernel_rfl)) (fun _ _ _ h=>h) (Or.inl ⟨by rfl,?_⟩) hHeld ?_ ?_
   rotate_left
   ·rintro w' ⟨s0,s1,s2,s3⟩
    go_simp
    with_reducible rfl
   rotate_left
   ·simp only [Act.put,List.setIfInBounds_toArray,List.set_cons_zero,List.set_cons_succ,i64_w,i32_w]
    rfl
   refine one_ (i:=4) (N:=some 52) #[true,true,true,true,true,false,false,false] rfl rfl (one_of HT_.out (by kernel_rfl)) (by decide) (fun K hK=>?_)
   refine goes_ Try.func15 (by kernel_rfl) rfl #[.agg #[.int .i64 t118, .int .i64 t119, .int .i64 t120, .string t121]] (by rfl) rfl rfl (by (try simp only [List.map_toArray,List.map_cons,List.map_nil]);first|done|rfl|(simp only [List.length_drop,List.length_take];rfl)) ?_
   with_reducible refine (val_Right.calls k t118 t119 t120 t121 t123 _ A53.out).mono ?_
   rintro e w75 ⟨rfl,hb⟩
   refine ⟨_,rfl,?_⟩
   have n0_:=z_ (zbb (g:=gb101) (o:=.cells #[.int .i64 a1_0, .int .i64 a1_1, .int .i64 a1_2, .string a1_3] 23 (0,0)) (by (with_reducible repeat first|apply zbN|apply zb1|apply zbA);exact BK101.out) hb)
   have n1_:=z_ (zbb (g:=gb102) (o:=.cells #[.int .i64 a2_0, .int .i64 a2_1, .int .i64 a2_2, .string a2_3] 23 (0,0)) (by (with_reducible repeat first|apply zbN|apply zb1|apply zbA);exact BK102.out) hb)
   have n2_:=z_ (zbb (g:=gb103) (o:=.cells #[.int .i64 0, .int .i64 0, .int .i64 0, .string (⟨#[]⟩:ByteArray)] 23 (0,0)) (by (with_reducible repeat first|apply zbN|apply zb1|apply zbA);exact BK103.out) hb)
   have n3_:=z_ (zbb (g:=gb122) (o:=.cells #[.int .i64 t118, .int .i64 t119, .int .i64 t120, .string t121] 23 (0,0)) (by (with_reducible repeat first|apply zbN|apply zb1|apply zbA);exact BK122.out) hb)
   have n4_:=z_ (below_step (by repeat first|(with_reducible first|exact HB.out|apply zA|apply zN|apply z1|refine zS ?_ GE101.out|refine zS ?_ GE102.out|refine zS ?_ GE103.out|refine zS ?_ GE122.out)|exact HB.out) hb)
   clear BK101
   clear BK102
   clear BK103
   clear BK122
   clear HB
   have BK101:=n0_
   have BK102:=n1_
   have BK103:=n2_
   have BK122:=n3_
   have HB:=n4_
   clear n0_ n1_ n2_ n3_ n4_
   (try clear hb)
   (try clear hb2)
   (try clear hk)
   (try clear hi)
   refine hK.out _ _ ⟨(zce BK122.out 0).trans rfl,(zce BK122.out 1).trans rfl,(zce BK122.out 2).trans rfl,(zce BK122.out 3).trans rfl⟩ (fun hHeld=>?_)
   clear hK K
   refine norm_ (a':=?_) ?_ ?_
   rotate_left
   ·show Act.put _ (some 52) _ = _
    simp only [Act.put,List.setIfInBounds_toArray,List.set_cons_zero,List.set_cons_succ,i64_w,i32_w]
    rfl
   refine pure_ (i:=5) (N:=some 53) (v:=?_) (a':=?_) #[true,true,true,true,true,true,false,false] rfl rfl (any_of HT_.out (by kernel_rfl)) (fun _ _ _ h=>h) (Or.inl ⟨by rfl,?_⟩) ?_ ?_
   rotate_left
   ·intro w'
    go_simp
    with_reducible rfl
   rotate_left
   ·simp only [Act.put,List.setIfInBounds_toArray,List.set_cons_zero,List.set_cons_succ,i64_w,i32_w]
    rfl
   refine one_ (i:=6) (N:=none) #[true,true,true,true,true,true,true,false] rfl rfl (one_of HT_.out (by kernel_rfl)) (by decide) (fun K hK=>?_)
   have hs76:w75.cell? ⟨gb103,0,none⟩ = some (.int .i64 0):=(zce BK103.out 0).trans rfl
   have hfs76:=zfz BK103.out 0
   have hns76_0:=NB101_103.out
   have hns76_1:=NB102_103.out
   have hns76_3:=NB122_103.out
   have hms76_0:=NB103_101.out
   have hms76_1:=NB103_102.out
   have hms76_3:=NB103_122.out
   have hs77:w75.cell? ⟨gb103,1,none⟩ = some (.int .i64 0):=(zce BK103.out 1).trans rfl
   have hfs77:=zfz BK103.out 1
   have hns77_0:=NB101_103.out
   have hns77_1:=NB102_103.out
   have hns77_3:=NB122_103.out
   have hms77_0:=NB103_101.out
   have hms77_1:=NB103_102.out
   have hms77_3:=NB103_122.out
   have hs78:w75.cell? ⟨gb103,2,none⟩ = some (.int .i64 0):=(zce BK103.out 2).trans rfl
   have hfs78:=zfz BK103.out 2
   have hns78_0:=NB101_103.out
   have hns78_1:=NB102_103.out
   have hns78_3:=NB122_103.out
   have hms78_0:=NB103_101.out
   have hms78_1:=NB103_102.out
   have hms78_3:=NB103_122.out
   have hs79:w75.cell? ⟨gb103,3,none⟩ = some (.string (⟨#[]⟩:ByteArray)):=(zce BK103.out 3).trans rfl
   have hfs79:=zfz BK103.out 3
   have hns79_0:=NB101_103.out
   have hns79_1:=NB102_103.out
   have hns79_3:=NB122_103.out
   have hms79_0:=NB103_101.out
   have hms79_1:=NB103_102.out
   have hms79_3:=NB103_122.out
   refine skip_ (w1:=?_) (by rfl) rfl ?_ ?_
   rotate_left
   ·go_simp
    rfl
   refine hK.out _ _ ⟨((cell_far (p:=⟨gb103,_,none⟩) NB122_103.out _).trans (((cell_far (p:=⟨gb103,_,none⟩) NB122_103.out _).trans (((cell_far (p:=⟨gb103,_,none⟩) NB122_103.out _).trans (((cell_far (p:=⟨gb103,_,none⟩) NB122_103.out _).trans (hHeld.1)))))))),((cell_far (p:=⟨gb103,_,none⟩) NB122_103.out _).trans (((cell_far (p:=⟨gb103,_,none⟩) NB122_103.out _).trans (((cell_far (p:=⟨gb103,_,none⟩) NB122_103.out _).trans (((cell_far (p:=⟨gb103,_,none⟩) NB122_103.out _).trans (hHeld.2.1)))))))),((cell_far (p:=⟨gb103,_,none⟩) NB122_103.out _).trans (((cell_far (p:=⟨gb103,_,none⟩) NB122_103.out _).trans (((cell_far (p:=⟨gb103,_,none⟩) NB122_103.out _).trans (((cell_far (p:=⟨gb103,_,none⟩) NB122_103.out _).trans (hHeld.2.2.1)))))))),((cell_far (p:=⟨gb103,_,none⟩) NB122_103.out _).trans (((cell_far (p:=⟨gb103,_,none⟩) NB122_103.out _).trans (((cell_far (p:=⟨gb103,_,none⟩) NB122_103.out _).trans (((cell_far (p:=⟨gb103,_,none⟩) NB122_103.out _).trans (hHeld.2.2.2))))))))⟩ (fun hHeld=>?_)
   clear hK K
   refine pure_ (i:=7) (N:=some 7) (v:=?_) (a':=?_) #[true,true,true,true,true,true,true,true] rfl rfl (any_of HT_.out (by kernel_rfl)) (fun _ _ _ h=>h) (Or.inl ⟨by rfl,?_⟩) ?_ ?_
   rotate_left
   ·intro w'
    go_simp
    with_reducible rfl
   rotate_left
   ·simp only [Act.put,List.setIfInBounds_toArray,List.set_cons_zero,List.set_cons_succ,i64_w,i32_w]
    rfl
   refine done_ (done_of HT_.out (by kernel_rfl)) ?_
   try go_wp2
   refine bodyPost_ret (results_ct rfl _ _ gb103 23 #[.int .i64 t118, .int .i64 t119, .int .i64 t120, .string t121] (0,0) _ rfl (by (with_reducible repeat first|apply zbN|apply zb1|apply zbA);refine zbp (cs:=#[.int .i64 t118, .int .i64 t119, .int .i64 t120, .string (⟨#[]⟩:ByteArray)]) ?_ 3 _ rfl;(with_reducible repeat first|apply zbN|apply zb1|apply zbA);refine zbp (cs:=#[.int .i64 t118, .int .i64 t119, .int .i64 0, .string (⟨#[]⟩:ByteArray)]) ?_ 2 _ rfl;(with_reducible repeat first|apply zbN|apply zb1|apply zbA);refine zbp (cs:=#[.int .i64 t118, .int .i64 0, .int .i64 0, .string (⟨#[]⟩:ByteArray)]) ?_ 1 _ rfl;(with_reducible repeat first|apply zbN|apply zb1|apply zbA);refine zbp (cs:=#[.int .i64 0, .int .i64 0, .int .i64 0, .string (⟨#[]⟩:ByteArray)]) ?_ 0 _ rfl;(with_reducible repeat first|apply zbN|apply zb1|apply zbA);exact BK103.out) Try.underlying23 rfl (by kernel_rfl)) rfl ?_
   exact ⟨by first|rfl|(simp [errW_none,errW_some] <;> rfl)|(simp [*,errW_none,errW_some] <;> rfl),by repeat first|(with_reducible first|exact HB.out|apply zA|apply zN|apply z1|refine zS ?_ GE101.out|refine zS ?_ GE102.out|refine zS ?_ GE103.out|refine zS ?_ GE122.out)|exact HB.out⟩
  ·have hfz62_3:=zfz BK102.out 3
   try go_wp2_with (first|((with_reducible refine gate_callee (f:=59) rfl ?_);refine goesL_ (some 29) rfl rfl Try.func59 (by kernel_rfl) rfl #[.agg #[.int .i64 a1_0, .int .i64 a1_1, .int .i64 a1_2, .string a1_3], .agg #[.int .i64 a2_0, .int .i64 a2_1, .int .i64 a2_2, .string a2_3]] rfl (by (try simp only [List.map_toArray,List.map_cons,List.map_nil]);first|done|rfl|(simp only [List.length_drop,List.length_take];rfl)) ?_;(with_reducible refine (val_same.calls k a1_0 a1_1 a1_2 a1_3 a2_0 a2_1 a2_2 a2_3 t112 t113 t114 true _ A48.out).mono ?_);rintro e w89 ⟨rfl,hb⟩;refine ⟨_,rfl,?_⟩;have n0_:=z_ (zbb (g:=gb101) (o:=.cells #[.int .i64 a1_0, .int .i64 a1_1, .int .i64 a1_2, .string a1_3] 23 (0,0)) (by (with_reducible repeat first|apply zbN|apply zb1|apply zbA);exact BK101.out) hb);have n1_:=z_ (zbb (g:=gb102) (o:=.cells #[.int .i64 a2_0, .int .i64 a2_1, .int .i64 a2_2, .string a2_3] 23 (0,0)) (by (with_reducible repeat first|apply zbN|apply zb1|apply zbA);exact BK102.out) hb);have n2_:=z_ (zbb (g:=gb103) (o:=.cells #[.int .i64 0, .int .i64 0, .int .i64 0, .string (⟨#[]⟩:ByteArray)] 23 (0,0)) (by (with_reducible repeat first|apply zbN|apply zb1|apply zbA);exact BK103.out) hb);have n3_:=z_ (below_step (by repeat first|(with_reducible first|exact HB.out|apply zA|apply zN|apply z1|refine zS ?_ GE101.out|refine zS ?_ GE102.out|refine zS ?_ GE103.out)|exact HB.out) hb);clear BK101;clear BK102;clear BK103;clear HB;have BK101:=n0_;have BK102:=n1_;have BK103:=n2_;have HB:=n3_;clear n0_ n1_ n2_ n3_;(try clear hb);(try clear hb2);(try clear hk);(try clear hi))|((with_reducible refine gate_callee (f:=58) rfl ?_);refine goesL_ (some 41) rfl rfl Try.func58 (by kernel_rfl) rfl #[.int .i64 a0, .int .i64 t112, .int .i64 t113] rfl (by (try simp only [List.map_toArray,List.map_cons,List.map_nil]);first|done|rfl|(simp only [List.length_drop,List.length_take];rfl)) ?_;(with_reducible refine (val_two.calls a0 t112 t113 t116 false _ A50.out).mono ?_);rintro e w' ⟨rfl,⟨nd,rfl⟩⟩;refine ⟨_,rfl,?_⟩;(try (rw [drewN_self w89];generalize hq_:World.drewN w89 _ = w89;have n0_:Aside0 (w89.heap[gb101]? = some (.cells #[.int .i64 a1_0, .int .i64 a1_1, .int .i64 a1_2, .string a1_3] 23 (0,0))):=⟨by rw [← hq_];exact (by (with_reducible repeat first|apply zbN|apply zb1|apply zbA);exact BK101.out)⟩;have n1_:Aside0 (w89.heap[gb102]? = some (.cells #[.int .i64 a2_0, .int .i64 a2_1, .int .i64 a2_2, .string a2_3] 23 (0,0))):=⟨by rw [← hq_];exact (by (with_reducible repeat first|apply zbN|apply zb1|apply zbA);exact BK102.out)⟩;have n2_:Aside0 (w89.heap[gb103]? = some (.cells #[.int .i64 0, .int .i64 0, .int .i64 0, .string (⟨#[]⟩:ByteArray)] 23 (0,0))):=⟨by rw [← hq_];exact (by (with_reducible repeat first|apply zbN|apply zb1|apply zbA);exact BK103.out)⟩;have n3_:Aside0 (Below w.heap.size w w89):=⟨by rw [← hq_];exact (by repeat first|(with_reducible first|exact HB.out|apply zA|apply zN|apply z1|refine zS ?_ GE101.out|refine zS ?_ GE102.out|refine zS ?_ GE103.out)|exact HB.out)⟩;clear BK101 BK102 BK103 HB hq_;have BK101:=n0_;have BK102:=n1_;have BK103:=n2_;have HB:=n3_;clear n0_ n1_ n2_ n3_));(try have hcu90_0:w89.cell? ⟨gb101,0,none⟩ = some (.int .i64 a1_0):=(zce BK101.out 0).trans rfl);(try have hcu90_1:w89.cell? ⟨gb101,1,none⟩ = some (.int .i64 a1_1):=(zce BK101.out 1).trans rfl);(try have hcu90_2:w89.cell? ⟨gb101,2,none⟩ = some (.int .i64 a1_2):=(zce BK101.out 2).trans rfl);(try have hcu90_3:w89.cell? ⟨gb101,3,none⟩ = some (.string a1_3):=(zce BK101.out 3).trans rfl);(try have hfu90_0:=zfz BK101.out 0);(try have hfu90_1:=zfz BK101.out 1);(try have hfu90_2:=zfz BK101.out 2);(try have hfu90_3:=zfz BK101.out 3);(try have hcu91_0:w89.cell? ⟨gb102,0,none⟩ = some (.int .i64 a2_0):=(zce BK102.out 0).trans rfl);(try have hcu91_1:w89.cell? ⟨gb102,1,none⟩ = some (.int .i64 a2_1):=(zce BK102.out 1).trans rfl);(try have hcu91_2:w89.cell? ⟨gb102,2,none⟩ = some (.int .i64 a2_2):=(zce BK102.out 2).trans rfl);(try have hcu91_3:w89.cell? ⟨gb102,3,none⟩ = some (.string a2_3):=(zce BK102.out 3).trans rfl);(try have hfu91_0:=zfz BK102.out 0);(try have hfu91_1:=zfz BK102.out 1);(try have hfu91_2:=zfz BK102.out 2);(try have hfu91_3:=zfz BK102.out 3);(try have hcu92_0:w89.cell? ⟨gb103,0,none⟩ = some (.int .i64 0):=(zce BK103.out 0).trans rfl);(try have hcu92_1:w89.cell? ⟨gb103,1,none⟩ = some (.int .i64 0):=(zce BK103.out 1).trans rfl);(try have hcu92_2:w89.cell? ⟨gb103,2,none⟩ = some (.int .i64 0):=(zce BK103.out 2).trans rfl);(try have hcu92_3:w89.cell? ⟨gb103,3,none⟩ = some (.string (⟨#[]⟩:ByteArray)):=(zce BK103.out 3).trans rfl);(try have hfu92_0:=zfz BK103.out 0);(try have hfu92_1:=zfz BK103.out 1);(try have hfu92_2:=zfz BK103.out 2);(try have hfu92_3:=zfz BK103.out 3))|((with_reducible refine gate_callee (f:=16) rfl ?_);refine goesL_ (some 47) rfl rfl Try.func16 (by kernel_rfl) rfl #[.agg #[.int .i64 3, .int .i64 t116, .int .i64 t114, .string (⟨#[]⟩:ByteArray)]] rfl (by (try simp only [List.map_toArray,List.map_cons,List.map_nil]);first|done|rfl|(simp only [List.length_drop,List.length_take];rfl)) ?_;(with_reducible refine (val_Norm.calls k 3 t116 t114 (⟨#[]⟩:ByteArray) t118 t119 t120 t121 _ A51.out).mono ?_);rintro e w93 ⟨rfl,hb⟩;refine ⟨_,rfl,?_⟩;have n0_:=z_ (zbb (g:=gb101) (o:=.cells #[.int .i64 a1_0, .int .i64 a1_1, .int .i64 a1_2, .string a1_3] 23 (0,0)) (by (with_reducible repeat first|apply zbN|apply zb1|apply zbA);exact BK101.out) hb);have n1_:=z_ (zbb (g:=gb102) (o:=.cells #[.int .i64 a2_0, .int .i64 a2_1, .int .i64 a2_2, .string a2_3] 23 (0,0)) (by (with_reducible repeat first|apply zbN|apply zb1|apply zbA);exact BK102.out) hb);have n2_:=z_ (zbb (g:=gb103) (o:=.cells #[.int .i64 0, .int .i64 0, .int .i64 0, .string (⟨#[]⟩:ByteArray)] 23 (0,0)) (by (with_reducible repeat first|apply zbN|apply zb1|apply zbA);exact BK103.out) hb);have n3_:=z_ (below_step (by repeat first|(with_reducible first|exact HB.out|apply zA|apply zN|apply z1|refine zS ?_ GE101.out|refine zS ?_ GE102.out|refine zS ?_ GE103.out)|exact HB.out) hb);clear BK101;clear BK102;clear BK103;clear HB;have BK101:=n0_;have BK102:=n1_;have BK103:=n2_;have HB:=n3_;clear n0_ n1_ n2_ n3_;(try clear hb);(try clear hb2);(try clear hk);(try clear hi))|((with_reducible refine gate_dst (N:=14) rfl ?_);refine box_event ?hg (N:=14) ?hd (cs:=#[.int .i64 0, .int .i64 0, .int .i64 0, .string (⟨#[]⟩:ByteArray)]) (t:=23) ?hr ?_;(case hd=>rfl);(case hg=>rfl);(case hr=>first|(go_simp;done)|(go_simp;rfl));intro gb122 hg w94 hbox hb;have n0_:=z_ (zbb (g:=gb101) (o:=.cells #[.int .i64 a1_0, .int .i64 a1_1, .int .i64 a1_2, .string a1_3] 23 (0,0)) (by (with_reducible repeat first|apply zbN|apply zb1|apply zbA);exact BK101.out) hb);have n1_:=z_ (zbb (g:=gb102) (o:=.cells #[.int .i64 a2_0, .int .i64 a2_1, .int .i64 a2_2, .string a2_3] 23 (0,0)) (by (with_reducible repeat first|apply zbN|apply zb1|apply zbA);exact BK102.out) hb);have n2_:=z_ (zbb (g:=gb103) (o:=.cells #[.int .i64 0, .int .i64 0, .int .i64 0, .string (⟨#[]⟩:ByteArray)] 23 (0,0)) (by (with_reducible repeat first|apply zbN|apply zb1|apply zbA);exact BK103.out) hb);have n3_:=z_ (below_step (by repeat first|(with_reducible first|exact HB.out|apply zA|apply zN|apply z1|refine zS ?_ GE101.out|refine zS ?_ GE102.out|refine zS ?_ GE103.out)|exact HB.out) hb);have n4_:=z_ (hbox);have n5_:=z_ ((by rw [hg];exact (zBs (by repeat first|(with_reducible first|exact HB.out|apply zA|apply zN|apply z1|refine zS ?_ GE101.out|refine zS ?_ GE102.out|refine zS ?_ GE103.out)|exact HB.out)):w.heap.size ≤ gb122));have n6_:=z_ ((by rw [hg];exact (zBs (by repeat first|(with_reducible first|exact HB.out|apply zA|apply zN|apply z1|refine zS ?_ GE101.out|refine zS ?_ GE102.out|refine zS ?_ GE103.out)|exact HB.out)):w.heap.size ≤ gb122));have n7_:=z_ ((by rw [hg];exact Nat.ne_of_lt (blk_lt (g:=gb101) (o:=.cells #[.int .i64 a1_0, .int .i64 a1_1, .int .i64 a1_2, .string a1_3] 23 (0,0)) (by (with_reducible repeat first|apply zbN|apply zb1|apply zbA);exact BK101.out)):gb101 ≠ gb122));have n8_:=z_ ((by rw [hg];exact Nat.ne_of_gt (blk_lt (g:=gb101) (o:=.cells #[.int .i64 a1_0, .int .i64 a1_1, .int .i64 a1_2, .string a1_3] 23 (0,0)) (by (with_reducible repeat first|apply zbN|apply zb1|apply zbA);exact BK101.out)):gb122 ≠ gb101));have n9_:=z_ ((by rw [hg];exact Nat.ne_of_lt (blk_lt (g:=gb102) (o:=.cells #[.int .i64 a2_0, .int .i64 a2_1, .int .i64 a2_2, .string a2_3] 23 (0,0)) (by (with_reducible repeat first|apply zbN|apply zb1|apply zbA);exact BK102.out)):gb102 ≠ gb122));have n10_:=z_ ((by rw [hg];exact Nat.ne_of_gt (blk_lt (g:=gb102) (o:=.cells #[.int .i64 a2_0, .int .i64 a2_1, .int .i64 a2_2, .string a2_3] 23 (0,0)) (by (with_reducible repeat first|apply zbN|apply zb1|apply zbA);exact BK102.out)):gb122 ≠ gb102));have n11_:=z_ ((by rw [hg];exact Nat.ne_of_lt (blk_lt (g:=gb103) (o:=.cells #[.int .i64 0, .int .i64 0, .int .i64 0, .string (⟨#[]⟩:ByteArray)] 23 (0,0)) (by (with_reducible repeat first|apply zbN|apply zb1|apply zbA);exact BK103.out)):gb103 ≠ gb122));have n12_:=z_ ((by rw [hg];exact Nat.ne_of_gt (blk_lt (g:=gb103) (o:=.cells #[.int .i64 0, .int .i64 0, .int .i64 0, .string (⟨#[]⟩:ByteArray)] 23 (0,0)) (by (with_reducible repeat first|apply zbN|apply zb1|apply zbA);exact BK103.out)):gb122 ≠ gb103));clear BK101;clear BK102;clear BK103;clear HB;have BK101:=n0_;have BK102:=n1_;have BK103:=n2_;have HB:=n3_;have BK122:=n4_;have GW122:=n5_;have GE122:=n6_;have NB101_122:=n7_;have NB122_101:=n8_;have NB102_122:=n9_;have NB122_102:=n10_;have NB103_122:=n11_;have NB122_103:=n12_;clear n0_ n1_ n2_ n3_ n4_ n5_ n6_ n7_ n8_ n9_ n10_ n11_ n12_;clear hb hbox hg;have hnb95:=NB122_101.out;have hnc95:=NB101_122.out;have hnb96:=NB122_102.out;have hnc96:=NB102_122.out;have hnb97:=NB122_103.out;have hnc97:=NB103_122.out;have hcz98_0:w94.cell? ⟨gb122,0,none⟩ = some (.int .i64 0):=(zce BK122.out 0).trans rfl;have hcz98_1:w94.cell? ⟨gb122,1,none⟩ = some (.int .i64 0):=(zce BK122.out 1).trans rfl;have hcz98_2:w94.cell? ⟨gb122,2,none⟩ = some (.int .i64 0):=(zce BK122.out 2).trans rfl;have hcz98_3:w94.cell? ⟨gb122,3,none⟩ = some (.string (⟨#[]⟩:ByteArray)):=(zce BK122.out 3).trans rfl;have hfz98_0:=zfz BK122.out 0;have hfz98_1:=zfz BK122.out 1;have hfz98_2:=zfz BK122.out 2;have hfz98_3:=zfz BK122.out 3))
   have n0_:Aside0 (((((w94.setCell ⟨gb122,0,none⟩ (.int .i64 t118)).setCell ⟨gb122,1,none⟩ (.int .i64 t119)).setCell ⟨gb122,2,none⟩ (.int .i64 t120)).setCell ⟨gb122,3,none⟩ (.string t121)).heap[gb101]? = some (.cells #[.int .i64 a1_0, .int .i64 a1_1, .int .i64 a1_2, .string a1_3] 23 (0,0))):=⟨by (with_reducible repeat first|apply zbN|apply zb1|apply zbA);refine zbf ?_ NB101_122.out _;(with_reducible repeat first|apply zbN|apply zb1|apply zbA);refine zbf ?_ NB101_122.out _;(with_reducible repeat first|apply zbN|apply zb1|apply zbA);refine zbf ?_ NB101_122.out _;(with_reducible repeat first|apply zbN|apply zb1|apply zbA);refine zbf ?_ NB101_122.out _;(with_reducible repeat first|apply zbN|apply zb1|apply zbA);exact BK101.out⟩
   have n1_:Aside0 (((((w94.setCell ⟨gb122,0,none⟩ (.int .i64 t118)).setCell ⟨gb122,1,none⟩ (.int .i64 t119)).setCell ⟨gb122,2,none⟩ (.int .i64 t120)).setCell ⟨gb122,3,none⟩ (.string t121)).heap[gb102]? = some (.cells #[.int .i64 a2_0, .int .i64 a2_1, .int .i64 a2_2, .string a2_3] 23 (0,0))):=⟨by (with_reducible repeat first|apply zbN|apply zb1|apply zbA);refine zbf ?_ NB102_122.out _;(with_reducible repeat first|apply zbN|apply zb1|apply zbA);refine zbf ?_ NB102_122.out _;(with_reducible repeat first|apply zbN|apply zb1|apply zbA);refine zbf ?_ NB102_122.out _;(with_reducible repeat first|apply zbN|apply zb1|apply zbA);refine zbf ?_ NB102_122.out _;(with_reducible repeat first|apply zbN|apply zb1|apply zbA);exact BK102.out⟩
   have n2_:Aside0 (((((w94.setCell ⟨gb122,0,none⟩ (.int .i64 t118)).setCell ⟨gb122,1,none⟩ (.int .i64 t119)).setCell ⟨gb122,2,none⟩ (.int .i64 t120)).setCell ⟨gb122,3,none⟩ (.string t121)).heap[gb103]? = some (.cells #[.int .i64 0, .int .i64 0, .int .i64 0, .string (⟨#[]⟩:ByteArray)] 23 (0,0))):=⟨by (with_reducible repeat first|apply zbN|apply zb1|apply zbA);refine zbf ?_ NB103_122.out _;(with_reducible repeat first|apply zbN|apply zb1|apply zbA);refine zbf ?_ NB103_122.out _;(with_reducible repeat first|apply zbN|apply zb1|apply zbA);refine zbf ?_ NB103_122.out _;(with_reducible repeat first|apply zbN|apply zb1|apply zbA);refine zbf ?_ NB103_122.out _;(with_reducible repeat first|apply zbN|apply zb1|apply zbA);exact BK103.out⟩
   have n3_:Aside0 (((((w94.setCell ⟨gb122,0,none⟩ (.int .i64 t118)).setCell ⟨gb122,1,none⟩ (.int .i64 t119)).setCell ⟨gb122,2,none⟩ (.int .i64 t120)).setCell ⟨gb122,3,none⟩ (.string t121)).heap[gb122]? = some (.cells #[.int .i64 t118, .int .i64 t119, .int .i64 t120, .string t121] 23 (0,0))):=⟨by (with_reducible repeat first|apply zbN|apply zb1|apply zbA);refine zbp (cs:=#[.int .i64 t118, .int .i64 t119, .int .i64 t120, .string (⟨#[]⟩:ByteArray)]) ?_ 3 _ rfl;(with_reducible repeat first|apply zbN|apply zb1|apply zbA);refine zbp (cs:=#[.int .i64 t118, .int .i64 t119, .int .i64 0, .string (⟨#[]⟩:ByteArray)]) ?_ 2 _ rfl;(with_reducible repeat first|apply zbN|apply zb1|apply zbA);refine zbp (cs:=#[.int .i64 t118, .int .i64 0, .int .i64 0, .string (⟨#[]⟩:ByteArray)]) ?_ 1 _ rfl;(with_reducible repeat first|apply zbN|apply zb1|apply zbA);refine zbp (cs:=#[.int .i64 0, .int .i64 0, .int .i64 0, .string (⟨#[]⟩:ByteArray)]) ?_ 0 _ rfl;(with_reducible repeat first|apply zbN|apply zb1|apply zbA);exact BK122.out⟩
   have n4_:Aside0 (Below w.heap.size w ((((w94.setCell ⟨gb122,0,none⟩ (.int .i64 t118)).setCell ⟨gb122,1,none⟩ (.int .i64 t119)).setCell ⟨gb122,2,none⟩ (.int .i64 t120)).setCell ⟨gb122,3,none⟩ (.string t121))):=⟨by repeat first|(with_reducible first|exact HB.out|apply zA|apply zN|apply z1|refine zS ?_ GE101.out|refine zS ?_ GE102.out|refine zS ?_ GE103.out|refine zS ?_ GE122.out)|exact HB.out⟩
   (try clear BK101)
   (try clear BK102)
   (try clear BK103)
   (try clear BK122)
   (try clear HB)
   generalize ((((w94.setCell ⟨gb122,0,none⟩ (.int .i64 t118)).setCell ⟨gb122,1,none⟩ (.int .i64 t119)).setCell ⟨gb122,2,none⟩ (.int .i64 t120)).setCell ⟨gb122,3,none⟩ (.string t121)) = w99 at n0_ n1_ n2_ n3_ n4_ ⊢
   have BK101:=n0_
   have BK102:=n1_
   have BK103:=n2_
   have BK122:=n3_
   have HB:=n4_
   clear n0_ n1_ n2_ n3_ n4_
   have n0_:=z_ (zb1 BK101.out)
   have n1_:=z_ (zb1 BK102.out)
   have n2_:=z_ (zb1 BK103.out)
   have n3_:=z_ (zb1 BK122.out)
   have n4_:=z_ (z1 HB.out)
   clear BK101
   clear BK102
   clear BK103
   clear BK122
   clear HB
   have BK101:=n0_
   have BK102:=n1_
   have BK103:=n2_
   have BK122:=n3_
   have HB:=n4_
   clear n0_ n1_ n2_ n3_ n4_
   refine start_ (n:=8) (S:=fun w'=>w'.cell? ⟨gb122,0,none⟩ = some (.int .i64 t118) ∧ w'.cell? ⟨gb122,1,none⟩ = some (.int .i64 t119) ∧ w'.cell? ⟨gb122,2,none⟩ = some (.int .i64 t120) ∧ w'.cell? ⟨gb122,3,none⟩ = some (.string t121)) (ds:=[]) #[false,false,false,false,false,false,false,false] (by kernel_rfl) rfl rfl ⟨(zce BK122.out 0).trans rfl,(zce BK122.out 1).trans rfl,(zce BK122.out 2).trans rfl,(zce BK122.out 3).trans rfl⟩ (fun hHeld=>?_);refine with_tabW val_decs.tab9 val_decs.bits9 (fun HT_ HW_=>?_)
   generalize w99.drew = w100 at BK101 BK102 BK103 BK122 HB hHeld ⊢
   refine pure_ (i:=1) (N:=some 49) (v:=?_) (a':=?_) #[false,true,false,false,false,false,false,false] rfl rfl (any_of HT_.out (by kernel_rfl)) (fun _ _ _ h=>h) (Or.inl ⟨by rfl,?_⟩) ?_ ?_
   rotate_left
   ·intro w'
    go_simp
    with_reducible rfl
   rotate_left
   ·simp only [Act.put,List.setIfInBounds_toArray,List.set_cons_zero,List.set_cons_succ,i64_w,i32_w]
    rfl
   refine pure_ (i:=2) (N:=some 50) (v:=?_) (a':=?_) #[false,true,true,false,false,false,false,false] rfl rfl (any_of HT_.out (by kernel_rfl)) (fun _ _ _ h=>h) (Or.inl ⟨by rfl,?_⟩) ?_ ?_
   rotate_left
   ·intro w'
    go_simp
    with_reducible rfl
   rotate_left
   ·simp only [Act.put,List.setIfInBounds_toArray,List.set_cons_zero,List.set_cons_succ,i64_w,i32_w]
    rfl
   refine pure_ (i:=3) (N:=some 51) (v:=undef) (a':=?_) #[false,true,true,true,false,false,false,false] rfl rfl (any_of HT_.out (by kernel_rfl)) (fun _ _ _ h=>h) (Or.inr ⟨by rfl,rfl⟩) ?_ ?_
   rotate_left
   ·simp only [Act.put,List.setIfInBounds_toArray,List.set_cons_zero,List.set_cons_succ,i64_w,i32_w]
    rfl
   refine pure_ (i:=4) (N:=some 52) (v:=undef) (a':=?_) #[false,true,true,true,true,false,false,false] rfl rfl (any_of HT_.out (by kernel_rfl)) (fun _ _ _ h=>h) (Or.inr ⟨by rfl,rfl⟩) ?_ ?_
   rotate_left
   ·simp only [Act.put,List.setIfInBounds_toArray,List.set_cons_zero,List.set_cons_succ,i64_w,i32_w]
    rfl
   refine pure_ (i:=5) (N:=some 53) (v:=?_) (a':=?_) #[false,true,true,true,true,true,false,false] rfl rfl (any_of HT_.out (by kernel_rfl)) (fun _ _ _ h=>h) (Or.inl ⟨by rfl,?_⟩) ?_ ?_
   rotate_left
   ·intro w'
    go_simp
    with_reducible rfl
   rotate_left
   ·simp only [Act.put,List.setIfInBounds_toArray,List.set_cons_zero,List.set_cons_succ,i64_w,i32_w]
    rfl
   refine take_ (i:=0) (N:=some 48) (v:=?_) (a':=?_) #[true,true,true,true,true,true,false,false] rfl rfl (take_ofW HT_.out HW_.out (by kernel_rfl)) (fun _ _ _ h=>h) (Or.inl ⟨by rfl,?_⟩) hHeld ?_ ?_
   rotate_left
   ·rintro w' ⟨s0,s1,s2,s3⟩
    go_simp
    with_reducible rfl
   rotate_left
   ·simp only [Act.put,List.setIfInBounds_toArray,List.set_cons_zero,List.set_cons_succ,i64_w,i32_w]
    rfl
   refine one_ (i:=6) (N:=none) #[true,true,true,true,true,true,true,false] rfl rfl (one_of HT_.out (by kernel_rfl)) (by decide) (fun K hK=>?_)
   have hs101:w100.cell? ⟨gb103,0,none⟩ = some (.int .i64 0):=(zce BK103.out 0).trans rfl
   have hfs101:=zfz BK103.out 0
   have hns101_0:=NB101_103.out
   have hns101_1:=NB102_103.out
   have hns101_3:=NB122_103.out
   have hms101_0:=NB103_101.out
   have hms101_1:=NB103_102.out
   have hms101_3:=NB103_122.out
   have hs102:w100.cell? ⟨gb103,1,none⟩ = some (.int .i64 0):=(zce BK103.out 1).trans rfl
   have hfs102:=zfz BK103.out 1
   have hns102_0:=NB101_103.out
   have hns102_1:=NB102_103.out
   have hns102_3:=NB122_103.out
   have hms102_0:=NB103_101.out
   have hms102_1:=NB103_102.out
   have hms102_3:=NB103_122.out
   have hs103:w100.cell? ⟨gb103,2,none⟩ = some (.int .i64 0):=(zce BK103.out 2).trans rfl
   have hfs103:=zfz BK103.out 2
   have hns103_0:=NB101_103.out
   have hns103_1:=NB102_103.out
   have hns103_3:=NB122_103.out
   have hms103_0:=NB103_101.out
   have hms103_1:=NB103_102.out
   have hms103_3:=NB103_122.out
   have hs104:w100.cell? ⟨gb103,3,none⟩ = some (.string (⟨#[]⟩:ByteArray)):=(zce BK103.out 3).trans rfl
   have hfs104:=zfz BK103.out 3
   have hns104_0:=NB101_103.out
   have hns104_1:=NB102_103.out
   have hns104_3:=NB122_103.out
   have hms104_0:=NB103_101.out
   have hms104_1:=NB103_102.out
   have hms104_3:=NB103_122.out
   refine skip_ (w1:=?_) (by rfl) rfl ?_ ?_
   rotate_left
   ·go_simp
    rfl
   refine hK.out _ _ ⟨((cell_far (p:=⟨gb103,_,none⟩) NB122_103.out _).trans (((cell_far (p:=⟨gb103,_,none⟩) NB122_103.out _).trans (((cell_far (p:=⟨gb103,_,none⟩) NB122_103.out _).trans (((cell_far (p:=⟨gb103,_,none⟩) NB122_103.out _).trans (hHeld.1)))))))),((cell_far (p:=⟨gb103,_,none⟩) NB122_103.out _).trans (((cell_far (p:=⟨gb103,_,none⟩) NB122_103.out _).trans (((cell_far (p:=⟨gb103,_,none⟩) NB122_103.out _).trans (((cell_far (p:=⟨gb103,_,none⟩) NB122_103.out _).trans (hHeld.2.1)))))))),((cell_far (p:=⟨gb103,_,none⟩) NB122_103.out _).trans (((cell_far (p:=⟨gb103,_,none⟩) NB122_103.out _).trans (((cell_far (p:=⟨gb103,_,none⟩) NB122_103.out _).trans (((cell_far (p:=⟨gb103,_,none⟩) NB122_103.out _).trans (hHeld.2.2.1)))))))),((cell_far (p:=⟨gb103,_,none⟩) NB122_103.out _).trans (((cell_far (p:=⟨gb103,_,none⟩) NB122_103.out _).trans (((cell_far (p:=⟨gb103,_,none⟩) NB122_103.out _).trans (((cell_far (p:=⟨gb103,_,none⟩) NB122_103.out _).trans (hHeld.2.2.2))))))))⟩ (fun hHeld=>?_)
   clear hK K
   refine pure_ (i:=7) (N:=some 7) (v:=?_) (a':=?_) #[true,true,true,true,true,true,true,true] rfl rfl (any_of HT_.out (by kernel_rfl)) (fun _ _ _ h=>h) (Or.inl ⟨by rfl,?_⟩) ?_ ?_
   rotate_left
   ·intro w'
    go_simp
    with_reducible rfl
   rotate_left
   ·simp only [Act.put,List.setIfInBounds_toArray,List.set_cons_zero,List.set_cons_succ,i64_w,i32_w]
    rfl
   refine done_ (done_of HT_.out (by kernel_rfl)) ?_
   try go_wp2
   refine bodyPost_ret (results_ct rfl _ _ gb103 23 #[.int .i64 t118, .int .i64 t119, .int .i64 t120, .string t121] (0,0) _ rfl (by (with_reducible repeat first|apply zbN|apply zb1|apply zbA);refine zbp (cs:=#[.int .i64 t118, .int .i64 t119, .int .i64 t120, .string (⟨#[]⟩:ByteArray)]) ?_ 3 _ rfl;(with_reducible repeat first|apply zbN|apply zb1|apply zbA);refine zbp (cs:=#[.int .i64 t118, .int .i64 t119, .int .i64 0, .string (⟨#[]⟩:ByteArray)]) ?_ 2 _ rfl;(with_reducible repeat first|apply zbN|apply zb1|apply zbA);refine zbp (cs:=#[.int .i64 t118, .int .i64 0, .int .i64 0, .string (⟨#[]⟩:ByteArray)]) ?_ 1 _ rfl;(with_reducible repeat first|apply zbN|apply zb1|apply zbA);refine zbp (cs:=#[.int .i64 0, .int .i64 0, .int .i64 0, .string (⟨#[]⟩:ByteArray)]) ?_ 0 _ rfl;(with_reducible repeat first|apply zbN|apply zb1|apply zbA);exact BK103.out) Try.underlying23 rfl (by kernel_rfl)) rfl ?_
   exact ⟨by first|rfl|(simp [errW_none,errW_some] <;> rfl)|(simp [*,errW_none,errW_some] <;> rfl),by repeat first|(with_reducible first|exact HB.out|apply zA|apply zN|apply z1|refine zS ?_ GE101.out|refine zS ?_ GE102.out|refine zS ?_ GE103.out|refine zS ?_ GE122.out)|exact HB.out⟩
  ·have hfz62_3:=zfz BK102.out 3
   try go_wp2_with (first|((with_reducible refine gate_callee (f:=59) rfl ?_);refine goesL_ (some 29) rfl rfl Try.func59 (by kernel_rfl) rfl #[.agg #[.int .i64 a1_0, .int .i64 a1_1, .int .i64 a1_2, .string a1_3], .agg #[.int .i64 a2_0, .int .i64 a2_1, .int .i64 a2_2, .string a2_3]] rfl (by (try simp only [List.map_toArray,List.map_cons,List.map_nil]);first|done|rfl|(simp only [List.length_drop,List.length_take];rfl)) ?_;(with_reducible refine (val_same.calls k a1_0 a1_1 a1_2 a1_3 a2_0 a2_1 a2_2 a2_3 t112 t113 t114 false _ A48.out).mono ?_);rintro e w114 ⟨rfl,hb⟩;refine ⟨_,rfl,?_⟩;have n0_:=z_ (zbb (g:=gb101) (o:=.cells #[.int .i64 a1_0, .int .i64 a1_1, .int .i64 a1_2, .string a1_3] 23 (0,0)) (by (with_reducible repeat first|apply zbN|apply zb1|apply zbA);exact BK101.out) hb);have n1_:=z_ (zbb (g:=gb102) (o:=.cells #[.int .i64 a2_0, .int .i64 a2_1, .int .i64 a2_2, .string a2_3] 23 (0,0)) (by (with_reducible repeat first|apply zbN|apply zb1|apply zbA);exact BK102.out) hb);have n2_:=z_ (zbb (g:=gb103) (o:=.cells #[.int .i64 0, .int .i64 0, .int .i64 0, .string (⟨#[]⟩:ByteArray)] 23 (0,0)) (by (with_reducible repeat first|apply zbN|apply zb1|apply zbA);exact BK103.out) hb);have n3_:=z_ (below_step (by repeat first|(with_reducible first|exact HB.out|apply zA|apply zN|apply z1|refine zS ?_ GE101.out|refine zS ?_ GE102.out|refine zS ?_ GE103.out)|exact HB.out) hb);clear BK101;clear BK102;clear BK103;clear HB;have BK101:=n0_;have BK102:=n1_;have BK103:=n2_;have HB:=n3_;clear n0_ n1_ n2_ n3_;(try clear hb);(try clear hb2);(try clear hk);(try clear hi);have hcz115_0:w114.cell? ⟨gb103,0,none⟩ = some (.int .i64 0):=(zce BK103.out 0).trans rfl;have hcz115_1:w114.cell? ⟨gb103,1,none⟩ = some (.int .i64 0):=(zce BK103.out 1).trans rfl;have hcz115_2:w114.cell? ⟨gb103,2,none⟩ = some (.int .i64 0):=(zce BK103.out 2).trans rfl;have hcz115_3:w114.cell? ⟨gb103,3,none⟩ = some (.string (⟨#[]⟩:ByteArray)):=(zce BK103.out 3).trans rfl;have hfz115_0:=zfz BK103.out 0;have hfz115_1:=zfz BK103.out 1;have hfz115_2:=zfz BK103.out 2;have hfz115_3:=zfz BK103.out 3))
   refine bodyPost_ret (results_ct rfl _ _ gb103 23 #[.int .i64 0, .int .i64 0, .int .i64 0, .string (⟨#[]⟩:ByteArray)] (0,0) _ rfl (by (with_reducible repeat first|apply zbN|apply zb1|apply zbA);refine zbp (cs:=#[.int .i64 0, .int .i64 0, .int .i64 0, .string (⟨#[]⟩:ByteArray)]) ?_ 3 _ rfl;(with_reducible repeat first|apply zbN|apply zb1|apply zbA);refine zbp (cs:=#[.int .i64 0, .int .i64 0, .int .i64 0, .string (⟨#[]⟩:ByteArray)]) ?_ 2 _ rfl;(with_reducible repeat first|apply zbN|apply zb1|apply zbA);refine zbp (cs:=#[.int .i64 0, .int .i64 0, .int .i64 0, .string (⟨#[]⟩:ByteArray)]) ?_ 1 _ rfl;(with_reducible repeat first|apply zbN|apply zb1|apply zbA);refine zbp (cs:=#[.int .i64 0, .int .i64 0, .int .i64 0, .string (⟨#[]⟩:ByteArray)]) ?_ 0 _ rfl;(with_reducible repeat first|apply zbN|apply zb1|apply zbA);exact BK103.out) Try.underlying23 rfl (by kernel_rfl)) rfl ?_
   exact ⟨by first|rfl|(simp [errW_none,errW_some] <;> rfl)|(simp [*,errW_none,errW_some] <;> rfl),by repeat first|(with_reducible first|exact HB.out|apply zA|apply zN|apply z1|refine zS ?_ GE101.out|refine zS ?_ GE102.out|refine zS ?_ GE103.out)|exact HB.out⟩
end Go.Proofs.Ytllkhdhanheieaa.R
