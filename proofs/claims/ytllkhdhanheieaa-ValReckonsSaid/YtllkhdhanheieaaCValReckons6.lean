-- Written by drive.py and pack.py (programs of this proof's own) through the kit's printer; not trusted: Lean checks it.
import Derived.Test.YtllkhdhanheieaaCValReckons1
import Derived.Test.YtllkhdhanheieaaCValReckons5
namespace Go.Proofs.Ytllkhdhanheieaa.R
open Go.RowKit Go.Proofs.YtllkhdhanheieaaW.PrintWords Go.Proofs.YtllkhdhanheieaaW.PrintLast Go.Proofs.YtllkhdhanheieaaW.PrintMore
attribute [local go_sem] max2_int min2_int max_two min_two max_three min_three max_four min_four
attribute [local go_sem high] own_gtr own_leq own_geq own_cell_set Option.map_some fld23_1
set_option linter.unusedVariables false
set_option linter.unusedSimpArgs false
def api_Value_both__val_number.f (a0_0:Int) (a0_1:Int) (a0_2:Int) (a0_3:ByteArray) (a0_4:Int) (a0_5:Int) (a0_6:Int) (a0_7:ByteArray)  : Option (Int × Int):=(val_number.f a0_0 a0_1 a0_2 a0_3).bind fun t103=>((val_number.f a0_4 a0_5 a0_6 a0_7).bind fun t104=>(some (t103,t104)))
def api_Value_both__val_number.T1:Bool × List (List Nat × List Nat):=(true,[([],[]),([],[]),([1],[1]),([0,2],[0,2]),([],[]),([],[]),([5],[5]),([4,6,3],[4,6]),([3,7],[3,7]),([8,7,0,1,2,3,4,5,6,7,8],[8])])
def api_Value_both__val_number.B1:List Nat:=[0,0,2,7,0,0,32,127,255,511]
theorem api_Value_both__val_number.tab1:rtab .any (opsOf Try.f38 1) = api_Value_both__val_number.T1:=by kernel_rfl
theorem api_Value_both__val_number.bits1:waitsOk api_Value_both__val_number.T1.2 api_Value_both__val_number.B1 = true:=by kernel_rfl
set_option maxHeartbeats 8000000 in
set_option maxRecDepth 100000 in
theorem api_Value_both__val_number.calls (a0_0:Int) (a0_1:Int) (a0_2:Int) (a0_3:ByteArray) (a0_4:Int) (a0_5:Int) (a0_6:Int) (a0_7:ByteArray)  (r1:Int) (r2:Int) (w:World) (h:api_Value_both__val_number.f a0_0 a0_1 a0_2 a0_3 a0_4 a0_5 a0_6 a0_7 = some (r1,r2)) :
  Calls Try.prog 38 #[.agg #[.int .i64 a0_0, .int .i64 a0_1, .int .i64 a0_2, .string a0_3, .int .i64 a0_4, .int .i64 a0_5, .int .i64 a0_6, .string a0_7], .func (.func 39) #[] #[]] w fun e w'=>e = .returned (.agg #[.int .i64 r1, .int .i64 r2]) ∧ Below w.heap.size w w':=by
 have hu58:=Try.underlying58
 have hu61:=Try.underlying61
 have hu23:=Try.underlying23
 have HB:=z_ (Below.refl w.heap.size w)
 have H:((val_number.f a0_0 a0_1 a0_2 a0_3).bind fun t103=>((val_number.f a0_4 a0_5 a0_6 a0_7).bind fun t104=>(some (t103,t104)))) = some (r1,r2):=h
 clear h
 replace H:=Option.bind_eq_some_iff.mp H
 obtain ⟨t103,A30,H⟩:=H
 replace H:((val_number.f a0_4 a0_5 a0_6 a0_7).bind fun t104=>(some (t103,t104))) = some (r1,r2):=H
 have A3:=z_ A30
 clear A30
 replace H:=Option.bind_eq_some_iff.mp H
 obtain ⟨t104,A40,H⟩:=H
 replace H:(some (t103,t104)) = some (r1,r2):=H
 have A4:=z_ A40
 clear A40
 simp only [Option.some.injEq,Prod.mk.injEq] at H
 obtain ⟨rfl,rfl⟩:=H
 go_enter Try.func38,Try.ntmps38
 try go_wp2_with (first|((with_reducible refine gate_dst (N:=2) rfl ?_);refine box_event ?hg (N:=2) ?hd (cs:=#[.int .i64 a0_0, .int .i64 a0_1, .int .i64 a0_2, .string a0_3, .int .i64 a0_4, .int .i64 a0_5, .int .i64 a0_6, .string a0_7]) (t:=58) ?hr ?_;(case hd=>rfl);(case hg=>rfl);(case hr=>first|(go_simp;done)|(go_simp;rfl));intro gb101 hg w5 hbox hb;have n0_:=z_ (below_step (by repeat first|(with_reducible first|exact HB.out|apply zA|apply zN|apply z1)|exact HB.out) hb);have n1_:=z_ (hbox);have n2_:=z_ ((by rw [hg];exact (zBs (by repeat first|(with_reducible first|exact HB.out|apply zA|apply zN|apply z1)|exact HB.out)):w.heap.size ≤ gb101));have n3_:=z_ ((by rw [hg];exact (zBs (by repeat first|(with_reducible first|exact HB.out|apply zA|apply zN|apply z1)|exact HB.out)):w.heap.size ≤ gb101));clear HB;have HB:=n0_;have BK101:=n1_;have GW101:=n2_;have GE101:=n3_;clear n0_ n1_ n2_ n3_;clear hb hbox hg)|((with_reducible refine gate_dst (N:=4) rfl ?_);refine box_event ?hg (N:=4) ?hd (cs:=#[.int .i64 0, .int .i64 0]) (t:=61) ?hr ?_;(case hd=>rfl);(case hg=>rfl);(case hr=>first|(go_simp;done)|(go_simp;rfl));intro gb102 hg w6 hbox hb;have n0_:=z_ (zbb (g:=gb101) (o:=.cells #[.int .i64 a0_0, .int .i64 a0_1, .int .i64 a0_2, .string a0_3, .int .i64 a0_4, .int .i64 a0_5, .int .i64 a0_6, .string a0_7] 58 (0,0)) (by (with_reducible repeat first|apply zbN|apply zb1|apply zbA);exact BK101.out) hb);have n1_:=z_ (below_step (by repeat first|(with_reducible first|exact HB.out|apply zA|apply zN|apply z1|refine zS ?_ GE101.out)|exact HB.out) hb);have n2_:=z_ (hbox);have n3_:=z_ ((by rw [hg];exact (zBs (by repeat first|(with_reducible first|exact HB.out|apply zA|apply zN|apply z1|refine zS ?_ GE101.out)|exact HB.out)):w.heap.size ≤ gb102));have n4_:=z_ ((by rw [hg];exact (zBs (by repeat first|(with_reducible first|exact HB.out|apply zA|apply zN|apply z1|refine zS ?_ GE101.out)|exact HB.out)):w.heap.size ≤ gb102));have n5_:=z_ ((by rw [hg];exact Nat.ne_of_lt (blk_lt (g:=gb101) (o:=.cells #[.int .i64 a0_0, .int .i64 a0_1, .int .i64 a0_2, .string a0_3, .int .i64 a0_4, .int .i64 a0_5, .int .i64 a0_6, .string a0_7] 58 (0,0)) (by (with_reducible repeat first|apply zbN|apply zb1|apply zbA);exact BK101.out)):gb101 ≠ gb102));have n6_:=z_ ((by rw [hg];exact Nat.ne_of_gt (blk_lt (g:=gb101) (o:=.cells #[.int .i64 a0_0, .int .i64 a0_1, .int .i64 a0_2, .string a0_3, .int .i64 a0_4, .int .i64 a0_5, .int .i64 a0_6, .string a0_7] 58 (0,0)) (by (with_reducible repeat first|apply zbN|apply zb1|apply zbA);exact BK101.out)):gb102 ≠ gb101));clear BK101;clear HB;have BK101:=n0_;have HB:=n1_;have BK102:=n2_;have GW102:=n3_;have GE102:=n4_;have NB101_102:=n5_;have NB102_101:=n6_;clear n0_ n1_ n2_ n3_ n4_ n5_ n6_;clear hb hbox hg))
 have n0_:=z_ (zb1 BK101.out)
 have n1_:=z_ (zb1 BK102.out)
 have n2_:=z_ (z1 HB.out)
 clear BK101
 clear BK102
 clear HB
 have BK101:=n0_
 have BK102:=n1_
 have HB:=n2_
 clear n0_ n1_ n2_
 refine start_ (n:=10) (S:=fun w'=>w'.cell? ⟨gb101,0,none⟩ = some (.int .i64 a0_0) ∧ w'.cell? ⟨gb101,1,none⟩ = some (.int .i64 a0_1) ∧ w'.cell? ⟨gb101,2,none⟩ = some (.int .i64 a0_2) ∧ w'.cell? ⟨gb101,3,none⟩ = some (.string a0_3) ∧ w'.cell? ⟨gb101,4,none⟩ = some (.int .i64 a0_4) ∧ w'.cell? ⟨gb101,5,none⟩ = some (.int .i64 a0_5) ∧ w'.cell? ⟨gb101,6,none⟩ = some (.int .i64 a0_6) ∧ w'.cell? ⟨gb101,7,none⟩ = some (.string a0_7)) (ds:=[]) #[false,false,false,false,false,false,false,false,false,false] (by kernel_rfl) rfl rfl ⟨(zce BK101.out 0).trans rfl,(zce BK101.out 1).trans rfl,(zce BK101.out 2).trans rfl,(zce BK101.out 3).trans rfl,(zce BK101.out 4).trans rfl,(zce BK101.out 5).trans rfl,(zce BK101.out 6).trans rfl,(zce BK101.out 7).trans rfl⟩ (fun hHeld=>?_);refine with_tabW api_Value_both__val_number.tab1 api_Value_both__val_number.bits1 (fun HT_ HW_=>?_)
 generalize w6.drew = w7 at BK101 BK102 HB hHeld ⊢
 refine pure_ (i:=0) (N:=some 5) (v:=?_) (a':=?_) #[true,false,false,false,false,false,false,false,false,false] rfl rfl (any_of HT_.out (by kernel_rfl)) (fun _ _ _ h=>h) (Or.inl ⟨by rfl,?_⟩) ?_ ?_
 rotate_left
 ·intro w'
  go_simp
  with_reducible rfl
 rotate_left
 ·simp only [Act.put,List.setIfInBounds_toArray,List.set_cons_zero,List.set_cons_succ,i64_w,i32_w]
  rfl
 refine pure_ (i:=1) (N:=some 6) (v:=?_) (a':=?_) #[true,true,false,false,false,false,false,false,false,false] rfl rfl (any_of HT_.out (by kernel_rfl)) (fun _ _ _ h=>h) (Or.inl ⟨by rfl,?_⟩) ?_ ?_
 rotate_left
 ·intro w'
  go_simp
  with_reducible rfl
 rotate_left
 ·simp only [Act.put,List.setIfInBounds_toArray,List.set_cons_zero,List.set_cons_succ,i64_w,i32_w]
  rfl
 refine pure_ (i:=4) (N:=some 9) (v:=?_) (a':=?_) #[true,true,false,false,true,false,false,false,false,false] rfl rfl (any_of HT_.out (by kernel_rfl)) (fun _ _ _ h=>h) (Or.inl ⟨by rfl,?_⟩) ?_ ?_
 rotate_left
 ·intro w'
  go_simp
  with_reducible rfl
 rotate_left
 ·simp only [Act.put,List.setIfInBounds_toArray,List.set_cons_zero,List.set_cons_succ,i64_w,i32_w]
  rfl
 refine pure_ (i:=5) (N:=some 10) (v:=?_) (a':=?_) #[true,true,false,false,true,true,false,false,false,false] rfl rfl (any_of HT_.out (by kernel_rfl)) (fun _ _ _ h=>h) (Or.inl ⟨by rfl,?_⟩) ?_ ?_
 rotate_left
 ·intro w'
  go_simp
  with_reducible rfl
 rotate_left
 ·simp only [Act.put,List.setIfInBounds_toArray,List.set_cons_zero,List.set_cons_succ,i64_w,i32_w]
  rfl
 refine take_ (i:=2) (N:=some 7) (v:=?_) (a':=?_) #[true,true,true,false,true,true,false,false,false,false] rfl rfl (take_ofW HT_.out HW_.out (by kernel_rfl)) (fun _ _ _ h=>h) (Or.inl ⟨by rfl,?_⟩) hHeld ?_ ?_
 rotate_left
 ·rintro w' ⟨s0,s1,s2,s3,s4,s5,s6,s7⟩
  go_simp
  with_reducible rfl
 rotate_left
 ·simp only [Act.put,List.setIfInBounds_toArray,List.set_cons_zero,List.set_cons_succ,i64_w,i32_w]
  rfl
 refine take_ (i:=6) (N:=some 11) (v:=?_) (a':=?_) #[true,true,true,false,true,true,true,false,false,false] rfl rfl (take_ofW HT_.out HW_.out (by kernel_rfl)) (fun _ _ _ h=>h) (Or.inl ⟨by rfl,?_⟩) hHeld ?_ ?_
 rotate_left
 ·rintro w' ⟨s0,s1,s2,s3,s4,s5,s6,s7⟩
  go_simp
  with_reducible rfl
 rotate_left
 ·simp only [Act.put,List.setIfInBounds_toArray,List.set_cons_zero,List.set_cons_succ,i64_w,i32_w]
  rfl
 refine one_ (i:=3) (N:=some 8) #[true,true,true,true,true,true,true,false,false,false] rfl rfl (one_of HT_.out (by kernel_rfl)) (by decide) (fun K hK=>?_)
 refine goesd_ Try.func39 (by kernel_rfl) rfl #[.agg #[.int .i64 a0_0, .int .i64 a0_1, .int .i64 a0_2, .string a0_3]] (by rfl) rfl rfl rfl (by (try simp only [List.map_toArray,List.map_cons,List.map_nil]);first|done|rfl|(simp only [List.length_drop,List.length_take];rfl)) ?_
 with_reducible refine (val_number.calls a0_0 a0_1 a0_2 a0_3 t103 _ A3.out).mono ?_
 rintro e w8 ⟨rfl,hb⟩
 refine ⟨_,rfl,?_⟩
 have n0_:=z_ (zbb (g:=gb101) (o:=.cells #[.int .i64 a0_0, .int .i64 a0_1, .int .i64 a0_2, .string a0_3, .int .i64 a0_4, .int .i64 a0_5, .int .i64 a0_6, .string a0_7] 58 (0,0)) (by (with_reducible repeat first|apply zbN|apply zb1|apply zbA);exact BK101.out) hb)
 have n1_:=z_ (zbb (g:=gb102) (o:=.cells #[.int .i64 0, .int .i64 0] 61 (0,0)) (by (with_reducible repeat first|apply zbN|apply zb1|apply zbA);exact BK102.out) hb)
 have n2_:=z_ (below_step (by repeat first|(with_reducible first|exact HB.out|apply zA|apply zN|apply z1|refine zS ?_ GE101.out|refine zS ?_ GE102.out)|exact HB.out) hb)
 clear BK101
 clear BK102
 clear HB
 have BK101:=n0_
 have BK102:=n1_
 have HB:=n2_
 clear n0_ n1_ n2_
 (try clear hb)
 (try clear hb2)
 (try clear hk)
 (try clear hi)
 refine hK.out _ _ ⟨(zce BK101.out 0).trans rfl,(zce BK101.out 1).trans rfl,(zce BK101.out 2).trans rfl,(zce BK101.out 3).trans rfl,(zce BK101.out 4).trans rfl,(zce BK101.out 5).trans rfl,(zce BK101.out 6).trans rfl,(zce BK101.out 7).trans rfl⟩ (fun hHeld=>?_)
 clear hK K
 refine norm_ (a':=?_) ?_ ?_
 rotate_left
 ·show Act.put _ (some 8) _ = _
  simp only [Act.put,List.setIfInBounds_toArray,List.set_cons_zero,List.set_cons_succ,i64_w,i32_w]
  rfl
 refine one_ (i:=7) (N:=some 12) #[true,true,true,true,true,true,true,true,false,false] rfl rfl (one_of HT_.out (by kernel_rfl)) (by decide) (fun K hK=>?_)
 refine goesd_ Try.func39 (by kernel_rfl) rfl #[.agg #[.int .i64 a0_4, .int .i64 a0_5, .int .i64 a0_6, .string a0_7]] (by rfl) rfl rfl rfl (by (try simp only [List.map_toArray,List.map_cons,List.map_nil]);first|done|rfl|(simp only [List.length_drop,List.length_take];rfl)) ?_
 with_reducible refine (val_number.calls a0_4 a0_5 a0_6 a0_7 t104 _ A4.out).mono ?_
 rintro e w9 ⟨rfl,hb⟩
 refine ⟨_,rfl,?_⟩
 have n0_:=z_ (zbb (g:=gb101) (o:=.cells #[.int .i64 a0_0, .int .i64 a0_1, .int .i64 a0_2, .string a0_3, .int .i64 a0_4, .int .i64 a0_5, .int .i64 a0_6, .string a0_7] 58 (0,0)) (by (with_reducible repeat first|apply zbN|apply zb1|apply zbA);exact BK101.out) hb)
 have n1_:=z_ (zbb (g:=gb102) (o:=.cells #[.int .i64 0, .int .i64 0] 61 (0,0)) (by (with_reducible repeat first|apply zbN|apply zb1|apply zbA);exact BK102.out) hb)
 have n2_:=z_ (below_step (by repeat first|(with_reducible first|exact HB.out|apply zA|apply zN|apply z1|refine zS ?_ GE101.out|refine zS ?_ GE102.out)|exact HB.out) hb)
 clear BK101
 clear BK102
 clear HB
 have BK101:=n0_
 have BK102:=n1_
 have HB:=n2_
 clear n0_ n1_ n2_
 (try clear hb)
 (try clear hb2)
 (try clear hk)
 (try clear hi)
 refine hK.out _ _ ⟨(zce BK101.out 0).trans rfl,(zce BK101.out 1).trans rfl,(zce BK101.out 2).trans rfl,(zce BK101.out 3).trans rfl,(zce BK101.out 4).trans rfl,(zce BK101.out 5).trans rfl,(zce BK101.out 6).trans rfl,(zce BK101.out 7).trans rfl⟩ (fun hHeld=>?_)
 clear hK K
 refine norm_ (a':=?_) ?_ ?_
 rotate_left
 ·show Act.put _ (some 12) _ = _
  simp only [Act.put,List.setIfInBounds_toArray,List.set_cons_zero,List.set_cons_succ,i64_w,i32_w]
  rfl
 refine pure_ (i:=8) (N:=some 13) (v:=?_) (a':=?_) #[true,true,true,true,true,true,true,true,true,false] rfl rfl (any_of HT_.out (by kernel_rfl)) (fun _ _ _ h=>h) (Or.inl ⟨by rfl,?_⟩) ?_ ?_
 rotate_left
 ·intro w'
  go_simp
  with_reducible rfl
 rotate_left
 ·simp only [Act.put,List.setIfInBounds_toArray,List.set_cons_zero,List.set_cons_succ,i64_w,i32_w]
  rfl
 refine one_ (i:=9) (N:=none) #[true,true,true,true,true,true,true,true,true,true] rfl rfl (one_of HT_.out (by kernel_rfl)) (by decide) (fun K hK=>?_)
 have hs10:w9.cell? ⟨gb102,0,none⟩ = some (.int .i64 0):=(zce BK102.out 0).trans rfl
 have hfs10:=zfz BK102.out 0
 have hns10_0:=NB101_102.out
 have hms10_0:=NB102_101.out
 have hs11:w9.cell? ⟨gb102,1,none⟩ = some (.int .i64 0):=(zce BK102.out 1).trans rfl
 have hfs11:=zfz BK102.out 1
 have hns11_0:=NB101_102.out
 have hms11_0:=NB102_101.out
 refine skip_ (w1:=?_) (by rfl) rfl ?_ ?_
 rotate_left
 ·go_simp
  rfl
 refine hK.out _ _ ⟨((cell_far (p:=⟨gb102,_,none⟩) NB101_102.out _).trans (((cell_far (p:=⟨gb102,_,none⟩) NB101_102.out _).trans (hHeld.1)))),((cell_far (p:=⟨gb102,_,none⟩) NB101_102.out _).trans (((cell_far (p:=⟨gb102,_,none⟩) NB101_102.out _).trans (hHeld.2.1)))),((cell_far (p:=⟨gb102,_,none⟩) NB101_102.out _).trans (((cell_far (p:=⟨gb102,_,none⟩) NB101_102.out _).trans (hHeld.2.2.1)))),((cell_far (p:=⟨gb102,_,none⟩) NB101_102.out _).trans (((cell_far (p:=⟨gb102,_,none⟩) NB101_102.out _).trans (hHeld.2.2.2.1)))),((cell_far (p:=⟨gb102,_,none⟩) NB101_102.out _).trans (((cell_far (p:=⟨gb102,_,none⟩) NB101_102.out _).trans (hHeld.2.2.2.2.1)))),((cell_far (p:=⟨gb102,_,none⟩) NB101_102.out _).trans (((cell_far (p:=⟨gb102,_,none⟩) NB101_102.out _).trans (hHeld.2.2.2.2.2.1)))),((cell_far (p:=⟨gb102,_,none⟩) NB101_102.out _).trans (((cell_far (p:=⟨gb102,_,none⟩) NB101_102.out _).trans (hHeld.2.2.2.2.2.2.1)))),((cell_far (p:=⟨gb102,_,none⟩) NB101_102.out _).trans (((cell_far (p:=⟨gb102,_,none⟩) NB101_102.out _).trans (hHeld.2.2.2.2.2.2.2))))⟩ (fun hHeld=>?_)
 clear hK K
 refine done_ (done_of HT_.out (by kernel_rfl)) ?_
 try go_wp2
 refine bodyPost_ret (results_cell_row rfl _ _ gb102 61 #[.int .i64 t103, .int .i64 t104] (0,0) _ rfl (by (with_reducible repeat first|apply zbN|apply zb1|apply zbA);refine zbp (cs:=#[.int .i64 t103, .int .i64 0]) ?_ 1 _ rfl;(with_reducible repeat first|apply zbN|apply zb1|apply zbA);refine zbp (cs:=#[.int .i64 0, .int .i64 0]) ?_ 0 _ rfl;(with_reducible repeat first|apply zbN|apply zb1|apply zbA);exact BK102.out) Try.underlying61 rfl (by kernel_rfl)) rfl ?_
 exact ⟨by first|rfl|(simp [errW_none,errW_some] <;> rfl)|(simp [*,errW_none,errW_some] <;> rfl),by repeat first|(with_reducible first|exact HB.out|apply zA|apply zN|apply z1|refine zS ?_ GE101.out|refine zS ?_ GE102.out)|exact HB.out⟩
end Go.Proofs.Ytllkhdhanheieaa.R
namespace Go.Proofs.Ytllkhdhanheieaa.R
open Go.RowKit Go.Proofs.YtllkhdhanheieaaW.PrintWords Go.Proofs.YtllkhdhanheieaaW.PrintLast Go.Proofs.YtllkhdhanheieaaW.PrintMore
attribute [local go_sem] max2_int min2_int max_two min_two max_three min_three max_four min_four
attribute [local go_sem high] own_gtr own_leq own_geq own_cell_set Option.map_some fld23_1
set_option linter.unusedVariables false
set_option linter.unusedSimpArgs false
def api_Value_both__val_whole.f (a0_0:Int) (a0_1:Int) (a0_2:Int) (a0_3:ByteArray) (a0_4:Int) (a0_5:Int) (a0_6:Int) (a0_7:ByteArray)  : Option (Int × Int):=none
end Go.Proofs.Ytllkhdhanheieaa.R
namespace Go.Proofs.Ytllkhdhanheieaa.R
open Go.RowKit Go.Proofs.YtllkhdhanheieaaW.PrintWords Go.Proofs.YtllkhdhanheieaaW.PrintLast Go.Proofs.YtllkhdhanheieaaW.PrintMore
attribute [local go_sem] max2_int min2_int max_two min_two max_three min_three max_four min_four
attribute [local go_sem high] own_gtr own_leq own_geq own_cell_set Option.map_some fld23_1
set_option linter.unusedVariables false
set_option linter.unusedSimpArgs false
def api_Value_both__val_part.f (a0_0:Int) (a0_1:Int) (a0_2:Int) (a0_3:ByteArray) (a0_4:Int) (a0_5:Int) (a0_6:Int) (a0_7:ByteArray)  : Option (Int × Int):=none
end Go.Proofs.Ytllkhdhanheieaa.R
namespace Go.Proofs.Ytllkhdhanheieaa.R
open Go.RowKit Go.Proofs.YtllkhdhanheieaaW.PrintWords Go.Proofs.YtllkhdhanheieaaW.PrintLast Go.Proofs.YtllkhdhanheieaaW.PrintMore
attribute [local go_sem] max2_int min2_int max_two min_two max_three min_three max_four min_four
attribute [local go_sem high] own_gtr own_leq own_geq own_cell_set Option.map_some fld23_1
set_option linter.unusedVariables false
set_option linter.unusedSimpArgs false
def val_Order.j0:Nat → Bool → Int → Int → Int → ByteArray → Int → Int → Int → ByteArray → Int → Int → Int → ByteArray → Option (Int)
 | 0,_,_,_,_,_,_,_,_,_,_,_,_,_=>none
 | k + 1,x20,x104000,x104001,x104002,x104003,x106000,x106001,x106002,x106003,x106004,x106005,x106006,x106007=>if x20 = true then ((api_Value_both__val_number.f x106000 x106001 x106002 x106003 x106004 x106005 x106006 x106007).bind fun bt106=>((val_order.f bt106.1 bt106.2).bind fun t108=>(some t108))) else (if x104000 = 3 then ((api_Value_both__val_whole.f x106000 x106001 x106002 x106003 x106004 x106005 x106006 x106007).bind fun bt109=>((val_order.f bt109.1 bt109.2).bind fun t111=>((api_Value_both__val_part.f x106000 x106001 x106002 x106003 x106004 x106005 x106006 x106007).bind fun bt112=>((val_order.f bt112.1 bt112.2).bind fun t114=>(none))))) else (none))
def val_Order.f (k:Nat) (a0_0:Int) (a0_1:Int) (a0_2:Int) (a0_3:ByteArray) (a1_0:Int) (a1_1:Int) (a1_2:Int) (a1_3:ByteArray):Option (Int):=if a0_0 = a1_0 then (if a0_0 = 1 then (val_Order.j0 k true a0_0 a0_1 a0_2 a0_3 a0_0 a0_1 a0_2 a0_3 a1_0 a1_1 a1_2 a1_3) else (val_Order.j0 k (a0_0 == 2) a0_0 a0_1 a0_2 a0_3 a0_0 a0_1 a0_2 a0_3 a1_0 a1_1 a1_2 a1_3)) else ((cmp_Compare_int.f a0_0 a1_0).bind fun t118=>(some t118))
theorem val_Order.mono_l:∀ k,(∀ y0 y1 y2 y3 y4 y5 y6 y7 y8 y9 y10 y11 y12,LeO (val_Order.j0 k y0 y1 y2 y3 y4 y5 y6 y7 y8 y9 y10 y11 y12) (val_Order.j0 (k + 1) y0 y1 y2 y3 y4 y5 y6 y7 y8 y9 y10 y11 y12))
 | 0=>fun _ _ _ _ _ _ _ _ _ _ _ _ _ r h=>by simp [val_Order.j0] at h
 | k + 1=>by
  have ih0:=val_Order.mono_l k
  ·intro y0 y1 y2 y3 y4 y5 y6 y7 y8 y9 y10 y11 y12
   unfold val_Order.j0
   repeat' first
   | (with_reducible exact ih0 _ _ _ _ _ _ _ _ _ _ _ _ _)
   | (with_reducible exact LeO.refl _)
   | (with_reducible exact LeO.none _)
   | (with_reducible refine LeO.ite ?_ ?_)
   | (with_reducible refine LeO.bind ?_ (fun _=>?_))
   | exact ih0 _ _ _ _ _ _ _ _ _ _ _ _ _
   | exact LeO.none _
   | refine LeO.ite ?_ ?_
   | refine LeO.bind ?_ (fun _=>?_)
theorem val_Order.mono:∀ a0 a1 a2 a3 a4 a5 a6 a7 k,LeO (val_Order.f k a0 a1 a2 a3 a4 a5 a6 a7) (val_Order.f (k + 1) a0 a1 a2 a3 a4 a5 a6 a7):=by
 intro a0 a1 a2 a3 a4 a5 a6 a7 k
 have ih0:=val_Order.mono_l k
 unfold val_Order.f
 repeat' first
   | (with_reducible exact ih0 _ _ _ _ _ _ _ _ _ _ _ _ _)
   | (with_reducible exact LeO.refl _)
   | (with_reducible exact LeO.none _)
   | (with_reducible refine LeO.ite ?_ ?_)
   | (with_reducible refine LeO.bind ?_ (fun _=>?_))
   | exact ih0 _ _ _ _ _ _ _ _ _ _ _ _ _
   | exact LeO.none _
   | refine LeO.ite ?_ ?_
   | refine LeO.bind ?_ (fun _=>?_)
set_option maxHeartbeats 8000000 in
set_option maxRecDepth 100000 in
theorem val_Order.calls (k:Nat) (a0_0:Int) (a0_1:Int) (a0_2:Int) (a0_3:ByteArray) (a1_0:Int) (a1_1:Int) (a1_2:Int) (a1_3:ByteArray) (r:Int) (w:World) (h:val_Order.f k a0_0 a0_1 a0_2 a0_3 a1_0 a1_1 a1_2 a1_3 = some r) :
  Calls Try.prog 23 #[.agg #[.int .i64 a0_0, .int .i64 a0_1, .int .i64 a0_2, .string a0_3], .agg #[.int .i64 a1_0, .int .i64 a1_1, .int .i64 a1_2, .string a1_3]] w fun e w'=>e = .returned (.int .i64 r) ∧ Below w.heap.size w w':=by
 have hu23:=Try.underlying23
 have hu58:=Try.underlying58
 have HB:=z_ (Below.refl w.heap.size w)
 have H:(if a0_0 = a1_0 then (if a0_0 = 1 then (val_Order.j0 k true a0_0 a0_1 a0_2 a0_3 a0_0 a0_1 a0_2 a0_3 a1_0 a1_1 a1_2 a1_3) else (val_Order.j0 k (a0_0 == 2) a0_0 a0_1 a0_2 a0_3 a0_0 a0_1 a0_2 a0_3 a1_0 a1_1 a1_2 a1_3)) else ((cmp_Compare_int.f a0_0 a1_0).bind fun t118=>(some t118))) = some r:=h
 clear h
 by_cases c3:a0_0 = a1_0
 ·rw [if_pos c3] at H
  have c3b0:(a0_0 == a1_0) = true:=beq_iff_eq.mpr c3
  have c3b1:(a0_0 != a1_0) = false:=bne_eq_false_iff_eq.mpr c3
  clear c3
  have HC4:=z_ H
  clear H
  go_enter Try.func23,Try.ntmps23
  go_upto_region 4 with (first|((with_reducible refine gate_dst (N:=2) rfl ?_);refine box_event ?hg (N:=2) ?hd (cs:=#[.int .i64 a0_0, .int .i64 a0_1, .int .i64 a0_2, .string a0_3]) (t:=23) ?hr ?_;(case hd=>rfl);(case hg=>rfl);(case hr=>first|(go_simp;done)|(go_simp;rfl));intro gb103 hg w5 hbox hb;have n0_:=z_ (below_step (by repeat first|(with_reducible first|exact HB.out|apply zA|apply zN|apply z1)|exact HB.out) hb);have n1_:=z_ (hbox);have n2_:=z_ ((by rw [hg];exact (zBs (by repeat first|(with_reducible first|exact HB.out|apply zA|apply zN|apply z1)|exact HB.out)):w.heap.size ≤ gb103));have n3_:=z_ ((by rw [hg];exact (zBs (by repeat first|(with_reducible first|exact HB.out|apply zA|apply zN|apply z1)|exact HB.out)):w.heap.size ≤ gb103));clear HB;have HB:=n0_;have BK103:=n1_;have GW103:=n2_;have GE103:=n3_;clear n0_ n1_ n2_ n3_;clear hb hbox hg)|((with_reducible refine gate_dst (N:=3) rfl ?_);refine box_event ?hg (N:=3) ?hd (cs:=#[.int .i64 a1_0, .int .i64 a1_1, .int .i64 a1_2, .string a1_3]) (t:=23) ?hr ?_;(case hd=>rfl);(case hg=>rfl);(case hr=>first|(go_simp;done)|(go_simp;rfl));intro gb104 hg w6 hbox hb;have n0_:=z_ (zbb (g:=gb103) (o:=.cells #[.int .i64 a0_0, .int .i64 a0_1, .int .i64 a0_2, .string a0_3] 23 (0,0)) (by (with_reducible repeat first|apply zbN|apply zb1|apply zbA);exact BK103.out) hb);have n1_:=z_ (below_step (by repeat first|(with_reducible first|exact HB.out|apply zA|apply zN|apply z1|refine zS ?_ GE103.out)|exact HB.out) hb);have n2_:=z_ (hbox);have n3_:=z_ ((by rw [hg];exact (zBs (by repeat first|(with_reducible first|exact HB.out|apply zA|apply zN|apply z1|refine zS ?_ GE103.out)|exact HB.out)):w.heap.size ≤ gb104));have n4_:=z_ ((by rw [hg];exact (zBs (by repeat first|(with_reducible first|exact HB.out|apply zA|apply zN|apply z1|refine zS ?_ GE103.out)|exact HB.out)):w.heap.size ≤ gb104));have n5_:=z_ ((by rw [hg];exact Nat.ne_of_lt (blk_lt (g:=gb103) (o:=.cells #[.int .i64 a0_0, .int .i64 a0_1, .int .i64 a0_2, .string a0_3] 23 (0,0)) (by (with_reducible repeat first|apply zbN|apply zb1|apply zbA);exact BK103.out)):gb103 ≠ gb104));have n6_:=z_ ((by rw [hg];exact Nat.ne_of_gt (blk_lt (g:=gb103) (o:=.cells #[.int .i64 a0_0, .int .i64 a0_1, .int .i64 a0_2, .string a0_3] 23 (0,0)) (by (with_reducible repeat first|apply zbN|apply zb1|apply zbA);exact BK103.out)):gb104 ≠ gb103));clear BK103;clear HB;have BK103:=n0_;have HB:=n1_;have BK104:=n2_;have GW104:=n3_;have GE104:=n4_;have NB103_104:=n5_;have NB104_103:=n6_;clear n0_ n1_ n2_ n3_ n4_ n5_ n6_;clear hb hbox hg;have hnb7:=NB103_104.out;have hnc7:=NB104_103.out;have hcz8_0:w6.cell? ⟨gb103,0,none⟩ = some (.int .i64 a0_0):=(zce BK103.out 0).trans rfl;have hcz8_1:w6.cell? ⟨gb103,1,none⟩ = some (.int .i64 a0_1):=(zce BK103.out 1).trans rfl;have hcz8_2:w6.cell? ⟨gb103,2,none⟩ = some (.int .i64 a0_2):=(zce BK103.out 2).trans rfl;have hcz8_3:w6.cell? ⟨gb103,3,none⟩ = some (.string a0_3):=(zce BK103.out 3).trans rfl;have hfz8_0:=zfz BK103.out 0;have hfz8_1:=zfz BK103.out 1;have hfz8_2:=zfz BK103.out 2;have hfz8_3:=zfz BK103.out 3;have hcz9_0:w6.cell? ⟨gb104,0,none⟩ = some (.int .i64 a1_0):=(zce BK104.out 0).trans rfl;have hcz9_1:w6.cell? ⟨gb104,1,none⟩ = some (.int .i64 a1_1):=(zce BK104.out 1).trans rfl;have hcz9_2:w6.cell? ⟨gb104,2,none⟩ = some (.int .i64 a1_2):=(zce BK104.out 2).trans rfl;have hcz9_3:w6.cell? ⟨gb104,3,none⟩ = some (.string a1_3):=(zce BK104.out 3).trans rfl;have hfz9_0:=zfz BK104.out 0;have hfz9_1:=zfz BK104.out 1;have hfz9_2:=zfz BK104.out 2;have hfz9_3:=zfz BK104.out 3)|((with_reducible refine gate_dst (N:=5) rfl ?_);refine box_event ?hg (N:=5) ?hd (cs:=#[.int .i64 0, .int .i64 0, .int .i64 0, .string (⟨#[]⟩:ByteArray), .int .i64 0, .int .i64 0, .int .i64 0, .string (⟨#[]⟩:ByteArray)]) (t:=58) ?hr ?_;(case hd=>rfl);(case hg=>rfl);(case hr=>first|(go_simp;done)|(go_simp;rfl));intro gb105 hg w10 hbox hb;have n0_:=z_ (zbb (g:=gb103) (o:=.cells #[.int .i64 a0_0, .int .i64 a0_1, .int .i64 a0_2, .string a0_3] 23 (0,0)) (by (with_reducible repeat first|apply zbN|apply zb1|apply zbA);exact BK103.out) hb);have n1_:=z_ (zbb (g:=gb104) (o:=.cells #[.int .i64 a1_0, .int .i64 a1_1, .int .i64 a1_2, .string a1_3] 23 (0,0)) (by (with_reducible repeat first|apply zbN|apply zb1|apply zbA);exact BK104.out) hb);have n2_:=z_ (below_step (by repeat first|(with_reducible first|exact HB.out|apply zA|apply zN|apply z1|refine zS ?_ GE103.out|refine zS ?_ GE104.out)|exact HB.out) hb);have n3_:=z_ (hbox);have n4_:=z_ ((by rw [hg];exact (zBs (by repeat first|(with_reducible first|exact HB.out|apply zA|apply zN|apply z1|refine zS ?_ GE103.out|refine zS ?_ GE104.out)|exact HB.out)):w.heap.size ≤ gb105));have n5_:=z_ ((by rw [hg];exact (zBs (by repeat first|(with_reducible first|exact HB.out|apply zA|apply zN|apply z1|refine zS ?_ GE103.out|refine zS ?_ GE104.out)|exact HB.out)):w.heap.size ≤ gb105));have n6_:=z_ ((by rw [hg];exact Nat.ne_of_lt (blk_lt (g:=gb103) (o:=.cells #[.int .i64 a0_0, .int .i64 a0_1, .int .i64 a0_2, .string a0_3] 23 (0,0)) (by (with_reducible repeat first|apply zbN|apply zb1|apply zbA);exact BK103.out)):gb103 ≠ gb105));have n7_:=z_ ((by rw [hg];exact Nat.ne_of_gt (blk_lt (g:=gb103) (o:=.cells #[.int .i64 a0_0, .int .i64 a0_1, .int .i64 a0_2, .string a0_3] 23 (0,0)) (by (with_reducible repeat first|apply zbN|apply zb1|apply zbA);exact BK103.out)):gb105 ≠ gb103));have n8_:=z_ ((by rw [hg];exact Nat.ne_of_lt (blk_lt (g:=gb104) (o:=.cells #[.int .i64 a1_0, .int .i64 a1_1, .int .i64 a1_2, .string a1_3] 23 (0,0)) (by (with_reducible repeat first|apply zbN|apply zb1|apply zbA);exact BK104.out)):gb104 ≠ gb105));have n9_:=z_ ((by rw [hg];exact Nat.ne_of_gt (blk_lt (g:=gb104) (o:=.cells #[.int .i64 a1_0, .int .i64 a1_1, .int .i64 a1_2, .string a1_3] 23 (0,0)) (by (with_reducible repeat first|apply zbN|apply zb1|apply zbA);exact BK104.out)):gb105 ≠ gb104));clear BK103;clear BK104;clear HB;have BK103:=n0_;have BK104:=n1_;have HB:=n2_;have BK105:=n3_;have GW105:=n4_;have GE105:=n5_;have NB103_105:=n6_;have NB105_103:=n7_;have NB104_105:=n8_;have NB105_104:=n9_;clear n0_ n1_ n2_ n3_ n4_ n5_ n6_ n7_ n8_ n9_;clear hb hbox hg;have hnb11:=NB105_103.out;have hnc11:=NB103_105.out;have hnb12:=NB105_104.out;have hnc12:=NB104_105.out;have hcz13_0:w10.cell? ⟨gb105,0,none⟩ = some (.int .i64 0):=(zce BK105.out 0).trans rfl;have hcz13_1:w10.cell? ⟨gb105,1,none⟩ = some (.int .i64 0):=(zce BK105.out 1).trans rfl;have hcz13_2:w10.cell? ⟨gb105,2,none⟩ = some (.int .i64 0):=(zce BK105.out 2).trans rfl;have hcz13_3:w10.cell? ⟨gb105,3,none⟩ = some (.string (⟨#[]⟩:ByteArray)):=(zce BK105.out 3).trans rfl;have hcz13_4:w10.cell? ⟨gb105,4,none⟩ = some (.int .i64 0):=(zce BK105.out 4).trans rfl;have hcz13_5:w10.cell? ⟨gb105,5,none⟩ = some (.int .i64 0):=(zce BK105.out 5).trans rfl;have hcz13_6:w10.cell? ⟨gb105,6,none⟩ = some (.int .i64 0):=(zce BK105.out 6).trans rfl;have hcz13_7:w10.cell? ⟨gb105,7,none⟩ = some (.string (⟨#[]⟩:ByteArray)):=(zce BK105.out 7).trans rfl;have hfz13_0:=zfz BK105.out 0;have hfz13_1:=zfz BK105.out 1;have hfz13_2:=zfz BK105.out 2;have hfz13_3:=zfz BK105.out 3;have hfz13_4:=zfz BK105.out 4;have hfz13_5:=zfz BK105.out 5;have hfz13_6:=zfz BK105.out 6;have hfz13_7:=zfz BK105.out 7;have hcz14_0:w10.cell? ⟨gb103,0,none⟩ = some (.int .i64 a0_0):=(zce BK103.out 0).trans rfl;have hcz14_1:w10.cell? ⟨gb103,1,none⟩ = some (.int .i64 a0_1):=(zce BK103.out 1).trans rfl;have hcz14_2:w10.cell? ⟨gb103,2,none⟩ = some (.int .i64 a0_2):=(zce BK103.out 2).trans rfl;have hcz14_3:w10.cell? ⟨gb103,3,none⟩ = some (.string a0_3):=(zce BK103.out 3).trans rfl;have hfz14_0:=zfz BK103.out 0;have hfz14_1:=zfz BK103.out 1;have hfz14_2:=zfz BK103.out 2;have hfz14_3:=zfz BK103.out 3;have hcz15_0:w10.cell? ⟨gb104,0,none⟩ = some (.int .i64 a1_0):=(zce BK104.out 0).trans rfl;have hcz15_1:w10.cell? ⟨gb104,1,none⟩ = some (.int .i64 a1_1):=(zce BK104.out 1).trans rfl;have hcz15_2:w10.cell? ⟨gb104,2,none⟩ = some (.int .i64 a1_2):=(zce BK104.out 2).trans rfl;have hcz15_3:w10.cell? ⟨gb104,3,none⟩ = some (.string a1_3):=(zce BK104.out 3).trans rfl;have hfz15_0:=zfz BK104.out 0;have hfz15_1:=zfz BK104.out 1;have hfz15_2:=zfz BK104.out 2;have hfz15_3:=zfz BK104.out 3))
  (try simp only [Act.put,List.setIfInBounds_toArray,List.set_cons_zero,List.set_cons_succ])
  go_cut [20] (fun v20 wc=>∃ (kq:Nat) (x20_3:Bool),v20 = .bool x20_3 ∧ Aside0 (val_Order.j0 kq x20_3 a0_0 a0_1 a0_2 a0_3 a0_0 a0_1 a0_2 a0_3 a1_0 a1_1 a1_2 a1_3 = some r) ∧ Aside0 (kq ≤ k) ∧ Aside0 (wc.heap[gb103]? = some (.cells #[.int .i64 a0_0, .int .i64 a0_1, .int .i64 a0_2, .string a0_3] 23 (0,0))) ∧ Aside0 (wc.heap[gb104]? = some (.cells #[.int .i64 a1_0, .int .i64 a1_1, .int .i64 a1_2, .string a1_3] 23 (0,0))) ∧ Aside0 (wc.heap[gb105]? = some (.cells #[.int .i64 a0_0, .int .i64 a0_1, .int .i64 a0_2, .string a0_3, .int .i64 a1_0, .int .i64 a1_1, .int .i64 a1_2, .string a1_3] 58 (0,0))) ∧ Aside0 (Below w.heap.size w wc))
  case first =>
   have H:=HC4.out
   clear HC4
   by_cases c16:a0_0 = 1
   ·rw [if_pos c16] at H
    have c16b0:(a0_0 == 1) = true:=beq_iff_eq.mpr c16
    have c16b1:(a0_0 != 1) = false:=bne_eq_false_iff_eq.mpr c16
    clear c16
    (first|rw [c16b0]|(simp only [i64_w,i32_w];rw [c16b0])|skip)
    have H':=z_ H
    clear H
    have hnb17:=NB103_104.out
    have hnc17:=NB104_103.out
    have hnb18:=NB103_105.out
    have hnc18:=NB105_103.out
    have hcz19_0:w10.cell? ⟨gb103,0,none⟩ = some (.int .i64 a0_0):=(zce BK103.out 0).trans rfl
    have hcz19_1:w10.cell? ⟨gb103,1,none⟩ = some (.int .i64 a0_1):=(zce BK103.out 1).trans rfl
    have hcz19_2:w10.cell? ⟨gb103,2,none⟩ = some (.int .i64 a0_2):=(zce BK103.out 2).trans rfl
    have hcz19_3:w10.cell? ⟨gb103,3,none⟩ = some (.string a0_3):=(zce BK103.out 3).trans rfl
    have hfz19_0:=zfz BK103.out 0
    have hfz19_1:=zfz BK103.out 1
    have hfz19_2:=zfz BK103.out 2
    have hfz19_3:=zfz BK103.out 3
    go_wp2
    go_meet
    case rel=>exact ⟨_,(true),(by first|rfl|(simp;done)|(simp [*];done)),H',⟨by first|omega|exact Nat.le_refl _⟩,⟨by (with_reducible repeat first|apply zbN|apply zb1|apply zbA);refine zbf ?_ NB103_105.out _;(with_reducible repeat first|apply zbN|apply zb1|apply zbA);refine zbf ?_ NB103_105.out _;(with_reducible repeat first|apply zbN|apply zb1|apply zbA);refine zbf ?_ NB103_105.out _;(with_reducible repeat first|apply zbN|apply zb1|apply zbA);refine zbf ?_ NB103_105.out _;(with_reducible repeat first|apply zbN|apply zb1|apply zbA);refine zbf ?_ NB103_105.out _;(with_reducible repeat first|apply zbN|apply zb1|apply zbA);refine zbf ?_ NB103_105.out _;(with_reducible repeat first|apply zbN|apply zb1|apply zbA);refine zbf ?_ NB103_105.out _;(with_reducible repeat first|apply zbN|apply zb1|apply zbA);refine zbf ?_ NB103_105.out _;(with_reducible repeat first|apply zbN|apply zb1|apply zbA);exact BK103.out⟩,⟨by (with_reducible repeat first|apply zbN|apply zb1|apply zbA);refine zbf ?_ NB104_105.out _;(with_reducible repeat first|apply zbN|apply zb1|apply zbA);refine zbf ?_ NB104_105.out _;(with_reducible repeat first|apply zbN|apply zb1|apply zbA);refine zbf ?_ NB104_105.out _;(with_reducible repeat first|apply zbN|apply zb1|apply zbA);refine zbf ?_ NB104_105.out _;(with_reducible repeat first|apply zbN|apply zb1|apply zbA);refine zbf ?_ NB104_105.out _;(with_reducible repeat first|apply zbN|apply zb1|apply zbA);refine zbf ?_ NB104_105.out _;(with_reducible repeat first|apply zbN|apply zb1|apply zbA);refine zbf ?_ NB104_105.out _;(with_reducible repeat first|apply zbN|apply zb1|apply zbA);refine zbf ?_ NB104_105.out _;(with_reducible repeat first|apply zbN|apply zb1|apply zbA);exact BK104.out⟩,⟨by (with_reducible repeat first|apply zbN|apply zb1|apply zbA);refine zbp (cs:=#[.int .i64 a0_0, .int .i64 a0_1, .int .i64 a0_2, .string a0_3, .int .i64 a1_0, .int .i64 a1_1, .int .i64 a1_2, .string (⟨#[]⟩:ByteArray)]) ?_ 7 _ rfl;(with_reducible repeat first|apply zbN|apply zb1|apply zbA);refine zbp (cs:=#[.int .i64 a0_0, .int .i64 a0_1, .int .i64 a0_2, .string a0_3, .int .i64 a1_0, .int .i64 a1_1, .int .i64 0, .string (⟨#[]⟩:ByteArray)]) ?_ 6 _ rfl;(with_reducible repeat first|apply zbN|apply zb1|apply zbA);refine zbp (cs:=#[.int .i64 a0_0, .int .i64 a0_1, .int .i64 a0_2, .string a0_3, .int .i64 a1_0, .int .i64 0, .int .i64 0, .string (⟨#[]⟩:ByteArray)]) ?_ 5 _ rfl;(with_reducible repeat first|apply zbN|apply zb1|apply zbA);refine zbp (cs:=#[.int .i64 a0_0, .int .i64 a0_1, .int .i64 a0_2, .string a0_3, .int .i64 0, .int .i64 0, .int .i64 0, .string (⟨#[]⟩:ByteArray)]) ?_ 4 _ rfl;(with_reducible repeat first|apply zbN|apply zb1|apply zbA);refine zbp (cs:=#[.int .i64 a0_0, .int .i64 a0_1, .int .i64 a0_2, .string (⟨#[]⟩:ByteArray), .int .i64 0, .int .i64 0, .int .i64 0, .string (⟨#[]⟩:ByteArray)]) ?_ 3 _ rfl;(with_reducible repeat first|apply zbN|apply zb1|apply zbA);refine zbp (cs:=#[.int .i64 a0_0, .int .i64 a0_1, .int .i64 0, .string (⟨#[]⟩:ByteArray), .int .i64 0, .int .i64 0, .int .i64 0, .string (⟨#[]⟩:ByteArray)]) ?_ 2 _ rfl;(with_reducible repeat first|apply zbN|apply zb1|apply zbA);refine zbp (cs:=#[.int .i64 a0_0, .int .i64 0, .int .i64 0, .string (⟨#[]⟩:ByteArray), .int .i64 0, .int .i64 0, .int .i64 0, .string (⟨#[]⟩:ByteArray)]) ?_ 1 _ rfl;(with_reducible repeat first|apply zbN|apply zb1|apply zbA);refine zbp (cs:=#[.int .i64 0, .int .i64 0, .int .i64 0, .string (⟨#[]⟩:ByteArray), .int .i64 0, .int .i64 0, .int .i64 0, .string (⟨#[]⟩:ByteArray)]) ?_ 0 _ rfl;(with_reducible repeat first|apply zbN|apply zb1|apply zbA);exact BK105.out⟩,⟨by repeat first|(with_reducible first|exact HB.out|apply zA|apply zN|apply z1|refine zS ?_ GE103.out|refine zS ?_ GE104.out|refine zS ?_ GE105.out)|exact HB.out⟩⟩
   ·rw [if_neg c16] at H
    have c16b0:(a0_0 == 1) = false:=beq_eq_false_iff_ne.mpr c16
    have c16b1:(a0_0 != 1) = true:=bne_iff_ne.mpr c16
    (first|rw [c16b0]|(simp only [i64_w,i32_w];rw [c16b0])|skip)
    have H':=z_ H
    clear H
    have hnb20:=NB103_104.out
    have hnc20:=NB104_103.out
    have hnb21:=NB103_105.out
    have hnc21:=NB105_103.out
    have hcz22_0:w10.cell? ⟨gb103,0,none⟩ = some (.int .i64 a0_0):=(zce BK103.out 0).trans rfl
    have hcz22_1:w10.cell? ⟨gb103,1,none⟩ = some (.int .i64 a0_1):=(zce BK103.out 1).trans rfl
    have hcz22_2:w10.cell? ⟨gb103,2,none⟩ = some (.int .i64 a0_2):=(zce BK103.out 2).trans rfl
    have hcz22_3:w10.cell? ⟨gb103,3,none⟩ = some (.string a0_3):=(zce BK103.out 3).trans rfl
    have hfz22_0:=zfz BK103.out 0
    have hfz22_1:=zfz BK103.out 1
    have hfz22_2:=zfz BK103.out 2
    have hfz22_3:=zfz BK103.out 3
    go_wp2
    go_meet
    case rel=>exact ⟨_,((a0_0 == 2)),(by first|rfl|(simp;done)|(simp [*];done)),H',⟨by first|omega|exact Nat.le_refl _⟩,⟨by (with_reducible repeat first|apply zbN|apply zb1|apply zbA);refine zbf ?_ NB103_105.out _;(with_reducible repeat first|apply zbN|apply zb1|apply zbA);refine zbf ?_ NB103_105.out _;(with_reducible repeat first|apply zbN|apply zb1|apply zbA);refine zbf ?_ NB103_105.out _;(with_reducible repeat first|apply zbN|apply zb1|apply zbA);refine zbf ?_ NB103_105.out _;(with_reducible repeat first|apply zbN|apply zb1|apply zbA);refine zbf ?_ NB103_105.out _;(with_reducible repeat first|apply zbN|apply zb1|apply zbA);refine zbf ?_ NB103_105.out _;(with_reducible repeat first|apply zbN|apply zb1|apply zbA);refine zbf ?_ NB103_105.out _;(with_reducible repeat first|apply zbN|apply zb1|apply zbA);refine zbf ?_ NB103_105.out _;(with_reducible repeat first|apply zbN|apply zb1|apply zbA);exact BK103.out⟩,⟨by (with_reducible repeat first|apply zbN|apply zb1|apply zbA);refine zbf ?_ NB104_105.out _;(with_reducible repeat first|apply zbN|apply zb1|apply zbA);refine zbf ?_ NB104_105.out _;(with_reducible repeat first|apply zbN|apply zb1|apply zbA);refine zbf ?_ NB104_105.out _;(with_reducible repeat first|apply zbN|apply zb1|apply zbA);refine zbf ?_ NB104_105.out _;(with_reducible repeat first|apply zbN|apply zb1|apply zbA);refine zbf ?_ NB104_105.out _;(with_reducible repeat first|apply zbN|apply zb1|apply zbA);refine zbf ?_ NB104_105.out _;(with_reducible repeat first|apply zbN|apply zb1|apply zbA);refine zbf ?_ NB104_105.out _;(with_reducible repeat first|apply zbN|apply zb1|apply zbA);refine zbf ?_ NB104_105.out _;(with_reducible repeat first|apply zbN|apply zb1|apply zbA);exact BK104.out⟩,⟨by (with_reducible repeat first|apply zbN|apply zb1|apply zbA);refine zbp (cs:=#[.int .i64 a0_0, .int .i64 a0_1, .int .i64 a0_2, .string a0_3, .int .i64 a1_0, .int .i64 a1_1, .int .i64 a1_2, .string (⟨#[]⟩:ByteArray)]) ?_ 7 _ rfl;(with_reducible repeat first|apply zbN|apply zb1|apply zbA);refine zbp (cs:=#[.int .i64 a0_0, .int .i64 a0_1, .int .i64 a0_2, .string a0_3, .int .i64 a1_0, .int .i64 a1_1, .int .i64 0, .string (⟨#[]⟩:ByteArray)]) ?_ 6 _ rfl;(with_reducible repeat first|apply zbN|apply zb1|apply zbA);refine zbp (cs:=#[.int .i64 a0_0, .int .i64 a0_1, .int .i64 a0_2, .string a0_3, .int .i64 a1_0, .int .i64 0, .int .i64 0, .string (⟨#[]⟩:ByteArray)]) ?_ 5 _ rfl;(with_reducible repeat first|apply zbN|apply zb1|apply zbA);refine zbp (cs:=#[.int .i64 a0_0, .int .i64 a0_1, .int .i64 a0_2, .string a0_3, .int .i64 0, .int .i64 0, .int .i64 0, .string (⟨#[]⟩:ByteArray)]) ?_ 4 _ rfl;(with_reducible repeat first|apply zbN|apply zb1|apply zbA);refine zbp (cs:=#[.int .i64 a0_0, .int .i64 a0_1, .int .i64 a0_2, .string (⟨#[]⟩:ByteArray), .int .i64 0, .int .i64 0, .int .i64 0, .string (⟨#[]⟩:ByteArray)]) ?_ 3 _ rfl;(with_reducible repeat first|apply zbN|apply zb1|apply zbA);refine zbp (cs:=#[.int .i64 a0_0, .int .i64 a0_1, .int .i64 0, .string (⟨#[]⟩:ByteArray), .int .i64 0, .int .i64 0, .int .i64 0, .string (⟨#[]⟩:ByteArray)]) ?_ 2 _ rfl;(with_reducible repeat first|apply zbN|apply zb1|apply zbA);refine zbp (cs:=#[.int .i64 a0_0, .int .i64 0, .int .i64 0, .string (⟨#[]⟩:ByteArray), .int .i64 0, .int .i64 0, .int .i64 0, .string (⟨#[]⟩:ByteArray)]) ?_ 1 _ rfl;(with_reducible repeat first|apply zbN|apply zb1|apply zbA);refine zbp (cs:=#[.int .i64 0, .int .i64 0, .int .i64 0, .string (⟨#[]⟩:ByteArray), .int .i64 0, .int .i64 0, .int .i64 0, .string (⟨#[]⟩:ByteArray)]) ?_ 0 _ rfl;(with_reducible repeat first|apply zbN|apply zb1|apply zbA);exact BK105.out⟩,⟨by repeat first|(with_reducible first|exact HB.out|apply zA|apply zN|apply z1|refine zS ?_ GE103.out|refine zS ?_ GE104.out|refine zS ?_ GE105.out)|exact HB.out⟩⟩
  case rest =>
   clear HC4
   try clear c1
   try clear c2
   try clear p2
   try clear c3
   try clear c3b0
   try clear c3b1
   try clear c7
   try clear c11
   try clear c12
   try clear c16
   try clear c16b0
   try clear c16b1
   try clear c17
   try clear c18
   try clear c20
   try clear c21
   try clear hcz13_0
   try clear hcz13_1
   try clear hcz13_2
   try clear hcz13_3
   try clear hcz13_4
   try clear hcz13_5
   try clear hcz13_6
   try clear hcz13_7
   try clear hcz14_0
   try clear hcz14_1
   try clear hcz14_2
   try clear hcz14_3
   try clear hcz15_0
   try clear hcz15_1
   try clear hcz15_2
   try clear hcz15_3
   try clear hcz19_0
   try clear hcz19_1
   try clear hcz19_2
   try clear hcz19_3
   try clear hcz22_0
   try clear hcz22_1
   try clear hcz22_2
   try clear hcz22_3
   try clear hcz8_0
   try clear hcz8_1
   try clear hcz8_2
   try clear hcz8_3
   try clear hcz9_0
   try clear hcz9_1
   try clear hcz9_2
   try clear hcz9_3
   try clear hfz13_0
   try clear hfz13_1
   try clear hfz13_2
   try clear hfz13_3
   try clear hfz13_4
   try clear hfz13_5
   try clear hfz13_6
   try clear hfz13_7
   try clear hfz14_0
   try clear hfz14_1
   try clear hfz14_2
   try clear hfz14_3
   try clear hfz15_0
   try clear hfz15_1
   try clear hfz15_2
   try clear hfz15_3
   try clear hfz19_0
   try clear hfz19_1
   try clear hfz19_2
   try clear hfz19_3
   try clear hfz22_0
   try clear hfz22_1
   try clear hfz22_2
   try clear hfz22_3
   try clear hfz8_0
   try clear hfz8_1
   try clear hfz8_2
   try clear hfz8_3
   try clear hfz9_0
   try clear hfz9_1
   try clear hfz9_2
   try clear hfz9_3
   obtain ⟨kq,x20_3,rfl,HA,HJ3,BK103,BK104,BK105,HB⟩:=hcut
   cases kq with
   | zero=>exact absurd HA.out (by simp [val_Order.j0])
   | succ kj3 =>
    have H:=HA.out
    clear HA
    simp only [val_Order.j0] at H
    by_cases c23:x20_3 = true
    ·subst c23
     have H1:((api_Value_both__val_number.f a0_0 a0_1 a0_2 a0_3 a1_0 a1_1 a1_2 a1_3).bind fun bt106=>((val_order.f bt106.1 bt106.2).bind fun t108=>(some t108))) = some r:=by rw [if_pos rfl] at H;exact H
     clear H
     have H:=H1
     clear H1
     replace H:=Option.bind_eq_some_iff.mp H
     obtain ⟨⟨t106,t107⟩,A240,H⟩:=H
     replace H:((val_order.f t106 t107).bind fun t108=>(some t108)) = some r:=H
     have A24:=z_ A240
     clear A240
     replace H:=Option.bind_eq_some_iff.mp H
     obtain ⟨t108,A250,H⟩:=H
     replace H:(some t108) = some r:=H
     have A25:=z_ A250
     clear A250
     obtain rfl:=Option.some.inj H
     have hnb26:=NB105_103.out
     have hnc26:=NB103_105.out
     have hnb27:=NB105_104.out
     have hnc27:=NB104_105.out
     have hcz28_0:wc.cell? ⟨gb105,0,none⟩ = some (.int .i64 a0_0):=(zce BK105.out 0).trans rfl
     have hcz28_1:wc.cell? ⟨gb105,1,none⟩ = some (.int .i64 a0_1):=(zce BK105.out 1).trans rfl
     have hcz28_2:wc.cell? ⟨gb105,2,none⟩ = some (.int .i64 a0_2):=(zce BK105.out 2).trans rfl
     have hcz28_3:wc.cell? ⟨gb105,3,none⟩ = some (.string a0_3):=(zce BK105.out 3).trans rfl
     have hcz28_4:wc.cell? ⟨gb105,4,none⟩ = some (.int .i64 a1_0):=(zce BK105.out 4).trans rfl
     have hcz28_5:wc.cell? ⟨gb105,5,none⟩ = some (.int .i64 a1_1):=(zce BK105.out 5).trans rfl
     have hcz28_6:wc.cell? ⟨gb105,6,none⟩ = some (.int .i64 a1_2):=(zce BK105.out 6).trans rfl
     have hcz28_7:wc.cell? ⟨gb105,7,none⟩ = some (.string a1_3):=(zce BK105.out 7).trans rfl
     have hfz28_0:=zfz BK105.out 0
     have hfz28_1:=zfz BK105.out 1
     have hfz28_2:=zfz BK105.out 2
     have hfz28_3:=zfz BK105.out 3
     have hfz28_4:=zfz BK105.out 4
     have hfz28_5:=zfz BK105.out 5
     have hfz28_6:=zfz BK105.out 6
     have hfz28_7:=zfz BK105.out 7
     go_wp2_with (first|((with_reducible refine gate_callee (f:=38) rfl ?_);refine goesL_ (some 30) rfl rfl Try.func38 (by kernel_rfl) rfl #[.agg #[.int .i64 a0_0, .int .i64 a0_1, .int .i64 a0_2, .string a0_3, .int .i64 a1_0, .int .i64 a1_1, .int .i64 a1_2, .string a1_3], .func (.func 39) #[] #[]] rfl (by (try simp only [List.map_toArray,List.map_cons,List.map_nil]);first|done|rfl|(simp only [List.length_drop,List.length_take];rfl)) ?_;(with_reducible refine (api_Value_both__val_number.calls a0_0 a0_1 a0_2 a0_3 a1_0 a1_1 a1_2 a1_3  t106 t107 _ A24.out).mono ?_);rintro e w29 ⟨rfl,hb⟩;refine ⟨_,rfl,?_⟩;have n0_:=z_ (zbb (g:=gb103) (o:=.cells #[.int .i64 a0_0, .int .i64 a0_1, .int .i64 a0_2, .string a0_3] 23 (0,0)) (by (with_reducible repeat first|apply zbN|apply zb1|apply zbA);exact BK103.out) hb);have n1_:=z_ (zbb (g:=gb104) (o:=.cells #[.int .i64 a1_0, .int .i64 a1_1, .int .i64 a1_2, .string a1_3] 23 (0,0)) (by (with_reducible repeat first|apply zbN|apply zb1|apply zbA);exact BK104.out) hb);have n2_:=z_ (zbb (g:=gb105) (o:=.cells #[.int .i64 a0_0, .int .i64 a0_1, .int .i64 a0_2, .string a0_3, .int .i64 a1_0, .int .i64 a1_1, .int .i64 a1_2, .string a1_3] 58 (0,0)) (by (with_reducible repeat first|apply zbN|apply zb1|apply zbA);exact BK105.out) hb);have n3_:=z_ (below_step (by repeat first|(with_reducible first|exact HB.out|apply zA|apply zN|apply z1|refine zS ?_ GE103.out|refine zS ?_ GE104.out|refine zS ?_ GE105.out)|exact HB.out) hb);clear BK103;clear BK104;clear BK105;clear HB;have BK103:=n0_;have BK104:=n1_;have BK105:=n2_;have HB:=n3_;clear n0_ n1_ n2_ n3_;(try clear hb);(try clear hb2);(try clear hk);(try clear hi))|((with_reducible refine gate_callee (f:=37) rfl ?_);refine goesL_ (some 31) rfl rfl Try.func37 (by kernel_rfl) rfl #[.agg #[.int .i64 t106, .int .i64 t107]] rfl (by (try simp only [List.map_toArray,List.map_cons,List.map_nil]);first|done|rfl|(simp only [List.length_drop,List.length_take];rfl)) ?_;(with_reducible refine (val_order.calls t106 t107 t108 _ A25.out).mono ?_);rintro e w30 ⟨rfl,hb⟩;refine ⟨_,rfl,?_⟩;have n0_:=z_ (zbb (g:=gb103) (o:=.cells #[.int .i64 a0_0, .int .i64 a0_1, .int .i64 a0_2, .string a0_3] 23 (0,0)) (by (with_reducible repeat first|apply zbN|apply zb1|apply zbA);exact BK103.out) hb);have n1_:=z_ (zbb (g:=gb104) (o:=.cells #[.int .i64 a1_0, .int .i64 a1_1, .int .i64 a1_2, .string a1_3] 23 (0,0)) (by (with_reducible repeat first|apply zbN|apply zb1|apply zbA);exact BK104.out) hb);have n2_:=z_ (zbb (g:=gb105) (o:=.cells #[.int .i64 a0_0, .int .i64 a0_1, .int .i64 a0_2, .string a0_3, .int .i64 a1_0, .int .i64 a1_1, .int .i64 a1_2, .string a1_3] 58 (0,0)) (by (with_reducible repeat first|apply zbN|apply zb1|apply zbA);exact BK105.out) hb);have n3_:=z_ (below_step (by repeat first|(with_reducible first|exact HB.out|apply zA|apply zN|apply z1|refine zS ?_ GE103.out|refine zS ?_ GE104.out|refine zS ?_ GE105.out)|exact HB.out) hb);clear BK103;clear BK104;clear BK105;clear HB;have BK103:=n0_;have BK104:=n1_;have BK105:=n2_;have HB:=n3_;clear n0_ n1_ n2_ n3_;(try clear hb);(try clear hb2);(try clear hk);(try clear hi)))
     go_ret
     exact ⟨by first|rfl|(simp [errW_none,errW_some] <;> rfl)|(simp [*,errW_none,errW_some] <;> rfl),by repeat first|(with_reducible first|exact HB.out|apply zA|apply zN|apply z1|refine zS ?_ GE103.out|refine zS ?_ GE104.out|refine zS ?_ GE105.out)|exact HB.out⟩
    ·replace c23:=Bool.eq_false_iff.mpr c23
     subst c23
     have H1:(if a0_0 = 3 then ((api_Value_both__val_whole.f a0_0 a0_1 a0_2 a0_3 a1_0 a1_1 a1_2 a1_3).bind fun bt109=>((val_order.f bt109.1 bt109.2).bind fun t111=>((api_Value_both__val_part.f a0_0 a0_1 a0_2 a0_3 a1_0 a1_1 a1_2 a1_3).bind fun bt112=>((val_order.f bt112.1 bt112.2).bind fun t114=>(none))))) else (none)) = some r:=by rw [if_neg (show ¬ (false = true) by decide)] at H;exact H
     clear H
     have H:=H1
     clear H1
     by_cases c31:a0_0 = 3
     ·rw [if_pos c31] at H
      have c31b0:(a0_0 == 3) = true:=beq_iff_eq.mpr c31
      have c31b1:(a0_0 != 3) = false:=bne_eq_false_iff_eq.mpr c31
      clear c31
      replace H:=Option.bind_eq_some_iff.mp H
      obtain ⟨⟨t109,t110⟩,A320,H⟩:=H
      replace H:((val_order.f t109 t110).bind fun t111=>((api_Value_both__val_part.f a0_0 a0_1 a0_2 a0_3 a1_0 a1_1 a1_2 a1_3).bind fun bt112=>((val_order.f bt112.1 bt112.2).bind fun t114=>(none)))) = some r:=H
      have A32:=z_ A320
      clear A320
      replace H:=Option.bind_eq_some_iff.mp H
      obtain ⟨t111,A330,H⟩:=H
      replace H:((api_Value_both__val_part.f a0_0 a0_1 a0_2 a0_3 a1_0 a1_1 a1_2 a1_3).bind fun bt112=>((val_order.f bt112.1 bt112.2).bind fun t114=>(none))) = some r:=H
      have A33:=z_ A330
      clear A330
      replace H:=Option.bind_eq_some_iff.mp H
      obtain ⟨⟨t112,t113⟩,A340,H⟩:=H
      replace H:((val_order.f t112 t113).bind fun t114=>(none)) = some r:=H
      have A34:=z_ A340
      clear A340
      replace H:=Option.bind_eq_some_iff.mp H
      obtain ⟨t114,A350,H⟩:=H
      replace H:(none) = some r:=H
      have A35:=z_ A350
      clear A350
      obtain ⟨y115,hy115⟩:∃ y_:List Int,y_ = (([t111,t114]:List Int)):=⟨_,rfl⟩
      replace H:(none) = some r:=by first|(rw [hy115];with_reducible exact H)|(have H2_:=(Option.bind_some _ _).symm.trans H;rw [hy115];with_reducible exact H2_)|(have H2_:=(Option.bind_some _ _).symm.trans H;with_reducible exact H2_)|with_reducible exact H|(rw [hy115];exact H)|exact H
      have Ny115:=z_ hy115
      clear hy115
      exact absurd H (by simp)
     ·rw [if_neg c31] at H
      have c31b0:(a0_0 == 3) = false:=beq_eq_false_iff_ne.mpr c31
      have c31b1:(a0_0 != 3) = true:=bne_iff_ne.mpr c31
      exact absurd H (by simp)
 ·rw [if_neg c3] at H
  have c3b0:(a0_0 == a1_0) = false:=beq_eq_false_iff_ne.mpr c3
  have c3b1:(a0_0 != a1_0) = true:=bne_iff_ne.mpr c3
  replace H:=Option.bind_eq_some_iff.mp H
  obtain ⟨t118,A360,H⟩:=H
  replace H:(some t118) = some r:=H
  have A36:=z_ A360
  clear A360
  obtain rfl:=Option.some.inj H
  go_enter Try.func23,Try.ntmps23
  go_wp2_with (first|((with_reducible refine gate_dst (N:=2) rfl ?_);refine box_event ?hg (N:=2) ?hd (cs:=#[.int .i64 a0_0, .int .i64 a0_1, .int .i64 a0_2, .string a0_3]) (t:=23) ?hr ?_;(case hd=>rfl);(case hg=>rfl);(case hr=>first|(go_simp;done)|(go_simp;rfl));intro gb103 hg w37 hbox hb;have n0_:=z_ (below_step (by repeat first|(with_reducible first|exact HB.out|apply zA|apply zN|apply z1)|exact HB.out) hb);have n1_:=z_ (hbox);have n2_:=z_ ((by rw [hg];exact (zBs (by repeat first|(with_reducible first|exact HB.out|apply zA|apply zN|apply z1)|exact HB.out)):w.heap.size ≤ gb103));have n3_:=z_ ((by rw [hg];exact (zBs (by repeat first|(with_reducible first|exact HB.out|apply zA|apply zN|apply z1)|exact HB.out)):w.heap.size ≤ gb103));clear HB;have HB:=n0_;have BK103:=n1_;have GW103:=n2_;have GE103:=n3_;clear n0_ n1_ n2_ n3_;clear hb hbox hg)|((with_reducible refine gate_dst (N:=3) rfl ?_);refine box_event ?hg (N:=3) ?hd (cs:=#[.int .i64 a1_0, .int .i64 a1_1, .int .i64 a1_2, .string a1_3]) (t:=23) ?hr ?_;(case hd=>rfl);(case hg=>rfl);(case hr=>first|(go_simp;done)|(go_simp;rfl));intro gb104 hg w38 hbox hb;have n0_:=z_ (zbb (g:=gb103) (o:=.cells #[.int .i64 a0_0, .int .i64 a0_1, .int .i64 a0_2, .string a0_3] 23 (0,0)) (by (with_reducible repeat first|apply zbN|apply zb1|apply zbA);exact BK103.out) hb);have n1_:=z_ (below_step (by repeat first|(with_reducible first|exact HB.out|apply zA|apply zN|apply z1|refine zS ?_ GE103.out)|exact HB.out) hb);have n2_:=z_ (hbox);have n3_:=z_ ((by rw [hg];exact (zBs (by repeat first|(with_reducible first|exact HB.out|apply zA|apply zN|apply z1|refine zS ?_ GE103.out)|exact HB.out)):w.heap.size ≤ gb104));have n4_:=z_ ((by rw [hg];exact (zBs (by repeat first|(with_reducible first|exact HB.out|apply zA|apply zN|apply z1|refine zS ?_ GE103.out)|exact HB.out)):w.heap.size ≤ gb104));have n5_:=z_ ((by rw [hg];exact Nat.ne_of_lt (blk_lt (g:=gb103) (o:=.cells #[.int .i64 a0_0, .int .i64 a0_1, .int .i64 a0_2, .string a0_3] 23 (0,0)) (by (with_reducible repeat first|apply zbN|apply zb1|apply zbA);exact BK103.out)):gb103 ≠ gb104));have n6_:=z_ ((by rw [hg];exact Nat.ne_of_gt (blk_lt (g:=gb103) (o:=.cells #[.int .i64 a0_0, .int .i64 a0_1, .int .i64 a0_2, .string a0_3] 23 (0,0)) (by (with_reducible repeat first|apply zbN|apply zb1|apply zbA);exact BK103.out)):gb104 ≠ gb103));clear BK103;clear HB;have BK103:=n0_;have HB:=n1_;have BK104:=n2_;have GW104:=n3_;have GE104:=n4_;have NB103_104:=n5_;have NB104_103:=n6_;clear n0_ n1_ n2_ n3_ n4_ n5_ n6_;clear hb hbox hg;have hnb39:=NB103_104.out;have hnc39:=NB104_103.out;have hcz40_0:w38.cell? ⟨gb103,0,none⟩ = some (.int .i64 a0_0):=(zce BK103.out 0).trans rfl;have hcz40_1:w38.cell? ⟨gb103,1,none⟩ = some (.int .i64 a0_1):=(zce BK103.out 1).trans rfl;have hcz40_2:w38.cell? ⟨gb103,2,none⟩ = some (.int .i64 a0_2):=(zce BK103.out 2).trans rfl;have hcz40_3:w38.cell? ⟨gb103,3,none⟩ = some (.string a0_3):=(zce BK103.out 3).trans rfl;have hfz40_0:=zfz BK103.out 0;have hfz40_1:=zfz BK103.out 1;have hfz40_2:=zfz BK103.out 2;have hfz40_3:=zfz BK103.out 3;have hcz41_0:w38.cell? ⟨gb104,0,none⟩ = some (.int .i64 a1_0):=(zce BK104.out 0).trans rfl;have hcz41_1:w38.cell? ⟨gb104,1,none⟩ = some (.int .i64 a1_1):=(zce BK104.out 1).trans rfl;have hcz41_2:w38.cell? ⟨gb104,2,none⟩ = some (.int .i64 a1_2):=(zce BK104.out 2).trans rfl;have hcz41_3:w38.cell? ⟨gb104,3,none⟩ = some (.string a1_3):=(zce BK104.out 3).trans rfl;have hfz41_0:=zfz BK104.out 0;have hfz41_1:=zfz BK104.out 1;have hfz41_2:=zfz BK104.out 2;have hfz41_3:=zfz BK104.out 3)|((with_reducible refine gate_dst (N:=5) rfl ?_);refine box_event ?hg (N:=5) ?hd (cs:=#[.int .i64 0, .int .i64 0, .int .i64 0, .string (⟨#[]⟩:ByteArray), .int .i64 0, .int .i64 0, .int .i64 0, .string (⟨#[]⟩:ByteArray)]) (t:=58) ?hr ?_;(case hd=>rfl);(case hg=>rfl);(case hr=>first|(go_simp;done)|(go_simp;rfl));intro gb105 hg w42 hbox hb;have n0_:=z_ (zbb (g:=gb103) (o:=.cells #[.int .i64 a0_0, .int .i64 a0_1, .int .i64 a0_2, .string a0_3] 23 (0,0)) (by (with_reducible repeat first|apply zbN|apply zb1|apply zbA);exact BK103.out) hb);have n1_:=z_ (zbb (g:=gb104) (o:=.cells #[.int .i64 a1_0, .int .i64 a1_1, .int .i64 a1_2, .string a1_3] 23 (0,0)) (by (with_reducible repeat first|apply zbN|apply zb1|apply zbA);exact BK104.out) hb);have n2_:=z_ (below_step (by repeat first|(with_reducible first|exact HB.out|apply zA|apply zN|apply z1|refine zS ?_ GE103.out|refine zS ?_ GE104.out)|exact HB.out) hb);have n3_:=z_ (hbox);have n4_:=z_ ((by rw [hg];exact (zBs (by repeat first|(with_reducible first|exact HB.out|apply zA|apply zN|apply z1|refine zS ?_ GE103.out|refine zS ?_ GE104.out)|exact HB.out)):w.heap.size ≤ gb105));have n5_:=z_ ((by rw [hg];exact (zBs (by repeat first|(with_reducible first|exact HB.out|apply zA|apply zN|apply z1|refine zS ?_ GE103.out|refine zS ?_ GE104.out)|exact HB.out)):w.heap.size ≤ gb105));have n6_:=z_ ((by rw [hg];exact Nat.ne_of_lt (blk_lt (g:=gb103) (o:=.cells #[.int .i64 a0_0, .int .i64 a0_1, .int .i64 a0_2, .string a0_3] 23 (0,0)) (by (with_reducible repeat first|apply zbN|apply zb1|apply zbA);exact BK103.out)):gb103 ≠ gb105));have n7_:=z_ ((by rw [hg];exact Nat.ne_of_gt (blk_lt (g:=gb103) (o:=.cells #[.int .i64 a0_0, .int .i64 a0_1, .int .i64 a0_2, .string a0_3] 23 (0,0)) (by (with_reducible repeat first|apply zbN|apply zb1|apply zbA);exact BK103.out)):gb105 ≠ gb103));have n8_:=z_ ((by rw [hg];exact Nat.ne_of_lt (blk_lt (g:=gb104) (o:=.cells #[.int .i64 a1_0, .int .i64 a1_1, .int .i64 a1_2, .string a1_3] 23 (0,0)) (by (with_reducible repeat first|apply zbN|apply zb1|apply zbA);exact BK104.out)):gb104 ≠ gb105));have n9_:=z_ ((by rw [hg];exact Nat.ne_of_gt (blk_lt (g:=gb104) (o:=.cells #[.int .i64 a1_0, .int .i64 a1_1, .int .i64 a1_2, .string a1_3] 23 (0,0)) (by (with_reducible repeat first|apply zbN|apply zb1|apply zbA);exact BK104.out)):gb105 ≠ gb104));clear BK103;clear BK104;clear HB;have BK103:=n0_;have BK104:=n1_;have HB:=n2_;have BK105:=n3_;have GW105:=n4_;have GE105:=n5_;have NB103_105:=n6_;have NB105_103:=n7_;have NB104_105:=n8_;have NB105_104:=n9_;clear n0_ n1_ n2_ n3_ n4_ n5_ n6_ n7_ n8_ n9_;clear hb hbox hg;have hnb43:=NB105_103.out;have hnc43:=NB103_105.out;have hnb44:=NB105_104.out;have hnc44:=NB104_105.out;have hcz45_0:w42.cell? ⟨gb105,0,none⟩ = some (.int .i64 0):=(zce BK105.out 0).trans rfl;have hcz45_1:w42.cell? ⟨gb105,1,none⟩ = some (.int .i64 0):=(zce BK105.out 1).trans rfl;have hcz45_2:w42.cell? ⟨gb105,2,none⟩ = some (.int .i64 0):=(zce BK105.out 2).trans rfl;have hcz45_3:w42.cell? ⟨gb105,3,none⟩ = some (.string (⟨#[]⟩:ByteArray)):=(zce BK105.out 3).trans rfl;have hcz45_4:w42.cell? ⟨gb105,4,none⟩ = some (.int .i64 0):=(zce BK105.out 4).trans rfl;have hcz45_5:w42.cell? ⟨gb105,5,none⟩ = some (.int .i64 0):=(zce BK105.out 5).trans rfl;have hcz45_6:w42.cell? ⟨gb105,6,none⟩ = some (.int .i64 0):=(zce BK105.out 6).trans rfl;have hcz45_7:w42.cell? ⟨gb105,7,none⟩ = some (.string (⟨#[]⟩:ByteArray)):=(zce BK105.out 7).trans rfl;have hfz45_0:=zfz BK105.out 0;have hfz45_1:=zfz BK105.out 1;have hfz45_2:=zfz BK105.out 2;have hfz45_3:=zfz BK105.out 3;have hfz45_4:=zfz BK105.out 4;have hfz45_5:=zfz BK105.out 5;have hfz45_6:=zfz BK105.out 6;have hfz45_7:=zfz BK105.out 7;have hcz46_0:w42.cell? ⟨gb103,0,none⟩ = some (.int .i64 a0_0):=(zce BK103.out 0).trans rfl;have hcz46_1:w42.cell? ⟨gb103,1,none⟩ = some (.int .i64 a0_1):=(zce BK103.out 1).trans rfl;have hcz46_2:w42.cell? ⟨gb103,2,none⟩ = some (.int .i64 a0_2):=(zce BK103.out 2).trans rfl;have hcz46_3:w42.cell? ⟨gb103,3,none⟩ = some (.string a0_3):=(zce BK103.out 3).trans rfl;have hfz46_0:=zfz BK103.out 0;have hfz46_1:=zfz BK103.out 1;have hfz46_2:=zfz BK103.out 2;have hfz46_3:=zfz BK103.out 3;have hcz47_0:w42.cell? ⟨gb104,0,none⟩ = some (.int .i64 a1_0):=(zce BK104.out 0).trans rfl;have hcz47_1:w42.cell? ⟨gb104,1,none⟩ = some (.int .i64 a1_1):=(zce BK104.out 1).trans rfl;have hcz47_2:w42.cell? ⟨gb104,2,none⟩ = some (.int .i64 a1_2):=(zce BK104.out 2).trans rfl;have hcz47_3:w42.cell? ⟨gb104,3,none⟩ = some (.string a1_3):=(zce BK104.out 3).trans rfl;have hfz47_0:=zfz BK104.out 0;have hfz47_1:=zfz BK104.out 1;have hfz47_2:=zfz BK104.out 2;have hfz47_3:=zfz BK104.out 3)|((with_reducible refine gate_callee (f:=36) rfl ?_);refine goesL_ (some 19) rfl rfl Try.func36 (by kernel_rfl) rfl #[.int .i64 a0_0, .int .i64 a1_0] rfl (by (try simp only [List.map_toArray,List.map_cons,List.map_nil]);first|done|rfl|(simp only [List.length_drop,List.length_take];rfl)) ?_;(with_reducible refine (cmp_Compare_int.calls a0_0 a1_0 t118 _ A36.out).mono ?_);rintro e w' ⟨rfl,⟨nd,rfl⟩⟩;refine ⟨_,rfl,?_⟩))
  go_ret
  exact ⟨by first|rfl|(simp [errW_none,errW_some] <;> rfl)|(simp [*,errW_none,errW_some] <;> rfl),by repeat first|(with_reducible first|exact HB.out|apply zA|apply zN|apply z1|refine zS ?_ GE103.out|refine zS ?_ GE104.out|refine zS ?_ GE105.out)|exact HB.out⟩
end Go.Proofs.Ytllkhdhanheieaa.R
namespace Go.Proofs.Ytllkhdhanheieaa.R
open Go.RowKit Go.Proofs.YtllkhdhanheieaaW.PrintWords Go.Proofs.YtllkhdhanheieaaW.PrintLast Go.Proofs.YtllkhdhanheieaaW.PrintMore
attribute [local go_sem] max2_int min2_int max_two min_two max_three min_three max_four min_four
attribute [local go_sem high] own_gtr own_leq own_geq own_cell_set Option.map_some fld23_1
set_option linter.unusedVariables false
set_option linter.unusedSimpArgs false
def val_known.f (a0_0:Int) (a0_1:Int) (a0_2:Int) (a0_3:ByteArray) (a1_0:Int) (a1_1:Int) (a1_2:Int) (a1_3:ByteArray):Option (Bool):=if a0_0 = a1_0 then (some (a0_0 != 0)) else (some false)
set_option maxHeartbeats 8000000 in
set_option maxRecDepth 100000 in
theorem val_known.calls (a0_0:Int) (a0_1:Int) (a0_2:Int) (a0_3:ByteArray) (a1_0:Int) (a1_1:Int) (a1_2:Int) (a1_3:ByteArray) (r:Bool) (w:World) (h:val_known.f a0_0 a0_1 a0_2 a0_3 a1_0 a1_1 a1_2 a1_3 = some r) :
  Calls Try.prog 44 #[.agg #[.int .i64 a0_0, .int .i64 a0_1, .int .i64 a0_2, .string a0_3], .agg #[.int .i64 a1_0, .int .i64 a1_1, .int .i64 a1_2, .string a1_3]] w fun e w'=>e = .returned (.bool r) ∧ Below w.heap.size w w':=by
 have hu23:=Try.underlying23
 have HB:=z_ (Below.refl w.heap.size w)
 have H:(if a0_0 = a1_0 then (some (a0_0 != 0)) else (some false)) = some r:=h
 clear h
 by_cases c3:a0_0 = a1_0
 ·rw [if_pos c3] at H
  have c3b0:(a0_0 == a1_0) = true:=beq_iff_eq.mpr c3
  have c3b1:(a0_0 != a1_0) = false:=bne_eq_false_iff_eq.mpr c3
  clear c3
  obtain rfl:=Option.some.inj H
  go_enter Try.func44,Try.ntmps44
  go_wp2_with (first|((with_reducible refine gate_dst (N:=2) rfl ?_);refine box_event ?hg (N:=2) ?hd (cs:=#[.int .i64 a0_0, .int .i64 a0_1, .int .i64 a0_2, .string a0_3]) (t:=23) ?hr ?_;(case hd=>rfl);(case hg=>rfl);(case hr=>first|(go_simp;done)|(go_simp;rfl));intro gb101 hg w4 hbox hb;have n0_:=z_ (below_step (by repeat first|(with_reducible first|exact HB.out|apply zA|apply zN|apply z1)|exact HB.out) hb);have n1_:=z_ (hbox);have n2_:=z_ ((by rw [hg];exact (zBs (by repeat first|(with_reducible first|exact HB.out|apply zA|apply zN|apply z1)|exact HB.out)):w.heap.size ≤ gb101));have n3_:=z_ ((by rw [hg];exact (zBs (by repeat first|(with_reducible first|exact HB.out|apply zA|apply zN|apply z1)|exact HB.out)):w.heap.size ≤ gb101));clear HB;have HB:=n0_;have BK101:=n1_;have GW101:=n2_;have GE101:=n3_;clear n0_ n1_ n2_ n3_;clear hb hbox hg)|((with_reducible refine gate_dst (N:=3) rfl ?_);refine box_event ?hg (N:=3) ?hd (cs:=#[.int .i64 a1_0, .int .i64 a1_1, .int .i64 a1_2, .string a1_3]) (t:=23) ?hr ?_;(case hd=>rfl);(case hg=>rfl);(case hr=>first|(go_simp;done)|(go_simp;rfl));intro gb102 hg w5 hbox hb;have n0_:=z_ (zbb (g:=gb101) (o:=.cells #[.int .i64 a0_0, .int .i64 a0_1, .int .i64 a0_2, .string a0_3] 23 (0,0)) (by (with_reducible repeat first|apply zbN|apply zb1|apply zbA);exact BK101.out) hb);have n1_:=z_ (below_step (by repeat first|(with_reducible first|exact HB.out|apply zA|apply zN|apply z1|refine zS ?_ GE101.out)|exact HB.out) hb);have n2_:=z_ (hbox);have n3_:=z_ ((by rw [hg];exact (zBs (by repeat first|(with_reducible first|exact HB.out|apply zA|apply zN|apply z1|refine zS ?_ GE101.out)|exact HB.out)):w.heap.size ≤ gb102));have n4_:=z_ ((by rw [hg];exact (zBs (by repeat first|(with_reducible first|exact HB.out|apply zA|apply zN|apply z1|refine zS ?_ GE101.out)|exact HB.out)):w.heap.size ≤ gb102));have n5_:=z_ ((by rw [hg];exact Nat.ne_of_lt (blk_lt (g:=gb101) (o:=.cells #[.int .i64 a0_0, .int .i64 a0_1, .int .i64 a0_2, .string a0_3] 23 (0,0)) (by (with_reducible repeat first|apply zbN|apply zb1|apply zbA);exact BK101.out)):gb101 ≠ gb102));have n6_:=z_ ((by rw [hg];exact Nat.ne_of_gt (blk_lt (g:=gb101) (o:=.cells #[.int .i64 a0_0, .int .i64 a0_1, .int .i64 a0_2, .string a0_3] 23 (0,0)) (by (with_reducible repeat first|apply zbN|apply zb1|apply zbA);exact BK101.out)):gb102 ≠ gb101));clear BK101;clear HB;have BK101:=n0_;have HB:=n1_;have BK102:=n2_;have GW102:=n3_;have GE102:=n4_;have NB101_102:=n5_;have NB102_101:=n6_;clear n0_ n1_ n2_ n3_ n4_ n5_ n6_;clear hb hbox hg;have hnb6:=NB101_102.out;have hnc6:=NB102_101.out;have hcz7_0:w5.cell? ⟨gb101,0,none⟩ = some (.int .i64 a0_0):=(zce BK101.out 0).trans rfl;have hcz7_1:w5.cell? ⟨gb101,1,none⟩ = some (.int .i64 a0_1):=(zce BK101.out 1).trans rfl;have hcz7_2:w5.cell? ⟨gb101,2,none⟩ = some (.int .i64 a0_2):=(zce BK101.out 2).trans rfl;have hcz7_3:w5.cell? ⟨gb101,3,none⟩ = some (.string a0_3):=(zce BK101.out 3).trans rfl;have hfz7_0:=zfz BK101.out 0;have hfz7_1:=zfz BK101.out 1;have hfz7_2:=zfz BK101.out 2;have hfz7_3:=zfz BK101.out 3;have hcz8_0:w5.cell? ⟨gb102,0,none⟩ = some (.int .i64 a1_0):=(zce BK102.out 0).trans rfl;have hcz8_1:w5.cell? ⟨gb102,1,none⟩ = some (.int .i64 a1_1):=(zce BK102.out 1).trans rfl;have hcz8_2:w5.cell? ⟨gb102,2,none⟩ = some (.int .i64 a1_2):=(zce BK102.out 2).trans rfl;have hcz8_3:w5.cell? ⟨gb102,3,none⟩ = some (.string a1_3):=(zce BK102.out 3).trans rfl;have hfz8_0:=zfz BK102.out 0;have hfz8_1:=zfz BK102.out 1;have hfz8_2:=zfz BK102.out 2;have hfz8_3:=zfz BK102.out 3))
  go_ret
  exact ⟨by first|rfl|(simp [errW_none,errW_some] <;> rfl)|(simp [*,errW_none,errW_some] <;> rfl),by repeat first|(with_reducible first|exact HB.out|apply zA|apply zN|apply z1|refine zS ?_ GE101.out|refine zS ?_ GE102.out)|exact HB.out⟩
 ·rw [if_neg c3] at H
  have c3b0:(a0_0 == a1_0) = false:=beq_eq_false_iff_ne.mpr c3
  have c3b1:(a0_0 != a1_0) = true:=bne_iff_ne.mpr c3
  obtain rfl:=Option.some.inj H
  go_enter Try.func44,Try.ntmps44
  go_wp2_with (first|((with_reducible refine gate_dst (N:=2) rfl ?_);refine box_event ?hg (N:=2) ?hd (cs:=#[.int .i64 a0_0, .int .i64 a0_1, .int .i64 a0_2, .string a0_3]) (t:=23) ?hr ?_;(case hd=>rfl);(case hg=>rfl);(case hr=>first|(go_simp;done)|(go_simp;rfl));intro gb101 hg w9 hbox hb;have n0_:=z_ (below_step (by repeat first|(with_reducible first|exact HB.out|apply zA|apply zN|apply z1)|exact HB.out) hb);have n1_:=z_ (hbox);have n2_:=z_ ((by rw [hg];exact (zBs (by repeat first|(with_reducible first|exact HB.out|apply zA|apply zN|apply z1)|exact HB.out)):w.heap.size ≤ gb101));have n3_:=z_ ((by rw [hg];exact (zBs (by repeat first|(with_reducible first|exact HB.out|apply zA|apply zN|apply z1)|exact HB.out)):w.heap.size ≤ gb101));clear HB;have HB:=n0_;have BK101:=n1_;have GW101:=n2_;have GE101:=n3_;clear n0_ n1_ n2_ n3_;clear hb hbox hg)|((with_reducible refine gate_dst (N:=3) rfl ?_);refine box_event ?hg (N:=3) ?hd (cs:=#[.int .i64 a1_0, .int .i64 a1_1, .int .i64 a1_2, .string a1_3]) (t:=23) ?hr ?_;(case hd=>rfl);(case hg=>rfl);(case hr=>first|(go_simp;done)|(go_simp;rfl));intro gb102 hg w10 hbox hb;have n0_:=z_ (zbb (g:=gb101) (o:=.cells #[.int .i64 a0_0, .int .i64 a0_1, .int .i64 a0_2, .string a0_3] 23 (0,0)) (by (with_reducible repeat first|apply zbN|apply zb1|apply zbA);exact BK101.out) hb);have n1_:=z_ (below_step (by repeat first|(with_reducible first|exact HB.out|apply zA|apply zN|apply z1|refine zS ?_ GE101.out)|exact HB.out) hb);have n2_:=z_ (hbox);have n3_:=z_ ((by rw [hg];exact (zBs (by repeat first|(with_reducible first|exact HB.out|apply zA|apply zN|apply z1|refine zS ?_ GE101.out)|exact HB.out)):w.heap.size ≤ gb102));have n4_:=z_ ((by rw [hg];exact (zBs (by repeat first|(with_reducible first|exact HB.out|apply zA|apply zN|apply z1|refine zS ?_ GE101.out)|exact HB.out)):w.heap.size ≤ gb102));have n5_:=z_ ((by rw [hg];exact Nat.ne_of_lt (blk_lt (g:=gb101) (o:=.cells #[.int .i64 a0_0, .int .i64 a0_1, .int .i64 a0_2, .string a0_3] 23 (0,0)) (by (with_reducible repeat first|apply zbN|apply zb1|apply zbA);exact BK101.out)):gb101 ≠ gb102));have n6_:=z_ ((by rw [hg];exact Nat.ne_of_gt (blk_lt (g:=gb101) (o:=.cells #[.int .i64 a0_0, .int .i64 a0_1, .int .i64 a0_2, .string a0_3] 23 (0,0)) (by (with_reducible repeat first|apply zbN|apply zb1|apply zbA);exact BK101.out)):gb102 ≠ gb101));clear BK101;clear HB;have BK101:=n0_;have HB:=n1_;have BK102:=n2_;have GW102:=n3_;have GE102:=n4_;have NB101_102:=n5_;have NB102_101:=n6_;clear n0_ n1_ n2_ n3_ n4_ n5_ n6_;clear hb hbox hg;have hnb11:=NB101_102.out;have hnc11:=NB102_101.out;have hcz12_0:w10.cell? ⟨gb101,0,none⟩ = some (.int .i64 a0_0):=(zce BK101.out 0).trans rfl;have hcz12_1:w10.cell? ⟨gb101,1,none⟩ = some (.int .i64 a0_1):=(zce BK101.out 1).trans rfl;have hcz12_2:w10.cell? ⟨gb101,2,none⟩ = some (.int .i64 a0_2):=(zce BK101.out 2).trans rfl;have hcz12_3:w10.cell? ⟨gb101,3,none⟩ = some (.string a0_3):=(zce BK101.out 3).trans rfl;have hfz12_0:=zfz BK101.out 0;have hfz12_1:=zfz BK101.out 1;have hfz12_2:=zfz BK101.out 2;have hfz12_3:=zfz BK101.out 3;have hcz13_0:w10.cell? ⟨gb102,0,none⟩ = some (.int .i64 a1_0):=(zce BK102.out 0).trans rfl;have hcz13_1:w10.cell? ⟨gb102,1,none⟩ = some (.int .i64 a1_1):=(zce BK102.out 1).trans rfl;have hcz13_2:w10.cell? ⟨gb102,2,none⟩ = some (.int .i64 a1_2):=(zce BK102.out 2).trans rfl;have hcz13_3:w10.cell? ⟨gb102,3,none⟩ = some (.string a1_3):=(zce BK102.out 3).trans rfl;have hfz13_0:=zfz BK102.out 0;have hfz13_1:=zfz BK102.out 1;have hfz13_2:=zfz BK102.out 2;have hfz13_3:=zfz BK102.out 3))
  go_ret
  exact ⟨by first|rfl|(simp [errW_none,errW_some] <;> rfl)|(simp [*,errW_none,errW_some] <;> rfl),by repeat first|(with_reducible first|exact HB.out|apply zA|apply zN|apply z1|refine zS ?_ GE101.out|refine zS ?_ GE102.out)|exact HB.out⟩
end Go.Proofs.Ytllkhdhanheieaa.R
namespace Go.Proofs.Ytllkhdhanheieaa.R
open Go.RowKit Go.Proofs.YtllkhdhanheieaaW.PrintWords Go.Proofs.YtllkhdhanheieaaW.PrintLast Go.Proofs.YtllkhdhanheieaaW.PrintMore
attribute [local go_sem] max2_int min2_int max_two min_two max_three min_three max_four min_four
attribute [local go_sem high] own_gtr own_leq own_geq own_cell_set Option.map_some fld23_1
set_option linter.unusedVariables false
set_option linter.unusedSimpArgs false
def val_Less.f (k:Nat) (a0_0:Int) (a0_1:Int) (a0_2:Int) (a0_3:ByteArray) (a1_0:Int) (a1_1:Int) (a1_2:Int) (a1_3:ByteArray):Option (Bool × Bool):=(val_known.f a0_0 a0_1 a0_2 a0_3 a1_0 a1_1 a1_2 a1_3).bind fun t103=>(if t103 = true then ((val_Order.f k a0_0 a0_1 a0_2 a0_3 a1_0 a1_1 a1_2 a1_3).bind fun t104=>(some (decide (t104 < 0),t103))) else (some (false,t103)))
theorem val_Less.mono:∀ a0 a1 a2 a3 a4 a5 a6 a7 k,LeO (val_Less.f k a0 a1 a2 a3 a4 a5 a6 a7) (val_Less.f (k + 1) a0 a1 a2 a3 a4 a5 a6 a7):=by
 intro a0 a1 a2 a3 a4 a5 a6 a7 k
 unfold val_Less.f
 repeat' first
   | (with_reducible exact val_Order.mono _ _ _ _ _ _ _ _ _)
   | (with_reducible exact LeO.refl _)
   | (with_reducible exact LeO.none _)
   | (with_reducible refine LeO.ite ?_ ?_)
   | (with_reducible refine LeO.bind ?_ (fun _=>?_))
   | exact val_Order.mono _ _ _ _ _ _ _ _ _
   | exact LeO.none _
   | refine LeO.ite ?_ ?_
   | refine LeO.bind ?_ (fun _=>?_)
set_option maxHeartbeats 8000000 in
set_option maxRecDepth 100000 in
theorem val_Less.calls (k:Nat) (a0_0:Int) (a0_1:Int) (a0_2:Int) (a0_3:ByteArray) (a1_0:Int) (a1_1:Int) (a1_2:Int) (a1_3:ByteArray) (r1:Bool) (r2:Bool) (w:World) (h:val_Less.f k a0_0 a0_1 a0_2 a0_3 a1_0 a1_1 a1_2 a1_3 = some (r1,r2)) :
  Calls Try.prog 24 #[.agg #[.int .i64 a0_0, .int .i64 a0_1, .int .i64 a0_2, .string a0_3], .agg #[.int .i64 a1_0, .int .i64 a1_1, .int .i64 a1_2, .string a1_3]] w fun e w'=>e = .returned (.tuple #[.bool r1, .bool r2]) ∧ Below w.heap.size w w':=by
 have hu23:=Try.underlying23
 have HB:=z_ (Below.refl w.heap.size w)
 have H:((val_known.f a0_0 a0_1 a0_2 a0_3 a1_0 a1_1 a1_2 a1_3).bind fun t103=>(if t103 = true then ((val_Order.f k a0_0 a0_1 a0_2 a0_3 a1_0 a1_1 a1_2 a1_3).bind fun t104=>(some (decide (t104 < 0),t103))) else (some (false,t103)))) = some (r1,r2):=h
 clear h
 replace H:=Option.bind_eq_some_iff.mp H
 obtain ⟨t103,A30,H⟩:=H
 replace H:(if t103 = true then ((val_Order.f k a0_0 a0_1 a0_2 a0_3 a1_0 a1_1 a1_2 a1_3).bind fun t104=>(some (decide (t104 < 0),t103))) else (some (false,t103))) = some (r1,r2):=H
 have A3:=z_ A30
 clear A30
 by_cases c4:t103 = true
 ·subst c4
  have H1:((val_Order.f k a0_0 a0_1 a0_2 a0_3 a1_0 a1_1 a1_2 a1_3).bind fun t104=>(some (decide (t104 < 0),true))) = some (r1,r2):=by rw [if_pos rfl] at H;exact H
  clear H
  have H:=H1
  clear H1
  replace H:=Option.bind_eq_some_iff.mp H
  obtain ⟨t104,A50,H⟩:=H
  replace H:(some (decide (t104 < 0),true)) = some (r1,r2):=H
  have A5:=z_ A50
  clear A50
  simp only [Option.some.injEq,Prod.mk.injEq] at H
  obtain ⟨rfl,rfl⟩:=H
  go_enter Try.func24,Try.ntmps24
  go_wp2_with (first|((with_reducible refine gate_dst (N:=2) rfl ?_);refine box_event ?hg (N:=2) ?hd (cs:=#[.int .i64 a0_0, .int .i64 a0_1, .int .i64 a0_2, .string a0_3]) (t:=23) ?hr ?_;(case hd=>rfl);(case hg=>rfl);(case hr=>first|(go_simp;done)|(go_simp;rfl));intro gb101 hg w6 hbox hb;have n0_:=z_ (below_step (by repeat first|(with_reducible first|exact HB.out|apply zA|apply zN|apply z1)|exact HB.out) hb);have n1_:=z_ (hbox);have n2_:=z_ ((by rw [hg];exact (zBs (by repeat first|(with_reducible first|exact HB.out|apply zA|apply zN|apply z1)|exact HB.out)):w.heap.size ≤ gb101));have n3_:=z_ ((by rw [hg];exact (zBs (by repeat first|(with_reducible first|exact HB.out|apply zA|apply zN|apply z1)|exact HB.out)):w.heap.size ≤ gb101));clear HB;have HB:=n0_;have BK101:=n1_;have GW101:=n2_;have GE101:=n3_;clear n0_ n1_ n2_ n3_;clear hb hbox hg)|((with_reducible refine gate_dst (N:=3) rfl ?_);refine box_event ?hg (N:=3) ?hd (cs:=#[.int .i64 a1_0, .int .i64 a1_1, .int .i64 a1_2, .string a1_3]) (t:=23) ?hr ?_;(case hd=>rfl);(case hg=>rfl);(case hr=>first|(go_simp;done)|(go_simp;rfl));intro gb102 hg w7 hbox hb;have n0_:=z_ (zbb (g:=gb101) (o:=.cells #[.int .i64 a0_0, .int .i64 a0_1, .int .i64 a0_2, .string a0_3] 23 (0,0)) (by (with_reducible repeat first|apply zbN|apply zb1|apply zbA);exact BK101.out) hb);have n1_:=z_ (below_step (by repeat first|(with_reducible first|exact HB.out|apply zA|apply zN|apply z1|refine zS ?_ GE101.out)|exact HB.out) hb);have n2_:=z_ (hbox);have n3_:=z_ ((by rw [hg];exact (zBs (by repeat first|(with_reducible first|exact HB.out|apply zA|apply zN|apply z1|refine zS ?_ GE101.out)|exact HB.out)):w.heap.size ≤ gb102));have n4_:=z_ ((by rw [hg];exact (zBs (by repeat first|(with_reducible first|exact HB.out|apply zA|apply zN|apply z1|refine zS ?_ GE101.out)|exact HB.out)):w.heap.size ≤ gb102));have n5_:=z_ ((by rw [hg];exact Nat.ne_of_lt (blk_lt (g:=gb101) (o:=.cells #[.int .i64 a0_0, .int .i64 a0_1, .int .i64 a0_2, .string a0_3] 23 (0,0)) (by (with_reducible repeat first|apply zbN|apply zb1|apply zbA);exact BK101.out)):gb101 ≠ gb102));have n6_:=z_ ((by rw [hg];exact Nat.ne_of_gt (blk_lt (g:=gb101) (o:=.cells #[.int .i64 a0_0, .int .i64 a0_1, .int .i64 a0_2, .string a0_3] 23 (0,0)) (by (with_reducible repeat first|apply zbN|apply zb1|apply zbA);exact BK101.out)):gb102 ≠ gb101));clear BK101;clear HB;have BK101:=n0_;have HB:=n1_;have BK102:=n2_;have GW102:=n3_;have GE102:=n4_;have NB101_102:=n5_;have NB102_101:=n6_;clear n0_ n1_ n2_ n3_ n4_ n5_ n6_;clear hb hbox hg;have hnb8:=NB101_102.out;have hnc8:=NB102_101.out;have hcz9_0:w7.cell? ⟨gb101,0,none⟩ = some (.int .i64 a0_0):=(zce BK101.out 0).trans rfl;have hcz9_1:w7.cell? ⟨gb101,1,none⟩ = some (.int .i64 a0_1):=(zce BK101.out 1).trans rfl;have hcz9_2:w7.cell? ⟨gb101,2,none⟩ = some (.int .i64 a0_2):=(zce BK101.out 2).trans rfl;have hcz9_3:w7.cell? ⟨gb101,3,none⟩ = some (.string a0_3):=(zce BK101.out 3).trans rfl;have hfz9_0:=zfz BK101.out 0;have hfz9_1:=zfz BK101.out 1;have hfz9_2:=zfz BK101.out 2;have hfz9_3:=zfz BK101.out 3;have hcz10_0:w7.cell? ⟨gb102,0,none⟩ = some (.int .i64 a1_0):=(zce BK102.out 0).trans rfl;have hcz10_1:w7.cell? ⟨gb102,1,none⟩ = some (.int .i64 a1_1):=(zce BK102.out 1).trans rfl;have hcz10_2:w7.cell? ⟨gb102,2,none⟩ = some (.int .i64 a1_2):=(zce BK102.out 2).trans rfl;have hcz10_3:w7.cell? ⟨gb102,3,none⟩ = some (.string a1_3):=(zce BK102.out 3).trans rfl;have hfz10_0:=zfz BK102.out 0;have hfz10_1:=zfz BK102.out 1;have hfz10_2:=zfz BK102.out 2;have hfz10_3:=zfz BK102.out 3)|((with_reducible refine gate_callee (f:=44) rfl ?_);refine goesL_ (some 8) rfl rfl Try.func44 (by kernel_rfl) rfl #[.agg #[.int .i64 a0_0, .int .i64 a0_1, .int .i64 a0_2, .string a0_3], .agg #[.int .i64 a1_0, .int .i64 a1_1, .int .i64 a1_2, .string a1_3]] rfl (by (try simp only [List.map_toArray,List.map_cons,List.map_nil]);first|done|rfl|(simp only [List.length_drop,List.length_take];rfl)) ?_;(with_reducible refine (val_known.calls a0_0 a0_1 a0_2 a0_3 a1_0 a1_1 a1_2 a1_3 true _ A3.out).mono ?_);rintro e w11 ⟨rfl,hb⟩;refine ⟨_,rfl,?_⟩;have n0_:=z_ (zbb (g:=gb101) (o:=.cells #[.int .i64 a0_0, .int .i64 a0_1, .int .i64 a0_2, .string a0_3] 23 (0,0)) (by (with_reducible repeat first|apply zbN|apply zb1|apply zbA);exact BK101.out) hb);have n1_:=z_ (zbb (g:=gb102) (o:=.cells #[.int .i64 a1_0, .int .i64 a1_1, .int .i64 a1_2, .string a1_3] 23 (0,0)) (by (with_reducible repeat first|apply zbN|apply zb1|apply zbA);exact BK102.out) hb);have n2_:=z_ (below_step (by repeat first|(with_reducible first|exact HB.out|apply zA|apply zN|apply z1|refine zS ?_ GE101.out|refine zS ?_ GE102.out)|exact HB.out) hb);clear BK101;clear BK102;clear HB;have BK101:=n0_;have BK102:=n1_;have HB:=n2_;clear n0_ n1_ n2_;(try clear hb);(try clear hb2);(try clear hk);(try clear hi);have hcz12_0:w11.cell? ⟨gb101,0,none⟩ = some (.int .i64 a0_0):=(zce BK101.out 0).trans rfl;have hcz12_1:w11.cell? ⟨gb101,1,none⟩ = some (.int .i64 a0_1):=(zce BK101.out 1).trans rfl;have hcz12_2:w11.cell? ⟨gb101,2,none⟩ = some (.int .i64 a0_2):=(zce BK101.out 2).trans rfl;have hcz12_3:w11.cell? ⟨gb101,3,none⟩ = some (.string a0_3):=(zce BK101.out 3).trans rfl;have hfz12_0:=zfz BK101.out 0;have hfz12_1:=zfz BK101.out 1;have hfz12_2:=zfz BK101.out 2;have hfz12_3:=zfz BK101.out 3;have hcz13_0:w11.cell? ⟨gb102,0,none⟩ = some (.int .i64 a1_0):=(zce BK102.out 0).trans rfl;have hcz13_1:w11.cell? ⟨gb102,1,none⟩ = some (.int .i64 a1_1):=(zce BK102.out 1).trans rfl;have hcz13_2:w11.cell? ⟨gb102,2,none⟩ = some (.int .i64 a1_2):=(zce BK102.out 2).trans rfl;have hcz13_3:w11.cell? ⟨gb102,3,none⟩ = some (.string a1_3):=(zce BK102.out 3).trans rfl;have hfz13_0:=zfz BK102.out 0;have hfz13_1:=zfz BK102.out 1;have hfz13_2:=zfz BK102.out 2;have hfz13_3:=zfz BK102.out 3)|(go_at_call 23;(with_reducible refine (val_Order.calls k a0_0 a0_1 a0_2 a0_3 a1_0 a1_1 a1_2 a1_3 t104 _ A5.out).mono ?_);rintro e w14 ⟨rfl,hb⟩;have n0_:=z_ (zbb (g:=gb101) (o:=.cells #[.int .i64 a0_0, .int .i64 a0_1, .int .i64 a0_2, .string a0_3] 23 (0,0)) (by (with_reducible repeat first|apply zbN|apply zb1|apply zbA);exact BK101.out) hb);have n1_:=z_ (zbb (g:=gb102) (o:=.cells #[.int .i64 a1_0, .int .i64 a1_1, .int .i64 a1_2, .string a1_3] 23 (0,0)) (by (with_reducible repeat first|apply zbN|apply zb1|apply zbA);exact BK102.out) hb);have n2_:=z_ (below_step (by repeat first|(with_reducible first|exact HB.out|apply zA|apply zN|apply z1|refine zS ?_ GE101.out|refine zS ?_ GE102.out)|exact HB.out) hb);clear BK101;clear BK102;clear HB;have BK101:=n0_;have BK102:=n1_;have HB:=n2_;clear n0_ n1_ n2_;(try clear hb);(try clear hb2);(try clear hk);(try clear hi)))
  go_ret2
  exact ⟨by first|rfl|(simp [errW_none,errW_some] <;> rfl)|(simp [*,errW_none,errW_some] <;> rfl),by repeat first|(with_reducible first|exact HB.out|apply zA|apply zN|apply z1|refine zS ?_ GE101.out|refine zS ?_ GE102.out)|exact HB.out⟩
 ·replace c4:=Bool.eq_false_iff.mpr c4
  subst c4
  have H1:(some (false,false)) = some (r1,r2):=by rw [if_neg (show ¬ (false = true) by decide)] at H;exact H
  clear H
  have H:=H1
  clear H1
  simp only [Option.some.injEq,Prod.mk.injEq] at H
  obtain ⟨rfl,rfl⟩:=H
  go_enter Try.func24,Try.ntmps24
  go_wp2_with (first|((with_reducible refine gate_dst (N:=2) rfl ?_);refine box_event ?hg (N:=2) ?hd (cs:=#[.int .i64 a0_0, .int .i64 a0_1, .int .i64 a0_2, .string a0_3]) (t:=23) ?hr ?_;(case hd=>rfl);(case hg=>rfl);(case hr=>first|(go_simp;done)|(go_simp;rfl));intro gb101 hg w15 hbox hb;have n0_:=z_ (below_step (by repeat first|(with_reducible first|exact HB.out|apply zA|apply zN|apply z1)|exact HB.out) hb);have n1_:=z_ (hbox);have n2_:=z_ ((by rw [hg];exact (zBs (by repeat first|(with_reducible first|exact HB.out|apply zA|apply zN|apply z1)|exact HB.out)):w.heap.size ≤ gb101));have n3_:=z_ ((by rw [hg];exact (zBs (by repeat first|(with_reducible first|exact HB.out|apply zA|apply zN|apply z1)|exact HB.out)):w.heap.size ≤ gb101));clear HB;have HB:=n0_;have BK101:=n1_;have GW101:=n2_;have GE101:=n3_;clear n0_ n1_ n2_ n3_;clear hb hbox hg)|((with_reducible refine gate_dst (N:=3) rfl ?_);refine box_event ?hg (N:=3) ?hd (cs:=#[.int .i64 a1_0, .int .i64 a1_1, .int .i64 a1_2, .string a1_3]) (t:=23) ?hr ?_;(case hd=>rfl);(case hg=>rfl);(case hr=>first|(go_simp;done)|(go_simp;rfl));intro gb102 hg w16 hbox hb;have n0_:=z_ (zbb (g:=gb101) (o:=.cells #[.int .i64 a0_0, .int .i64 a0_1, .int .i64 a0_2, .string a0_3] 23 (0,0)) (by (with_reducible repeat first|apply zbN|apply zb1|apply zbA);exact BK101.out) hb);have n1_:=z_ (below_step (by repeat first|(with_reducible first|exact HB.out|apply zA|apply zN|apply z1|refine zS ?_ GE101.out)|exact HB.out) hb);have n2_:=z_ (hbox);have n3_:=z_ ((by rw [hg];exact (zBs (by repeat first|(with_reducible first|exact HB.out|apply zA|apply zN|apply z1|refine zS ?_ GE101.out)|exact HB.out)):w.heap.size ≤ gb102));have n4_:=z_ ((by rw [hg];exact (zBs (by repeat first|(with_reducible first|exact HB.out|apply zA|apply zN|apply z1|refine zS ?_ GE101.out)|exact HB.out)):w.heap.size ≤ gb102));have n5_:=z_ ((by rw [hg];exact Nat.ne_of_lt (blk_lt (g:=gb101) (o:=.cells #[.int .i64 a0_0, .int .i64 a0_1, .int .i64 a0_2, .string a0_3] 23 (0,0)) (by (with_reducible repeat first|apply zbN|apply zb1|apply zbA);exact BK101.out)):gb101 ≠ gb102));have n6_:=z_ ((by rw [hg];exact Nat.ne_of_gt (blk_lt (g:=gb101) (o:=.cells #[.int .i64 a0_0, .int .i64 a0_1, .int .i64 a0_2, .string a0_3] 23 (0,0)) (by (with_reducible repeat first|apply zbN|apply zb1|apply zbA);exact BK101.out)):gb102 ≠ gb101));clear BK101;clear HB;have BK101:=n0_;have HB:=n1_;have BK102:=n2_;have GW102:=n3_;have GE102:=n4_;have NB101_102:=n5_;have NB102_101:=n6_;clear n0_ n1_ n2_ n3_ n4_ n5_ n6_;clear hb hbox hg;have hnb17:=NB101_102.out;have hnc17:=NB102_101.out;have hcz18_0:w16.cell? ⟨gb101,0,none⟩ = some (.int .i64 a0_0):=(zce BK101.out 0).trans rfl;have hcz18_1:w16.cell? ⟨gb101,1,none⟩ = some (.int .i64 a0_1):=(zce BK101.out 1).trans rfl;have hcz18_2:w16.cell? ⟨gb101,2,none⟩ = some (.int .i64 a0_2):=(zce BK101.out 2).trans rfl;have hcz18_3:w16.cell? ⟨gb101,3,none⟩ = some (.string a0_3):=(zce BK101.out 3).trans rfl;have hfz18_0:=zfz BK101.out 0;have hfz18_1:=zfz BK101.out 1;have hfz18_2:=zfz BK101.out 2;have hfz18_3:=zfz BK101.out 3;have hcz19_0:w16.cell? ⟨gb102,0,none⟩ = some (.int .i64 a1_0):=(zce BK102.out 0).trans rfl;have hcz19_1:w16.cell? ⟨gb102,1,none⟩ = some (.int .i64 a1_1):=(zce BK102.out 1).trans rfl;have hcz19_2:w16.cell? ⟨gb102,2,none⟩ = some (.int .i64 a1_2):=(zce BK102.out 2).trans rfl;have hcz19_3:w16.cell? ⟨gb102,3,none⟩ = some (.string a1_3):=(zce BK102.out 3).trans rfl;have hfz19_0:=zfz BK102.out 0;have hfz19_1:=zfz BK102.out 1;have hfz19_2:=zfz BK102.out 2;have hfz19_3:=zfz BK102.out 3)|((with_reducible refine gate_callee (f:=44) rfl ?_);refine goesL_ (some 8) rfl rfl Try.func44 (by kernel_rfl) rfl #[.agg #[.int .i64 a0_0, .int .i64 a0_1, .int .i64 a0_2, .string a0_3], .agg #[.int .i64 a1_0, .int .i64 a1_1, .int .i64 a1_2, .string a1_3]] rfl (by (try simp only [List.map_toArray,List.map_cons,List.map_nil]);first|done|rfl|(simp only [List.length_drop,List.length_take];rfl)) ?_;(with_reducible refine (val_known.calls a0_0 a0_1 a0_2 a0_3 a1_0 a1_1 a1_2 a1_3 false _ A3.out).mono ?_);rintro e w20 ⟨rfl,hb⟩;refine ⟨_,rfl,?_⟩;have n0_:=z_ (zbb (g:=gb101) (o:=.cells #[.int .i64 a0_0, .int .i64 a0_1, .int .i64 a0_2, .string a0_3] 23 (0,0)) (by (with_reducible repeat first|apply zbN|apply zb1|apply zbA);exact BK101.out) hb);have n1_:=z_ (zbb (g:=gb102) (o:=.cells #[.int .i64 a1_0, .int .i64 a1_1, .int .i64 a1_2, .string a1_3] 23 (0,0)) (by (with_reducible repeat first|apply zbN|apply zb1|apply zbA);exact BK102.out) hb);have n2_:=z_ (below_step (by repeat first|(with_reducible first|exact HB.out|apply zA|apply zN|apply z1|refine zS ?_ GE101.out|refine zS ?_ GE102.out)|exact HB.out) hb);clear BK101;clear BK102;clear HB;have BK101:=n0_;have BK102:=n1_;have HB:=n2_;clear n0_ n1_ n2_;(try clear hb);(try clear hb2);(try clear hk);(try clear hi)))
  go_ret2
  exact ⟨by first|rfl|(simp [errW_none,errW_some] <;> rfl)|(simp [*,errW_none,errW_some] <;> rfl),by repeat first|(with_reducible first|exact HB.out|apply zA|apply zN|apply z1|refine zS ?_ GE101.out|refine zS ?_ GE102.out)|exact HB.out⟩
end Go.Proofs.Ytllkhdhanheieaa.R
namespace Go.Proofs.Ytllkhdhanheieaa.R
open Go.RowKit Go.Proofs.YtllkhdhanheieaaW.PrintWords Go.Proofs.YtllkhdhanheieaaW.PrintLast Go.Proofs.YtllkhdhanheieaaW.PrintMore
attribute [local go_sem] max2_int min2_int max_two min_two max_three min_three max_four min_four
attribute [local go_sem high] own_gtr own_leq own_geq own_cell_set Option.map_some fld23_1
set_option linter.unusedVariables false
set_option linter.unusedSimpArgs false
def federationlaw1_known.f (k:Nat)  : Option (Bool):=(val_Less.f k 2 1 0 (⟨#[]⟩:ByteArray) 2 2 0 (⟨#[]⟩:ByteArray)).bind fun bt103=>((val_Less.f k 2 1 0 (⟨#[]⟩:ByteArray) 0 0 0 (⟨#[]⟩:ByteArray)).bind fun bt105=>((val_Reckon.f k 7 2 1 0 (⟨#[]⟩:ByteArray) 2 2 0 (⟨#[]⟩:ByteArray)).bind fun bt107=>(if bt103.1 = true then (if bt103.2 = true then (if bt105.2 = true then (none) else (if bt107.2.2.2.2 = 0 then (if bt107.2.1 = 3 then (if bt107.1 = 2 then ((val_Right.f k 2 1 0 (⟨#[]⟩:ByteArray)).bind fun t113=>(if t113 = true then ((val_Order.f k 2 1 0 (⟨#[]⟩:ByteArray) 2 2 0 (⟨#[]⟩:ByteArray)).bind fun t114=>(if t114 = (-1) then ((val_Norm.f k 3 150 2 (⟨#[]⟩:ByteArray)).bind fun bt115=>(some (bt115.2.1 == 15))) else (none))) else (none))) else (none)) else (none)) else (none))) else (none)) else (none))))
theorem federationlaw1_known.mono:∀ k,LeO (federationlaw1_known.f k ) (federationlaw1_known.f (k + 1) ):=by
 intro  k
 unfold federationlaw1_known.f
 repeat' first
   | (with_reducible exact val_Less.mono _ _ _ _ _ _ _ _ _)
   | (with_reducible exact val_Norm.mono _ _ _ _ _)
   | (with_reducible exact val_Order.mono _ _ _ _ _ _ _ _ _)
   | (with_reducible exact val_Reckon.mono _ _ _ _ _ _ _ _ _ _)
   | (with_reducible exact val_Right.mono _ _ _ _ _)
   | (with_reducible exact LeO.refl _)
   | (with_reducible exact LeO.none _)
   | (with_reducible refine LeO.ite ?_ ?_)
   | (with_reducible refine LeO.bind ?_ (fun _=>?_))
   | exact val_Less.mono _ _ _ _ _ _ _ _ _
   | exact val_Norm.mono _ _ _ _ _
   | exact val_Order.mono _ _ _ _ _ _ _ _ _
   | exact val_Reckon.mono _ _ _ _ _ _ _ _ _ _
   | exact val_Right.mono _ _ _ _ _
   | exact LeO.none _
   | refine LeO.ite ?_ ?_
   | refine LeO.bind ?_ (fun _=>?_)
set_option maxHeartbeats 8000000 in
set_option maxRecDepth 100000 in
theorem federationlaw1_known.calls (k:Nat)  (r:Bool) (w:World) (h:federationlaw1_known.f k  = some r) :
  Calls Try.prog 13 #[] w fun e w'=>e = .returned (.bool r) ∧ Below w.heap.size w w':=by
 have hu23:=Try.underlying23
 have HB:=z_ (Below.refl w.heap.size w)
 have H:((val_Less.f k 2 1 0 (⟨#[]⟩:ByteArray) 2 2 0 (⟨#[]⟩:ByteArray)).bind fun bt103=>((val_Less.f k 2 1 0 (⟨#[]⟩:ByteArray) 0 0 0 (⟨#[]⟩:ByteArray)).bind fun bt105=>((val_Reckon.f k 7 2 1 0 (⟨#[]⟩:ByteArray) 2 2 0 (⟨#[]⟩:ByteArray)).bind fun bt107=>(if bt103.1 = true then (if bt103.2 = true then (if bt105.2 = true then (none) else (if bt107.2.2.2.2 = 0 then (if bt107.2.1 = 3 then (if bt107.1 = 2 then ((val_Right.f k 2 1 0 (⟨#[]⟩:ByteArray)).bind fun t113=>(if t113 = true then ((val_Order.f k 2 1 0 (⟨#[]⟩:ByteArray) 2 2 0 (⟨#[]⟩:ByteArray)).bind fun t114=>(if t114 = (-1) then ((val_Norm.f k 3 150 2 (⟨#[]⟩:ByteArray)).bind fun bt115=>(some (bt115.2.1 == 15))) else (none))) else (none))) else (none)) else (none)) else (none))) else (none)) else (none))))) = some r:=h
 clear h
 replace H:=Option.bind_eq_some_iff.mp H
 obtain ⟨⟨t103,t104⟩,A10,H⟩:=H
 replace H:((val_Less.f k 2 1 0 (⟨#[]⟩:ByteArray) 0 0 0 (⟨#[]⟩:ByteArray)).bind fun bt105=>((val_Reckon.f k 7 2 1 0 (⟨#[]⟩:ByteArray) 2 2 0 (⟨#[]⟩:ByteArray)).bind fun bt107=>(if t103 = true then (if t104 = true then (if bt105.2 = true then (none) else (if bt107.2.2.2.2 = 0 then (if bt107.2.1 = 3 then (if bt107.1 = 2 then ((val_Right.f k 2 1 0 (⟨#[]⟩:ByteArray)).bind fun t113=>(if t113 = true then ((val_Order.f k 2 1 0 (⟨#[]⟩:ByteArray) 2 2 0 (⟨#[]⟩:ByteArray)).bind fun t114=>(if t114 = (-1) then ((val_Norm.f k 3 150 2 (⟨#[]⟩:ByteArray)).bind fun bt115=>(some (bt115.2.1 == 15))) else (none))) else (none))) else (none)) else (none)) else (none))) else (none)) else (none)))) = some r:=H
 have A1:=z_ A10
 clear A10
 replace H:=Option.bind_eq_some_iff.mp H
 obtain ⟨⟨t105,t106⟩,A20,H⟩:=H
 replace H:((val_Reckon.f k 7 2 1 0 (⟨#[]⟩:ByteArray) 2 2 0 (⟨#[]⟩:ByteArray)).bind fun bt107=>(if t103 = true then (if t104 = true then (if t106 = true then (none) else (if bt107.2.2.2.2 = 0 then (if bt107.2.1 = 3 then (if bt107.1 = 2 then ((val_Right.f k 2 1 0 (⟨#[]⟩:ByteArray)).bind fun t113=>(if t113 = true then ((val_Order.f k 2 1 0 (⟨#[]⟩:ByteArray) 2 2 0 (⟨#[]⟩:ByteArray)).bind fun t114=>(if t114 = (-1) then ((val_Norm.f k 3 150 2 (⟨#[]⟩:ByteArray)).bind fun bt115=>(some (bt115.2.1 == 15))) else (none))) else (none))) else (none)) else (none)) else (none))) else (none)) else (none))) = some r:=H
 have A2:=z_ A20
 clear A20
 replace H:=Option.bind_eq_some_iff.mp H
 obtain ⟨⟨t107,t108,t109,t110,t111⟩,A30,H⟩:=H
 replace H:(if t103 = true then (if t104 = true then (if t106 = true then (none) else (if t111 = 0 then (if t108 = 3 then (if t107 = 2 then ((val_Right.f k 2 1 0 (⟨#[]⟩:ByteArray)).bind fun t113=>(if t113 = true then ((val_Order.f k 2 1 0 (⟨#[]⟩:ByteArray) 2 2 0 (⟨#[]⟩:ByteArray)).bind fun t114=>(if t114 = (-1) then ((val_Norm.f k 3 150 2 (⟨#[]⟩:ByteArray)).bind fun bt115=>(some (bt115.2.1 == 15))) else (none))) else (none))) else (none)) else (none)) else (none))) else (none)) else (none)) = some r:=H
 have A3:=z_ A30
 clear A30
 by_cases c4:t103 = true
 ·subst c4
  have H1:(if t104 = true then (if t106 = true then (none) else (if t111 = 0 then (if t108 = 3 then (if t107 = 2 then ((val_Right.f k 2 1 0 (⟨#[]⟩:ByteArray)).bind fun t113=>(if t113 = true then ((val_Order.f k 2 1 0 (⟨#[]⟩:ByteArray) 2 2 0 (⟨#[]⟩:ByteArray)).bind fun t114=>(if t114 = (-1) then ((val_Norm.f k 3 150 2 (⟨#[]⟩:ByteArray)).bind fun bt115=>(some (bt115.2.1 == 15))) else (none))) else (none))) else (none)) else (none)) else (none))) else (none)) = some r:=by rw [if_pos rfl] at H;exact H
  clear H
  have H:=H1
  clear H1
  by_cases c5:t104 = true
  ·subst c5
   have H1:(if t106 = true then (none) else (if t111 = 0 then (if t108 = 3 then (if t107 = 2 then ((val_Right.f k 2 1 0 (⟨#[]⟩:ByteArray)).bind fun t113=>(if t113 = true then ((val_Order.f k 2 1 0 (⟨#[]⟩:ByteArray) 2 2 0 (⟨#[]⟩:ByteArray)).bind fun t114=>(if t114 = (-1) then ((val_Norm.f k 3 150 2 (⟨#[]⟩:ByteArray)).bind fun bt115=>(some (bt115.2.1 == 15))) else (none))) else (none))) else (none)) else (none)) else (none))) = some r:=by rw [if_pos rfl] at H;exact H
   clear H
   have H:=H1
   clear H1
   by_cases c6:t106 = true
   ·subst c6
    have H1:(none) = some r:=by rw [if_pos rfl] at H;exact H
    clear H
    have H:=H1
    clear H1
    exact absurd H (by simp)
   ·replace c6:=Bool.eq_false_iff.mpr c6
    subst c6
    have H1:(if t111 = 0 then (if t108 = 3 then (if t107 = 2 then ((val_Right.f k 2 1 0 (⟨#[]⟩:ByteArray)).bind fun t113=>(if t113 = true then ((val_Order.f k 2 1 0 (⟨#[]⟩:ByteArray) 2 2 0 (⟨#[]⟩:ByteArray)).bind fun t114=>(if t114 = (-1) then ((val_Norm.f k 3 150 2 (⟨#[]⟩:ByteArray)).bind fun bt115=>(some (bt115.2.1 == 15))) else (none))) else (none))) else (none)) else (none)) else (none)) = some r:=by rw [if_neg (show ¬ (false = true) by decide)] at H;exact H
    clear H
    have H:=H1
    clear H1
    by_cases c7:t111 = 0
    ·rw [if_pos c7] at H
     have c7b0:(t111 == 0) = true:=beq_iff_eq.mpr c7
     have c7b1:(t111 != 0) = false:=bne_eq_false_iff_eq.mpr c7
     clear c7
     by_cases c8:t108 = 3
     ·rw [if_pos c8] at H
      have c8b0:(t108 == 3) = true:=beq_iff_eq.mpr c8
      have c8b1:(t108 != 3) = false:=bne_eq_false_iff_eq.mpr c8
      clear c8
      by_cases c9:t107 = 2
      ·rw [if_pos c9] at H
       have c9b0:(t107 == 2) = true:=beq_iff_eq.mpr c9
       have c9b1:(t107 != 2) = false:=bne_eq_false_iff_eq.mpr c9
       clear c9
       replace H:=Option.bind_eq_some_iff.mp H
       obtain ⟨t113,A100,H⟩:=H
       replace H:(if t113 = true then ((val_Order.f k 2 1 0 (⟨#[]⟩:ByteArray) 2 2 0 (⟨#[]⟩:ByteArray)).bind fun t114=>(if t114 = (-1) then ((val_Norm.f k 3 150 2 (⟨#[]⟩:ByteArray)).bind fun bt115=>(some (bt115.2.1 == 15))) else (none))) else (none)) = some r:=H
       have A10:=z_ A100
       clear A100
       by_cases c11:t113 = true
       ·subst c11
        have H1:((val_Order.f k 2 1 0 (⟨#[]⟩:ByteArray) 2 2 0 (⟨#[]⟩:ByteArray)).bind fun t114=>(if t114 = (-1) then ((val_Norm.f k 3 150 2 (⟨#[]⟩:ByteArray)).bind fun bt115=>(some (bt115.2.1 == 15))) else (none))) = some r:=by rw [if_pos rfl] at H;exact H
        clear H
        have H:=H1
        clear H1
        replace H:=Option.bind_eq_some_iff.mp H
        obtain ⟨t114,A120,H⟩:=H
        replace H:(if t114 = (-1) then ((val_Norm.f k 3 150 2 (⟨#[]⟩:ByteArray)).bind fun bt115=>(some (bt115.2.1 == 15))) else (none)) = some r:=H
        have A12:=z_ A120
        clear A120
        by_cases c13:t114 = (-1)
        ·rw [if_pos c13] at H
         have c13b0:(t114 == (-1)) = true:=beq_iff_eq.mpr c13
         have c13b1:(t114 != (-1)) = false:=bne_eq_false_iff_eq.mpr c13
         clear c13
         replace H:=Option.bind_eq_some_iff.mp H
         obtain ⟨⟨t115,t116,t117,t118⟩,A140,H⟩:=H
         replace H:(some (t116 == 15)) = some r:=H
         have A14:=z_ A140
         clear A140
         obtain rfl:=Option.some.inj H
         go_enter Try.func13,Try.ntmps13
         go_wp2_with (first|((with_reducible refine gate_dst (N:=1) rfl ?_);refine box_event ?hg (N:=1) ?hd (cs:=#[.int .i64 0, .int .i64 0, .int .i64 0, .string (⟨#[]⟩:ByteArray)]) (t:=23) ?hr ?_;(case hd=>rfl);(case hg=>rfl);(case hr=>first|(go_simp;done)|(go_simp;rfl));intro gb101 hg w15 hbox hb;have n0_:=z_ (below_step (by repeat first|(with_reducible first|exact HB.out|apply zA|apply zN|apply z1)|exact HB.out) hb);have n1_:=z_ (hbox);have n2_:=z_ ((by rw [hg];exact (zBs (by repeat first|(with_reducible first|exact HB.out|apply zA|apply zN|apply z1)|exact HB.out)):w.heap.size ≤ gb101));have n3_:=z_ ((by rw [hg];exact (zBs (by repeat first|(with_reducible first|exact HB.out|apply zA|apply zN|apply z1)|exact HB.out)):w.heap.size ≤ gb101));clear HB;have HB:=n0_;have BK101:=n1_;have GW101:=n2_;have GE101:=n3_;clear n0_ n1_ n2_ n3_;clear hb hbox hg)|((with_reducible refine gate_dst (N:=2) rfl ?_);refine box_event ?hg (N:=2) ?hd (cs:=#[.int .i64 0, .int .i64 0, .int .i64 0, .string (⟨#[]⟩:ByteArray)]) (t:=23) ?hr ?_;(case hd=>rfl);(case hg=>rfl);(case hr=>first|(go_simp;done)|(go_simp;rfl));intro gb102 hg w16 hbox hb;have n0_:=z_ (zbb (g:=gb101) (o:=.cells #[.int .i64 0, .int .i64 0, .int .i64 0, .string (⟨#[]⟩:ByteArray)] 23 (0,0)) (by (with_reducible repeat first|apply zbN|apply zb1|apply zbA);exact BK101.out) hb);have n1_:=z_ (below_step (by repeat first|(with_reducible first|exact HB.out|apply zA|apply zN|apply z1|refine zS ?_ GE101.out)|exact HB.out) hb);have n2_:=z_ (hbox);have n3_:=z_ ((by rw [hg];exact (zBs (by repeat first|(with_reducible first|exact HB.out|apply zA|apply zN|apply z1|refine zS ?_ GE101.out)|exact HB.out)):w.heap.size ≤ gb102));have n4_:=z_ ((by rw [hg];exact (zBs (by repeat first|(with_reducible first|exact HB.out|apply zA|apply zN|apply z1|refine zS ?_ GE101.out)|exact HB.out)):w.heap.size ≤ gb102));have n5_:=z_ ((by rw [hg];exact Nat.ne_of_lt (blk_lt (g:=gb101) (o:=.cells #[.int .i64 0, .int .i64 0, .int .i64 0, .string (⟨#[]⟩:ByteArray)] 23 (0,0)) (by (with_reducible repeat first|apply zbN|apply zb1|apply zbA);exact BK101.out)):gb101 ≠ gb102));have n6_:=z_ ((by rw [hg];exact Nat.ne_of_gt (blk_lt (g:=gb101) (o:=.cells #[.int .i64 0, .int .i64 0, .int .i64 0, .string (⟨#[]⟩:ByteArray)] 23 (0,0)) (by (with_reducible repeat first|apply zbN|apply zb1|apply zbA);exact BK101.out)):gb102 ≠ gb101));clear BK101;clear HB;have BK101:=n0_;have HB:=n1_;have BK102:=n2_;have GW102:=n3_;have GE102:=n4_;have NB101_102:=n5_;have NB102_101:=n6_;clear n0_ n1_ n2_ n3_ n4_ n5_ n6_;clear hb hbox hg;have hnb17:=NB101_102.out;have hnc17:=NB102_101.out;have hcz18_0:w16.cell? ⟨gb101,0,none⟩ = some (.int .i64 0):=(zce BK101.out 0).trans rfl;have hcz18_1:w16.cell? ⟨gb101,1,none⟩ = some (.int .i64 0):=(zce BK101.out 1).trans rfl;have hcz18_2:w16.cell? ⟨gb101,2,none⟩ = some (.int .i64 0):=(zce BK101.out 2).trans rfl;have hcz18_3:w16.cell? ⟨gb101,3,none⟩ = some (.string (⟨#[]⟩:ByteArray)):=(zce BK101.out 3).trans rfl;have hfz18_0:=zfz BK101.out 0;have hfz18_1:=zfz BK101.out 1;have hfz18_2:=zfz BK101.out 2;have hfz18_3:=zfz BK101.out 3;have hcz19_0:w16.cell? ⟨gb102,0,none⟩ = some (.int .i64 0):=(zce BK102.out 0).trans rfl;have hcz19_1:w16.cell? ⟨gb102,1,none⟩ = some (.int .i64 0):=(zce BK102.out 1).trans rfl;have hcz19_2:w16.cell? ⟨gb102,2,none⟩ = some (.int .i64 0):=(zce BK102.out 2).trans rfl;have hcz19_3:w16.cell? ⟨gb102,3,none⟩ = some (.string (⟨#[]⟩:ByteArray)):=(zce BK102.out 3).trans rfl;have hfz19_0:=zfz BK102.out 0;have hfz19_1:=zfz BK102.out 1;have hfz19_2:=zfz BK102.out 2;have hfz19_3:=zfz BK102.out 3)|((with_reducible refine gate_callee (f:=24) rfl ?_);refine goesL_ (some 14) rfl rfl Try.func24 (by kernel_rfl) rfl #[.agg #[.int .i64 2, .int .i64 1, .int .i64 0, .string (⟨#[]⟩:ByteArray)], .agg #[.int .i64 2, .int .i64 2, .int .i64 0, .string (⟨#[]⟩:ByteArray)]] rfl (by (try simp only [List.map_toArray,List.map_cons,List.map_nil]);first|done|rfl|(simp only [List.length_drop,List.length_take];rfl)) ?_;(with_reducible refine (val_Less.calls k 2 1 0 (⟨#[]⟩:ByteArray) 2 2 0 (⟨#[]⟩:ByteArray) true true _ A1.out).mono ?_);rintro e w20 ⟨rfl,hb⟩;refine ⟨_,rfl,?_⟩;have n0_:=z_ (zbb (g:=gb101) (o:=.cells #[.int .i64 2, .int .i64 1, .int .i64 0, .string (⟨#[]⟩:ByteArray)] 23 (0,0)) (by (with_reducible repeat first|apply zbN|apply zb1|apply zbA);refine zbf ?_ NB101_102.out _;(with_reducible repeat first|apply zbN|apply zb1|apply zbA);refine zbf ?_ NB101_102.out _;(with_reducible repeat first|apply zbN|apply zb1|apply zbA);refine zbf ?_ NB101_102.out _;(with_reducible repeat first|apply zbN|apply zb1|apply zbA);refine zbf ?_ NB101_102.out _;(with_reducible repeat first|apply zbN|apply zb1|apply zbA);refine zbp (cs:=#[.int .i64 2, .int .i64 1, .int .i64 0, .string (⟨#[]⟩:ByteArray)]) ?_ 3 _ rfl;(with_reducible repeat first|apply zbN|apply zb1|apply zbA);refine zbp (cs:=#[.int .i64 2, .int .i64 1, .int .i64 0, .string (⟨#[]⟩:ByteArray)]) ?_ 2 _ rfl;(with_reducible repeat first|apply zbN|apply zb1|apply zbA);refine zbp (cs:=#[.int .i64 2, .int .i64 0, .int .i64 0, .string (⟨#[]⟩:ByteArray)]) ?_ 1 _ rfl;(with_reducible repeat first|apply zbN|apply zb1|apply zbA);refine zbp (cs:=#[.int .i64 0, .int .i64 0, .int .i64 0, .string (⟨#[]⟩:ByteArray)]) ?_ 0 _ rfl;(with_reducible repeat first|apply zbN|apply zb1|apply zbA);exact BK101.out) hb);have n1_:=z_ (zbb (g:=gb102) (o:=.cells #[.int .i64 2, .int .i64 2, .int .i64 0, .string (⟨#[]⟩:ByteArray)] 23 (0,0)) (by (with_reducible repeat first|apply zbN|apply zb1|apply zbA);refine zbp (cs:=#[.int .i64 2, .int .i64 2, .int .i64 0, .string (⟨#[]⟩:ByteArray)]) ?_ 3 _ rfl;(with_reducible repeat first|apply zbN|apply zb1|apply zbA);refine zbp (cs:=#[.int .i64 2, .int .i64 2, .int .i64 0, .string (⟨#[]⟩:ByteArray)]) ?_ 2 _ rfl;(with_reducible repeat first|apply zbN|apply zb1|apply zbA);refine zbp (cs:=#[.int .i64 2, .int .i64 0, .int .i64 0, .string (⟨#[]⟩:ByteArray)]) ?_ 1 _ rfl;(with_reducible repeat first|apply zbN|apply zb1|apply zbA);refine zbp (cs:=#[.int .i64 0, .int .i64 0, .int .i64 0, .string (⟨#[]⟩:ByteArray)]) ?_ 0 _ rfl;(with_reducible repeat first|apply zbN|apply zb1|apply zbA);refine zbf ?_ NB102_101.out _;(with_reducible repeat first|apply zbN|apply zb1|apply zbA);refine zbf ?_ NB102_101.out _;(with_reducible repeat first|apply zbN|apply zb1|apply zbA);refine zbf ?_ NB102_101.out _;(with_reducible repeat first|apply zbN|apply zb1|apply zbA);refine zbf ?_ NB102_101.out _;(with_reducible repeat first|apply zbN|apply zb1|apply zbA);exact BK102.out) hb);have n2_:=z_ (below_step (by repeat first|(with_reducible first|exact HB.out|apply zA|apply zN|apply z1|refine zS ?_ GE101.out|refine zS ?_ GE102.out)|exact HB.out) hb);clear BK101;clear BK102;clear HB;have BK101:=n0_;have BK102:=n1_;have HB:=n2_;clear n0_ n1_ n2_;(try clear hb);(try clear hb2);(try clear hk);(try clear hi);have hcz21_0:w20.cell? ⟨gb101,0,none⟩ = some (.int .i64 2):=(zce BK101.out 0).trans rfl;have hcz21_1:w20.cell? ⟨gb101,1,none⟩ = some (.int .i64 1):=(zce BK101.out 1).trans rfl;have hcz21_2:w20.cell? ⟨gb101,2,none⟩ = some (.int .i64 0):=(zce BK101.out 2).trans rfl;have hcz21_3:w20.cell? ⟨gb101,3,none⟩ = some (.string (⟨#[]⟩:ByteArray)):=(zce BK101.out 3).trans rfl;have hfz21_0:=zfz BK101.out 0;have hfz21_1:=zfz BK101.out 1;have hfz21_2:=zfz BK101.out 2;have hfz21_3:=zfz BK101.out 3)|((with_reducible refine gate_callee (f:=24) rfl ?_);refine goesL_ (some 20) rfl rfl Try.func24 (by kernel_rfl) rfl #[.agg #[.int .i64 2, .int .i64 1, .int .i64 0, .string (⟨#[]⟩:ByteArray)], .agg #[.int .i64 0, .int .i64 0, .int .i64 0, .string (⟨#[]⟩:ByteArray)]] rfl (by (try simp only [List.map_toArray,List.map_cons,List.map_nil]);first|done|rfl|(simp only [List.length_drop,List.length_take];rfl)) ?_;(with_reducible refine (val_Less.calls k 2 1 0 (⟨#[]⟩:ByteArray) 0 0 0 (⟨#[]⟩:ByteArray) t105 false _ A2.out).mono ?_);rintro e w22 ⟨rfl,hb⟩;refine ⟨_,rfl,?_⟩;have n0_:=z_ (zbb (g:=gb101) (o:=.cells #[.int .i64 2, .int .i64 1, .int .i64 0, .string (⟨#[]⟩:ByteArray)] 23 (0,0)) (by (with_reducible repeat first|apply zbN|apply zb1|apply zbA);exact BK101.out) hb);have n1_:=z_ (zbb (g:=gb102) (o:=.cells #[.int .i64 2, .int .i64 2, .int .i64 0, .string (⟨#[]⟩:ByteArray)] 23 (0,0)) (by (with_reducible repeat first|apply zbN|apply zb1|apply zbA);exact BK102.out) hb);have n2_:=z_ (below_step (by repeat first|(with_reducible first|exact HB.out|apply zA|apply zN|apply z1|refine zS ?_ GE101.out|refine zS ?_ GE102.out)|exact HB.out) hb);clear BK101;clear BK102;clear HB;have BK101:=n0_;have BK102:=n1_;have HB:=n2_;clear n0_ n1_ n2_;(try clear hb);(try clear hb2);(try clear hk);(try clear hi);have hcz23_0:w22.cell? ⟨gb101,0,none⟩ = some (.int .i64 2):=(zce BK101.out 0).trans rfl;have hcz23_1:w22.cell? ⟨gb101,1,none⟩ = some (.int .i64 1):=(zce BK101.out 1).trans rfl;have hcz23_2:w22.cell? ⟨gb101,2,none⟩ = some (.int .i64 0):=(zce BK101.out 2).trans rfl;have hcz23_3:w22.cell? ⟨gb101,3,none⟩ = some (.string (⟨#[]⟩:ByteArray)):=(zce BK101.out 3).trans rfl;have hfz23_0:=zfz BK101.out 0;have hfz23_1:=zfz BK101.out 1;have hfz23_2:=zfz BK101.out 2;have hfz23_3:=zfz BK101.out 3;have hcz24_0:w22.cell? ⟨gb102,0,none⟩ = some (.int .i64 2):=(zce BK102.out 0).trans rfl;have hcz24_1:w22.cell? ⟨gb102,1,none⟩ = some (.int .i64 2):=(zce BK102.out 1).trans rfl;have hcz24_2:w22.cell? ⟨gb102,2,none⟩ = some (.int .i64 0):=(zce BK102.out 2).trans rfl;have hcz24_3:w22.cell? ⟨gb102,3,none⟩ = some (.string (⟨#[]⟩:ByteArray)):=(zce BK102.out 3).trans rfl;have hfz24_0:=zfz BK102.out 0;have hfz24_1:=zfz BK102.out 1;have hfz24_2:=zfz BK102.out 2;have hfz24_3:=zfz BK102.out 3)|((with_reducible refine gate_callee (f:=20) rfl ?_);refine goesL_ (some 26) rfl rfl Try.func20 (by kernel_rfl) rfl #[.int .i64 7, .agg #[.int .i64 2, .int .i64 1, .int .i64 0, .string (⟨#[]⟩:ByteArray)], .agg #[.int .i64 2, .int .i64 2, .int .i64 0, .string (⟨#[]⟩:ByteArray)]] rfl (by (try simp only [List.map_toArray,List.map_cons,List.map_nil]);first|done|rfl|(simp only [List.length_drop,List.length_take];rfl)) ?_;(with_reducible refine (val_Reckon.calls k 7 2 1 0 (⟨#[]⟩:ByteArray) 2 2 0 (⟨#[]⟩:ByteArray) t107 t108 t109 t110 t111 _ A3.out).mono ?_);rintro e w25 ⟨rfl,hb⟩;refine ⟨_,rfl,?_⟩;have n0_:=z_ (zbb (g:=gb101) (o:=.cells #[.int .i64 2, .int .i64 1, .int .i64 0, .string (⟨#[]⟩:ByteArray)] 23 (0,0)) (by (with_reducible repeat first|apply zbN|apply zb1|apply zbA);exact BK101.out) hb);have n1_:=z_ (zbb (g:=gb102) (o:=.cells #[.int .i64 2, .int .i64 2, .int .i64 0, .string (⟨#[]⟩:ByteArray)] 23 (0,0)) (by (with_reducible repeat first|apply zbN|apply zb1|apply zbA);exact BK102.out) hb);have n2_:=z_ (below_step (by repeat first|(with_reducible first|exact HB.out|apply zA|apply zN|apply z1|refine zS ?_ GE101.out|refine zS ?_ GE102.out)|exact HB.out) hb);clear BK101;clear BK102;clear HB;have BK101:=n0_;have BK102:=n1_;have HB:=n2_;clear n0_ n1_ n2_;(try clear hb);(try clear hb2);(try clear hk);(try clear hi))|((with_reducible refine gate_dst (N:=7) rfl ?_);refine box_event ?hg (N:=7) ?hd (cs:=#[.int .i64 0, .int .i64 0, .int .i64 0, .string (⟨#[]⟩:ByteArray)]) (t:=23) ?hr ?_;(case hd=>rfl);(case hg=>rfl);(case hr=>first|(go_simp;done)|(go_simp;rfl));intro gb112 hg w26 hbox hb;have n0_:=z_ (zbb (g:=gb101) (o:=.cells #[.int .i64 2, .int .i64 1, .int .i64 0, .string (⟨#[]⟩:ByteArray)] 23 (0,0)) (by (with_reducible repeat first|apply zbN|apply zb1|apply zbA);exact BK101.out) hb);have n1_:=z_ (zbb (g:=gb102) (o:=.cells #[.int .i64 2, .int .i64 2, .int .i64 0, .string (⟨#[]⟩:ByteArray)] 23 (0,0)) (by (with_reducible repeat first|apply zbN|apply zb1|apply zbA);exact BK102.out) hb);have n2_:=z_ (below_step (by repeat first|(with_reducible first|exact HB.out|apply zA|apply zN|apply z1|refine zS ?_ GE101.out|refine zS ?_ GE102.out)|exact HB.out) hb);have n3_:=z_ (hbox);have n4_:=z_ ((by rw [hg];exact (zBs (by repeat first|(with_reducible first|exact HB.out|apply zA|apply zN|apply z1|refine zS ?_ GE101.out|refine zS ?_ GE102.out)|exact HB.out)):w.heap.size ≤ gb112));have n5_:=z_ ((by rw [hg];exact (zBs (by repeat first|(with_reducible first|exact HB.out|apply zA|apply zN|apply z1|refine zS ?_ GE101.out|refine zS ?_ GE102.out)|exact HB.out)):w.heap.size ≤ gb112));have n6_:=z_ ((by rw [hg];exact Nat.ne_of_lt (blk_lt (g:=gb101) (o:=.cells #[.int .i64 2, .int .i64 1, .int .i64 0, .string (⟨#[]⟩:ByteArray)] 23 (0,0)) (by (with_reducible repeat first|apply zbN|apply zb1|apply zbA);exact BK101.out)):gb101 ≠ gb112));have n7_:=z_ ((by rw [hg];exact Nat.ne_of_gt (blk_lt (g:=gb101) (o:=.cells #[.int .i64 2, .int .i64 1, .int .i64 0, .string (⟨#[]⟩:ByteArray)] 23 (0,0)) (by (with_reducible repeat first|apply zbN|apply zb1|apply zbA);exact BK101.out)):gb112 ≠ gb101));have n8_:=z_ ((by rw [hg];exact Nat.ne_of_lt (blk_lt (g:=gb102) (o:=.cells #[.int .i64 2, .int .i64 2, .int .i64 0, .string (⟨#[]⟩:ByteArray)] 23 (0,0)) (by (with_reducible repeat first|apply zbN|apply zb1|apply zbA);exact BK102.out)):gb102 ≠ gb112));have n9_:=z_ ((by rw [hg];exact Nat.ne_of_gt (blk_lt (g:=gb102) (o:=.cells #[.int .i64 2, .int .i64 2, .int .i64 0, .string (⟨#[]⟩:ByteArray)] 23 (0,0)) (by (with_reducible repeat first|apply zbN|apply zb1|apply zbA);exact BK102.out)):gb112 ≠ gb102));clear BK101;clear BK102;clear HB;have BK101:=n0_;have BK102:=n1_;have HB:=n2_;have BK112:=n3_;have GW112:=n4_;have GE112:=n5_;have NB101_112:=n6_;have NB112_101:=n7_;have NB102_112:=n8_;have NB112_102:=n9_;clear n0_ n1_ n2_ n3_ n4_ n5_ n6_ n7_ n8_ n9_;clear hb hbox hg;have hnb27:=NB112_101.out;have hnc27:=NB101_112.out;have hnb28:=NB112_102.out;have hnc28:=NB102_112.out;have hcz29_0:w26.cell? ⟨gb112,0,none⟩ = some (.int .i64 0):=(zce BK112.out 0).trans rfl;have hcz29_1:w26.cell? ⟨gb112,1,none⟩ = some (.int .i64 0):=(zce BK112.out 1).trans rfl;have hcz29_2:w26.cell? ⟨gb112,2,none⟩ = some (.int .i64 0):=(zce BK112.out 2).trans rfl;have hcz29_3:w26.cell? ⟨gb112,3,none⟩ = some (.string (⟨#[]⟩:ByteArray)):=(zce BK112.out 3).trans rfl;have hfz29_0:=zfz BK112.out 0;have hfz29_1:=zfz BK112.out 1;have hfz29_2:=zfz BK112.out 2;have hfz29_3:=zfz BK112.out 3;have hcz30_0:w26.cell? ⟨gb101,0,none⟩ = some (.int .i64 2):=(zce BK101.out 0).trans rfl;have hcz30_1:w26.cell? ⟨gb101,1,none⟩ = some (.int .i64 1):=(zce BK101.out 1).trans rfl;have hcz30_2:w26.cell? ⟨gb101,2,none⟩ = some (.int .i64 0):=(zce BK101.out 2).trans rfl;have hcz30_3:w26.cell? ⟨gb101,3,none⟩ = some (.string (⟨#[]⟩:ByteArray)):=(zce BK101.out 3).trans rfl;have hfz30_0:=zfz BK101.out 0;have hfz30_1:=zfz BK101.out 1;have hfz30_2:=zfz BK101.out 2;have hfz30_3:=zfz BK101.out 3)|(go_at_call 15;(with_reducible refine (val_Right.calls k 2 1 0 (⟨#[]⟩:ByteArray) true _ A10.out).mono ?_);rintro e w31 ⟨rfl,hb⟩;have n0_:=z_ (zbb (g:=gb101) (o:=.cells #[.int .i64 2, .int .i64 1, .int .i64 0, .string (⟨#[]⟩:ByteArray)] 23 (0,0)) (by (with_reducible repeat first|apply zbN|apply zb1|apply zbA);refine zbf ?_ NB101_112.out _;(with_reducible repeat first|apply zbN|apply zb1|apply zbA);refine zbf ?_ NB101_112.out _;(with_reducible repeat first|apply zbN|apply zb1|apply zbA);refine zbf ?_ NB101_112.out _;(with_reducible repeat first|apply zbN|apply zb1|apply zbA);refine zbf ?_ NB101_112.out _;(with_reducible repeat first|apply zbN|apply zb1|apply zbA);exact BK101.out) hb);have n1_:=z_ (zbb (g:=gb102) (o:=.cells #[.int .i64 2, .int .i64 2, .int .i64 0, .string (⟨#[]⟩:ByteArray)] 23 (0,0)) (by (with_reducible repeat first|apply zbN|apply zb1|apply zbA);refine zbf ?_ NB102_112.out _;(with_reducible repeat first|apply zbN|apply zb1|apply zbA);refine zbf ?_ NB102_112.out _;(with_reducible repeat first|apply zbN|apply zb1|apply zbA);refine zbf ?_ NB102_112.out _;(with_reducible repeat first|apply zbN|apply zb1|apply zbA);refine zbf ?_ NB102_112.out _;(with_reducible repeat first|apply zbN|apply zb1|apply zbA);exact BK102.out) hb);have n2_:=z_ (zbb (g:=gb112) (o:=.cells #[.int .i64 t107, .int .i64 t108, .int .i64 t109, .string t110] 23 (0,0)) (by (with_reducible repeat first|apply zbN|apply zb1|apply zbA);refine zbp (cs:=#[.int .i64 t107, .int .i64 t108, .int .i64 t109, .string (⟨#[]⟩:ByteArray)]) ?_ 3 _ rfl;(with_reducible repeat first|apply zbN|apply zb1|apply zbA);refine zbp (cs:=#[.int .i64 t107, .int .i64 t108, .int .i64 0, .string (⟨#[]⟩:ByteArray)]) ?_ 2 _ rfl;(with_reducible repeat first|apply zbN|apply zb1|apply zbA);refine zbp (cs:=#[.int .i64 t107, .int .i64 0, .int .i64 0, .string (⟨#[]⟩:ByteArray)]) ?_ 1 _ rfl;(with_reducible repeat first|apply zbN|apply zb1|apply zbA);refine zbp (cs:=#[.int .i64 0, .int .i64 0, .int .i64 0, .string (⟨#[]⟩:ByteArray)]) ?_ 0 _ rfl;(with_reducible repeat first|apply zbN|apply zb1|apply zbA);exact BK112.out) hb);have n3_:=z_ (below_step (by repeat first|(with_reducible first|exact HB.out|apply zA|apply zN|apply z1|refine zS ?_ GE101.out|refine zS ?_ GE102.out|refine zS ?_ GE112.out)|exact HB.out) hb);clear BK101;clear BK102;clear BK112;clear HB;have BK101:=n0_;have BK102:=n1_;have BK112:=n2_;have HB:=n3_;clear n0_ n1_ n2_ n3_;(try clear hb);(try clear hb2);(try clear hk);(try clear hi);have hcz32_0:w31.cell? ⟨gb101,0,none⟩ = some (.int .i64 2):=(zce BK101.out 0).trans rfl;have hcz32_1:w31.cell? ⟨gb101,1,none⟩ = some (.int .i64 1):=(zce BK101.out 1).trans rfl;have hcz32_2:w31.cell? ⟨gb101,2,none⟩ = some (.int .i64 0):=(zce BK101.out 2).trans rfl;have hcz32_3:w31.cell? ⟨gb101,3,none⟩ = some (.string (⟨#[]⟩:ByteArray)):=(zce BK101.out 3).trans rfl;have hfz32_0:=zfz BK101.out 0;have hfz32_1:=zfz BK101.out 1;have hfz32_2:=zfz BK101.out 2;have hfz32_3:=zfz BK101.out 3;have hcz33_0:w31.cell? ⟨gb102,0,none⟩ = some (.int .i64 2):=(zce BK102.out 0).trans rfl;have hcz33_1:w31.cell? ⟨gb102,1,none⟩ = some (.int .i64 2):=(zce BK102.out 1).trans rfl;have hcz33_2:w31.cell? ⟨gb102,2,none⟩ = some (.int .i64 0):=(zce BK102.out 2).trans rfl;have hcz33_3:w31.cell? ⟨gb102,3,none⟩ = some (.string (⟨#[]⟩:ByteArray)):=(zce BK102.out 3).trans rfl;have hfz33_0:=zfz BK102.out 0;have hfz33_1:=zfz BK102.out 1;have hfz33_2:=zfz BK102.out 2;have hfz33_3:=zfz BK102.out 3)|(go_at_call 23;(with_reducible refine (val_Order.calls k 2 1 0 (⟨#[]⟩:ByteArray) 2 2 0 (⟨#[]⟩:ByteArray) t114 _ A12.out).mono ?_);rintro e w34 ⟨rfl,hb⟩;have n0_:=z_ (zbb (g:=gb101) (o:=.cells #[.int .i64 2, .int .i64 1, .int .i64 0, .string (⟨#[]⟩:ByteArray)] 23 (0,0)) (by (with_reducible repeat first|apply zbN|apply zb1|apply zbA);exact BK101.out) hb);have n1_:=z_ (zbb (g:=gb102) (o:=.cells #[.int .i64 2, .int .i64 2, .int .i64 0, .string (⟨#[]⟩:ByteArray)] 23 (0,0)) (by (with_reducible repeat first|apply zbN|apply zb1|apply zbA);exact BK102.out) hb);have n2_:=z_ (zbb (g:=gb112) (o:=.cells #[.int .i64 t107, .int .i64 t108, .int .i64 t109, .string t110] 23 (0,0)) (by (with_reducible repeat first|apply zbN|apply zb1|apply zbA);exact BK112.out) hb);have n3_:=z_ (below_step (by repeat first|(with_reducible first|exact HB.out|apply zA|apply zN|apply z1|refine zS ?_ GE101.out|refine zS ?_ GE102.out|refine zS ?_ GE112.out)|exact HB.out) hb);clear BK101;clear BK102;clear BK112;clear HB;have BK101:=n0_;have BK102:=n1_;have BK112:=n2_;have HB:=n3_;clear n0_ n1_ n2_ n3_;(try clear hb);(try clear hb2);(try clear hk);(try clear hi))|(go_at_call 16;(with_reducible refine (val_Norm.calls k 3 150 2 (⟨#[]⟩:ByteArray) t115 t116 t117 t118 _ A14.out).mono ?_);rintro e w35 ⟨rfl,hb⟩;have n0_:=z_ (zbb (g:=gb101) (o:=.cells #[.int .i64 2, .int .i64 1, .int .i64 0, .string (⟨#[]⟩:ByteArray)] 23 (0,0)) (by (with_reducible repeat first|apply zbN|apply zb1|apply zbA);exact BK101.out) hb);have n1_:=z_ (zbb (g:=gb102) (o:=.cells #[.int .i64 2, .int .i64 2, .int .i64 0, .string (⟨#[]⟩:ByteArray)] 23 (0,0)) (by (with_reducible repeat first|apply zbN|apply zb1|apply zbA);exact BK102.out) hb);have n2_:=z_ (zbb (g:=gb112) (o:=.cells #[.int .i64 t107, .int .i64 t108, .int .i64 t109, .string t110] 23 (0,0)) (by (with_reducible repeat first|apply zbN|apply zb1|apply zbA);exact BK112.out) hb);have n3_:=z_ (below_step (by repeat first|(with_reducible first|exact HB.out|apply zA|apply zN|apply z1|refine zS ?_ GE101.out|refine zS ?_ GE102.out|refine zS ?_ GE112.out)|exact HB.out) hb);clear BK101;clear BK102;clear BK112;clear HB;have BK101:=n0_;have BK102:=n1_;have BK112:=n2_;have HB:=n3_;clear n0_ n1_ n2_ n3_;(try clear hb);(try clear hb2);(try clear hk);(try clear hi)))
         go_ret
         exact ⟨by first|rfl|(simp [errW_none,errW_some] <;> rfl)|(simp [*,errW_none,errW_some] <;> rfl),by repeat first|(with_reducible first|exact HB.out|apply zA|apply zN|apply z1|refine zS ?_ GE101.out|refine zS ?_ GE102.out|refine zS ?_ GE112.out)|exact HB.out⟩
        ·rw [if_neg c13] at H
         exact absurd H (by simp)
       ·replace c11:=Bool.eq_false_iff.mpr c11
        subst c11
        have H1:(none) = some r:=by rw [if_neg (show ¬ (false = true) by decide)] at H;exact H
        clear H
        have H:=H1
        clear H1
        exact absurd H (by simp)
      ·rw [if_neg c9] at H
       exact absurd H (by simp)
     ·rw [if_neg c8] at H
      exact absurd H (by simp)
    ·rw [if_neg c7] at H
     exact absurd H (by simp)
  ·replace c5:=Bool.eq_false_iff.mpr c5
   subst c5
   have H1:(none) = some r:=by rw [if_neg (show ¬ (false = true) by decide)] at H;exact H
   clear H
   have H:=H1
   clear H1
   exact absurd H (by simp)
 ·replace c4:=Bool.eq_false_iff.mpr c4
  subst c4
  have H1:(none) = some r:=by rw [if_neg (show ¬ (false = true) by decide)] at H;exact H
  clear H
  have H:=H1
  clear H1
  exact absurd H (by simp)
end Go.Proofs.Ytllkhdhanheieaa.R
namespace Go.Proofs.Ytllkhdhanheieaa.R
open Go.RowKit Go.Proofs.YtllkhdhanheieaaW.PrintWords Go.Proofs.YtllkhdhanheieaaW.PrintLast Go.Proofs.YtllkhdhanheieaaW.PrintMore
attribute [local go_sem] max2_int min2_int max_two min_two max_three min_three max_four min_four
attribute [local go_sem high] own_gtr own_leq own_geq own_cell_set Option.map_some fld23_1
set_option linter.unusedVariables false
set_option linter.unusedSimpArgs false
def federationlaw1_within.f (a0:Int) (a1:Int):Option (Int):=if a1 = 0 then (none) else (if (Int.tmod a0 a1) < 0 then (some (wrap64 ((Int.tmod a0 a1) + a1))) else (some (Int.tmod a0 a1)))
set_option maxHeartbeats 8000000 in
set_option maxRecDepth 100000 in
theorem federationlaw1_within.calls (a0:Int) (a1:Int) (r:Int) (w:World) (h:federationlaw1_within.f a0 a1 = some r) :
  Calls Try.prog 17 #[.int .i64 a0, .int .i64 a1] w fun e w'=>e = .returned (.int .i64 r) ∧ Drawn0 w w':=by
 have H:(if a1 = 0 then (none) else (if (Int.tmod a0 a1) < 0 then (some (wrap64 ((Int.tmod a0 a1) + a1))) else (some (Int.tmod a0 a1)))) = some r:=h
 clear h
 by_cases c3:a1 = 0
 ·rw [if_pos c3] at H
  exact absurd H (by simp)
 ·rw [if_neg c3] at H
  have c3b0:(a1 == 0) = false:=beq_eq_false_iff_ne.mpr c3
  have c3b1:(a1 != 0) = true:=bne_iff_ne.mpr c3
  by_cases c4:(Int.tmod a0 a1) < 0
  ·rw [if_pos c4] at H
   have c4b0:decide ((Int.tmod a0 a1) < 0) = true:=decide_eq_true c4
   clear c4
   obtain rfl:=Option.some.inj H
   go_enter Try.func17,Try.ntmps17
   go_wp2
   go_ret
   exact ⟨by first|rfl|(simp;done)|(simp [*];done),by repeat (first|exact Drawn0.refl _|apply Drawn0.step)⟩
  ·rw [if_neg c4] at H
   have c4b0:decide ((Int.tmod a0 a1) < 0) = false:=decide_eq_false c4
   clear c4
   obtain rfl:=Option.some.inj H
   go_enter Try.func17,Try.ntmps17
   go_wp2
   go_ret
   exact ⟨by first|rfl|(simp;done)|(simp [*];done),by repeat (first|exact Drawn0.refl _|apply Drawn0.step)⟩
end Go.Proofs.Ytllkhdhanheieaa.R
