-- Written by drive.py and pack.py (programs of this proof's own) through the kit's printer; not trusted: Lean checks it.
import Derived.Test.YtllkhdhanheieaaCValReckons1
import Derived.Test.YtllkhdhanheieaaCValReckons6
import Derived.Test.YtllkhdhanheieaaCValReckons8
import Derived.Test.YtllkhdhanheieaaCValReckons5
import Derived.Test.YtllkhdhanheieaaCValReckons12
namespace Go.Proofs.Ytllkhdhanheieaa.R
open Go.RowKit Go.Proofs.YtllkhdhanheieaaW.PrintWords Go.Proofs.YtllkhdhanheieaaW.PrintLast Go.Proofs.YtllkhdhanheieaaW.PrintMore
attribute [local go_sem] max2_int min2_int max_two min_two max_three min_three max_four min_four
attribute [local go_sem high] own_gtr own_leq own_geq own_cell_set Option.map_some fld23_1
set_option linter.unusedVariables false
set_option linter.unusedSimpArgs false
attribute [local go_sem high] eqA23
mutual
def federationlaw1_ValReckons.l0:Nat → List (S23) → List Int → Int → Int → Int → Int → ByteArray → Option (Bool)
 | 0,_,_,_,_,_,_,_=>none
 | k + 1,x16,x17,x18,x111000,x111001,x111002,x111003=>if x18 < (x17.length:Int) then (federationlaw1_ValReckons.l1 k x16 x17 x18 0 x111000 x111001 x111002 x111003) else (some true)
def federationlaw1_ValReckons.l1:Nat → List (S23) → List Int → Int → Int → Int → Int → Int → ByteArray → Option (Bool)
 | 0,_,_,_,_,_,_,_,_=>none
 | k + 1,x16,x17,x18,x19,x111000,x111001,x111002,x111003=>if x19 < (x16.length:Int) then (if 0 ≤ x18 then (if x18 < (x17.length:Int) then (if 0 ≤ x19 then ((val_Reckon.f k (rd x17 x18) x111000 x111001 x111002 x111003 ((rd_T23 x16 x19).f0) ((rd_T23 x16 x19).f1) ((rd_T23 x16 x19).f2) ((rd_T23 x16 x19).f3)).bind fun bt126=>((federationref1_Reckon.f k (rd x17 x18) x111000 x111001 x111002 x111003 ((rd_T23 x16 x19).f0) ((rd_T23 x16 x19).f1) ((rd_T23 x16 x19).f2) ((rd_T23 x16 x19).f3)).bind fun bt134=>(if (!(bt126.1 == bt134.1) || (!(bt126.2.1 == bt134.2.1) || (!(bt126.2.2.1 == bt134.2.2.1) || (!(bt126.2.2.2.1.toList == bt134.2.2.2.1.toList))))) = true then (none) else (if bt126.2.2.2.2 = bt134.2.2.2.2 then (if bt126.2.2.2.2 = 0 then ((val_Right.f k bt126.1 bt126.2.1 bt126.2.2.1 bt126.2.2.2.1).bind fun t140=>(if t140 = true then (federationlaw1_ValReckons.l1 k x16 x17 x18 (wrap64 (x19 + 1)) x111000 x111001 x111002 x111003) else (none))) else (federationlaw1_ValReckons.l1 k x16 x17 x18 (wrap64 (x19 + 1)) x111000 x111001 x111002 x111003)) else (none))))) else (none)) else (none)) else (none)) else (federationlaw1_ValReckons.l0 k x16 x17 (wrap64 (x18 + 1)) x111000 x111001 x111002 x111003)
end
def federationlaw1_ValReckons.f (k:Nat) (a0:Int) (a1:Int) (a2:Int) (a3:Int) (a4:Int) (a5:ByteArray):Option (Bool):=(federationlaw1_known.f k).bind fun t101=>(if t101 = true then (if (a5.size:Int) > 100 then (some true) else ((federationlaw1_Make.f k a1 a2 a5).bind fun bt102=>((federationlaw1_Make.f k a3 a4 a5).bind fun bt106=>((federationlaw1_within.f a3 40).bind fun t112=>((federationlaw1_Make.f k (wrap64 ((Int.tmod a1 6) + (wrap64 (6 * t112)))) a4 a5).bind fun bt113=>(federationlaw1_ValReckons.l0 k (([(⟨bt106.1,bt106.2.1,bt106.2.2.1,bt106.2.2.2⟩:S23),(⟨bt113.1,bt113.2.1,bt113.2.2.1,bt113.2.2.2⟩:S23),(⟨bt102.1,bt102.2.1,bt102.2.2.1,bt102.2.2.2⟩:S23)]:List (S23))) (([a0,4,6,7,8]:List Int)) 0 bt102.1 bt102.2.1 bt102.2.2.1 bt102.2.2.2)))))) else (none))
def federationlaw1_ValReckons.T15:Bool × List (List Nat × List Nat):=(true,[([],[]),([],[]),([0,1],[0,1]),([2],[2]),([],[]),([],[]),([],[]),([5,6],[5,6]),([7],[7]),([3,4,8],[3,4,8]),([9],[9]),([10],[10]),([10],[10]),([],[]),([13,11,9,0,1,2,3,4,5,6,7,8,9,10,11,13],[11,13]),([12,14,0,1,2,3,4,5,6,7,8,9,10,11,12,13,14],[12])])
def federationlaw1_ValReckons.B15:List Nat:=[0,0,3,7,0,0,0,96,224,511,1023,2047,2047,0,12287,32767]
theorem federationlaw1_ValReckons.tab15:rtab .any (opsOf Try.f4 15) = federationlaw1_ValReckons.T15:=by kernel_rfl
theorem federationlaw1_ValReckons.bits15:waitsOk federationlaw1_ValReckons.T15.2 federationlaw1_ValReckons.B15 = true:=by kernel_rfl
def federationlaw1_ValReckons.T16:Bool × List (List Nat × List Nat):=(true,[([],[]),([],[]),([0,1],[0,1]),([2],[2]),([],[]),([],[]),([],[]),([5,6],[5,6]),([7],[7]),([3,4,8],[3,4,8]),([9],[9]),([10],[10]),([10],[10]),([],[]),([13,11,9,0,1,2,3,4,5,6,7,8,9,10,11,13],[11,13]),([12,14,0,1,2,3,4,5,6,7,8,9,10,11,12,13,14],[12])])
def federationlaw1_ValReckons.B16:List Nat:=[0,0,3,7,0,0,0,96,224,511,1023,2047,2047,0,12287,32767]
theorem federationlaw1_ValReckons.tab16:rtab .any (opsOf Try.f4 16) = federationlaw1_ValReckons.T16:=by kernel_rfl
theorem federationlaw1_ValReckons.bits16:waitsOk federationlaw1_ValReckons.T16.2 federationlaw1_ValReckons.B16 = true:=by kernel_rfl
set_option maxHeartbeats 8000000 in
set_option maxRecDepth 100000 in
theorem federationlaw1_ValReckons.calls (k:Nat) (a0:Int) (a1:Int) (a2:Int) (a3:Int) (a4:Int) (a5:ByteArray) (r:Bool) (w:World) (h:federationlaw1_ValReckons.f k a0 a1 a2 a3 a4 a5 = some r) :
  Calls Try.prog 4 #[.int .i64 a0, .int .i64 a1, .int .i64 a2, .int .i64 a3, .int .i64 a4, .string a5] w fun e w'=>e = .returned (.bool r) ∧ Below w.heap.size w w':=by
 have hu23:=Try.underlying23
 have HB:=z_ (Below.refl w.heap.size w)
 have H:((federationlaw1_known.f k).bind fun t101=>(if t101 = true then (if (a5.size:Int) > 100 then (some true) else ((federationlaw1_Make.f k a1 a2 a5).bind fun bt102=>((federationlaw1_Make.f k a3 a4 a5).bind fun bt106=>((federationlaw1_within.f a3 40).bind fun t112=>((federationlaw1_Make.f k (wrap64 ((Int.tmod a1 6) + (wrap64 (6 * t112)))) a4 a5).bind fun bt113=>(federationlaw1_ValReckons.l0 k (([(⟨bt106.1,bt106.2.1,bt106.2.2.1,bt106.2.2.2⟩:S23),(⟨bt113.1,bt113.2.1,bt113.2.2.1,bt113.2.2.2⟩:S23),(⟨bt102.1,bt102.2.1,bt102.2.2.1,bt102.2.2.2⟩:S23)]:List (S23))) (([a0,4,6,7,8]:List Int)) 0 bt102.1 bt102.2.1 bt102.2.2.1 bt102.2.2.2)))))) else (none))) = some r:=h
 clear h
 replace H:=Option.bind_eq_some_iff.mp H
 obtain ⟨t101,A70,H⟩:=H
 replace H:(if t101 = true then (if (a5.size:Int) > 100 then (some true) else ((federationlaw1_Make.f k a1 a2 a5).bind fun bt102=>((federationlaw1_Make.f k a3 a4 a5).bind fun bt106=>((federationlaw1_within.f a3 40).bind fun t112=>((federationlaw1_Make.f k (wrap64 ((Int.tmod a1 6) + (wrap64 (6 * t112)))) a4 a5).bind fun bt113=>(federationlaw1_ValReckons.l0 k (([(⟨bt106.1,bt106.2.1,bt106.2.2.1,bt106.2.2.2⟩:S23),(⟨bt113.1,bt113.2.1,bt113.2.2.1,bt113.2.2.2⟩:S23),(⟨bt102.1,bt102.2.1,bt102.2.2.1,bt102.2.2.2⟩:S23)]:List (S23))) (([a0,4,6,7,8]:List Int)) 0 bt102.1 bt102.2.1 bt102.2.2.1 bt102.2.2.2)))))) else (none)) = some r:=H
 have A7:=z_ A70
 clear A70
 by_cases c8:t101 = true
 ·subst c8
  have H1:(if (a5.size:Int) > 100 then (some true) else ((federationlaw1_Make.f k a1 a2 a5).bind fun bt102=>((federationlaw1_Make.f k a3 a4 a5).bind fun bt106=>((federationlaw1_within.f a3 40).bind fun t112=>((federationlaw1_Make.f k (wrap64 ((Int.tmod a1 6) + (wrap64 (6 * t112)))) a4 a5).bind fun bt113=>(federationlaw1_ValReckons.l0 k (([(⟨bt106.1,bt106.2.1,bt106.2.2.1,bt106.2.2.2⟩:S23),(⟨bt113.1,bt113.2.1,bt113.2.2.1,bt113.2.2.2⟩:S23),(⟨bt102.1,bt102.2.1,bt102.2.2.1,bt102.2.2.2⟩:S23)]:List (S23))) (([a0,4,6,7,8]:List Int)) 0 bt102.1 bt102.2.1 bt102.2.2.1 bt102.2.2.2)))))) = some r:=by rw [if_pos rfl] at H;exact H
  clear H
  have H:=H1
  clear H1
  by_cases c9:(a5.size:Int) > 100
  ·rw [if_pos c9] at H
   have c9b0:decide (100 < (a5.size:Int)) = true:=decide_eq_true c9
   have c9b1:decide (100 < a5.size) = true:=decide_eq_true (by omega)
   clear c9
   obtain rfl:=Option.some.inj H
   go_enter Try.func4,Try.ntmps4
   go_wp2_with (first|((with_reducible refine gate_callee (f:=13) rfl ?_);refine goesL_ (some 24) rfl rfl Try.func13 (by kernel_rfl) rfl #[] rfl (by (try simp only [List.map_toArray,List.map_cons,List.map_nil]);first|done|rfl|(simp only [List.length_drop,List.length_take];rfl)) ?_;(with_reducible refine (federationlaw1_known.calls k  true _ A7.out).mono ?_);rintro e w10 ⟨rfl,hb⟩;refine ⟨_,rfl,?_⟩;have n0_:=z_ (below_step (by repeat first|(with_reducible first|exact HB.out|apply zA|apply zN|apply z1)|exact HB.out) hb);clear HB;have HB:=n0_;clear n0_;(try clear hb);(try clear hb2);(try clear hk);(try clear hi)))
   go_ret
   exact ⟨by first|rfl|(simp [errW_none,errW_some] <;> rfl)|(simp [*,errW_none,errW_some] <;> rfl),by repeat first|(with_reducible first|exact HB.out|apply zA|apply zN|apply z1)|exact HB.out⟩
  ·rw [if_neg c9] at H
   have c9b0:decide (100 < (a5.size:Int)) = false:=decide_eq_false c9
   have c9b1:decide (100 < a5.size) = false:=decide_eq_false (by omega)
   clear c9
   replace H:=Option.bind_eq_some_iff.mp H
   obtain ⟨⟨t102,t103,t104,t105⟩,A110,H⟩:=H
   replace H:((federationlaw1_Make.f k a3 a4 a5).bind fun bt106=>((federationlaw1_within.f a3 40).bind fun t112=>((federationlaw1_Make.f k (wrap64 ((Int.tmod a1 6) + (wrap64 (6 * t112)))) a4 a5).bind fun bt113=>(federationlaw1_ValReckons.l0 k (([(⟨bt106.1,bt106.2.1,bt106.2.2.1,bt106.2.2.2⟩:S23),(⟨bt113.1,bt113.2.1,bt113.2.2.1,bt113.2.2.2⟩:S23),(⟨t102,t103,t104,t105⟩:S23)]:List (S23))) (([a0,4,6,7,8]:List Int)) 0 t102 t103 t104 t105)))) = some r:=H
   have A11:=z_ A110
   clear A110
   replace H:=Option.bind_eq_some_iff.mp H
   obtain ⟨⟨t106,t107,t108,t109⟩,A120,H⟩:=H
   replace H:((federationlaw1_within.f a3 40).bind fun t112=>((federationlaw1_Make.f k (wrap64 ((Int.tmod a1 6) + (wrap64 (6 * t112)))) a4 a5).bind fun bt113=>(federationlaw1_ValReckons.l0 k (([(⟨t106,t107,t108,t109⟩:S23),(⟨bt113.1,bt113.2.1,bt113.2.2.1,bt113.2.2.2⟩:S23),(⟨t102,t103,t104,t105⟩:S23)]:List (S23))) (([a0,4,6,7,8]:List Int)) 0 t102 t103 t104 t105))) = some r:=H
   have A12:=z_ A120
   clear A120
   replace H:=Option.bind_eq_some_iff.mp H
   obtain ⟨t112,A130,H⟩:=H
   replace H:((federationlaw1_Make.f k (wrap64 ((Int.tmod a1 6) + (wrap64 (6 * t112)))) a4 a5).bind fun bt113=>(federationlaw1_ValReckons.l0 k (([(⟨t106,t107,t108,t109⟩:S23),(⟨bt113.1,bt113.2.1,bt113.2.2.1,bt113.2.2.2⟩:S23),(⟨t102,t103,t104,t105⟩:S23)]:List (S23))) (([a0,4,6,7,8]:List Int)) 0 t102 t103 t104 t105)) = some r:=H
   have A13:=z_ A130
   clear A130
   replace H:=Option.bind_eq_some_iff.mp H
   obtain ⟨⟨t113,t114,t115,t116⟩,A140,H⟩:=H
   replace H:(federationlaw1_ValReckons.l0 k (([(⟨t106,t107,t108,t109⟩:S23),(⟨t113,t114,t115,t116⟩:S23),(⟨t102,t103,t104,t105⟩:S23)]:List (S23))) (([a0,4,6,7,8]:List Int)) 0 t102 t103 t104 t105) = some r:=H
   have A14:=z_ A140
   clear A140
   obtain ⟨y118,hy118⟩:∃ y_:List (S23),y_ = (([(⟨t106,t107,t108,t109⟩:S23),(⟨t113,t114,t115,t116⟩:S23),(⟨t102,t103,t104,t105⟩:S23)]:List (S23))):=⟨_,rfl⟩
   replace H:(federationlaw1_ValReckons.l0 k y118 (([a0,4,6,7,8]:List Int)) 0 t102 t103 t104 t105) = some r:=by first|(rw [hy118];with_reducible exact H)|(have H2_:=(Option.bind_some _ _).symm.trans H;rw [hy118];with_reducible exact H2_)|(have H2_:=(Option.bind_some _ _).symm.trans H;with_reducible exact H2_)|with_reducible exact H|(rw [hy118];exact H)|exact H
   have Ny118:=z_ hy118
   clear hy118
   obtain ⟨y121,hy121⟩:∃ y_:List Int,y_ = (([a0,4,6,7,8]:List Int)):=⟨_,rfl⟩
   replace H:(federationlaw1_ValReckons.l0 k y118 y121 0 t102 t103 t104 t105) = some r:=by first|(rw [hy121];with_reducible exact H)|(have H2_:=(Option.bind_some _ _).symm.trans H;rw [hy121];with_reducible exact H2_)|(have H2_:=(Option.bind_some _ _).symm.trans H;with_reducible exact H2_)|with_reducible exact H|(rw [hy121];exact H)|exact H
   have Ny121:=z_ hy121
   clear hy121
   have H':=z_ H
   clear H
   go_enter Try.func4,Try.ntmps4
   go_wp2_with (first|((with_reducible refine gate_callee (f:=13) rfl ?_);refine goesL_ (some 24) rfl rfl Try.func13 (by kernel_rfl) rfl #[] rfl (by (try simp only [List.map_toArray,List.map_cons,List.map_nil]);first|done|rfl|(simp only [List.length_drop,List.length_take];rfl)) ?_;(with_reducible refine (federationlaw1_known.calls k  true _ A7.out).mono ?_);rintro e w15 ⟨rfl,hb⟩;refine ⟨_,rfl,?_⟩;have n0_:=z_ (below_step (by repeat first|(with_reducible first|exact HB.out|apply zA|apply zN|apply z1)|exact HB.out) hb);clear HB;have HB:=n0_;clear n0_;(try clear hb);(try clear hb2);(try clear hk);(try clear hi))|((with_reducible refine gate_callee (f:=14) rfl ?_);refine goesL_ (some 32) rfl rfl Try.func14 (by kernel_rfl) rfl #[.int .i64 a1, .int .i64 a2, .string a5] rfl (by (try simp only [List.map_toArray,List.map_cons,List.map_nil]);first|done|rfl|(simp only [List.length_drop,List.length_take];rfl)) ?_;(with_reducible refine (federationlaw1_Make.calls k a1 a2 a5 t102 t103 t104 t105 _ A11.out).mono ?_);rintro e w16 ⟨rfl,hb⟩;refine ⟨_,rfl,?_⟩;have n0_:=z_ (below_step (by repeat first|(with_reducible first|exact HB.out|apply zA|apply zN|apply z1)|exact HB.out) hb);clear HB;have HB:=n0_;clear n0_;(try clear hb);(try clear hb2);(try clear hk);(try clear hi))|((with_reducible refine gate_callee (f:=14) rfl ?_);refine goesL_ (some 36) rfl rfl Try.func14 (by kernel_rfl) rfl #[.int .i64 a3, .int .i64 a4, .string a5] rfl (by (try simp only [List.map_toArray,List.map_cons,List.map_nil]);first|done|rfl|(simp only [List.length_drop,List.length_take];rfl)) ?_;(with_reducible refine (federationlaw1_Make.calls k a3 a4 a5 t106 t107 t108 t109 _ A12.out).mono ?_);rintro e w17 ⟨rfl,hb⟩;refine ⟨_,rfl,?_⟩;have n0_:=z_ (below_step (by repeat first|(with_reducible first|exact HB.out|apply zA|apply zN|apply z1)|exact HB.out) hb);clear HB;have HB:=n0_;clear n0_;(try clear hb);(try clear hb2);(try clear hk);(try clear hi))|((with_reducible refine gate_dst (N:=13) rfl ?_);refine box_event ?hg (N:=13) ?hd (cs:=#[.int .i64 0, .int .i64 0, .int .i64 0, .string (⟨#[]⟩:ByteArray)]) (t:=23) ?hr ?_;(case hd=>rfl);(case hg=>rfl);(case hr=>first|(go_simp;done)|(go_simp;rfl));intro gb110 hg w18 hbox hb;have n0_:=z_ (below_step (by repeat first|(with_reducible first|exact HB.out|apply zA|apply zN|apply z1)|exact HB.out) hb);have n1_:=z_ (hbox);have n2_:=z_ ((by rw [hg];exact (zBs (by repeat first|(with_reducible first|exact HB.out|apply zA|apply zN|apply z1)|exact HB.out)):w.heap.size ≤ gb110));have n3_:=z_ ((by rw [hg];exact (zBs (by repeat first|(with_reducible first|exact HB.out|apply zA|apply zN|apply z1)|exact HB.out)):w.heap.size ≤ gb110));clear HB;have HB:=n0_;have BK110:=n1_;have GW110:=n2_;have GE110:=n3_;clear n0_ n1_ n2_ n3_;clear hb hbox hg)|((with_reducible refine gate_dst (N:=14) rfl ?_);refine box_event ?hg (N:=14) ?hd (cs:=#[.int .i64 0, .int .i64 0, .int .i64 0, .string (⟨#[]⟩:ByteArray)]) (t:=23) ?hr ?_;(case hd=>rfl);(case hg=>rfl);(case hr=>first|(go_simp;done)|(go_simp;rfl));intro gb111 hg w19 hbox hb;have n0_:=z_ (zbb (g:=gb110) (o:=.cells #[.int .i64 0, .int .i64 0, .int .i64 0, .string (⟨#[]⟩:ByteArray)] 23 (0,0)) (by (with_reducible repeat first|apply zbN|apply zb1|apply zbA);exact BK110.out) hb);have n1_:=z_ (below_step (by repeat first|(with_reducible first|exact HB.out|apply zA|apply zN|apply z1|refine zS ?_ GE110.out)|exact HB.out) hb);have n2_:=z_ (hbox);have n3_:=z_ ((by rw [hg];exact (zBs (by repeat first|(with_reducible first|exact HB.out|apply zA|apply zN|apply z1|refine zS ?_ GE110.out)|exact HB.out)):w.heap.size ≤ gb111));have n4_:=z_ ((by rw [hg];exact (zBs (by repeat first|(with_reducible first|exact HB.out|apply zA|apply zN|apply z1|refine zS ?_ GE110.out)|exact HB.out)):w.heap.size ≤ gb111));have n5_:=z_ ((by rw [hg];exact Nat.ne_of_lt (blk_lt (g:=gb110) (o:=.cells #[.int .i64 0, .int .i64 0, .int .i64 0, .string (⟨#[]⟩:ByteArray)] 23 (0,0)) (by (with_reducible repeat first|apply zbN|apply zb1|apply zbA);exact BK110.out)):gb110 ≠ gb111));have n6_:=z_ ((by rw [hg];exact Nat.ne_of_gt (blk_lt (g:=gb110) (o:=.cells #[.int .i64 0, .int .i64 0, .int .i64 0, .string (⟨#[]⟩:ByteArray)] 23 (0,0)) (by (with_reducible repeat first|apply zbN|apply zb1|apply zbA);exact BK110.out)):gb111 ≠ gb110));clear BK110;clear HB;have BK110:=n0_;have HB:=n1_;have BK111:=n2_;have GW111:=n3_;have GE111:=n4_;have NB110_111:=n5_;have NB111_110:=n6_;clear n0_ n1_ n2_ n3_ n4_ n5_ n6_;clear hb hbox hg;have hnb20:=NB110_111.out;have hnc20:=NB111_110.out;have hcz21_0:w19.cell? ⟨gb110,0,none⟩ = some (.int .i64 0):=(zce BK110.out 0).trans rfl;have hcz21_1:w19.cell? ⟨gb110,1,none⟩ = some (.int .i64 0):=(zce BK110.out 1).trans rfl;have hcz21_2:w19.cell? ⟨gb110,2,none⟩ = some (.int .i64 0):=(zce BK110.out 2).trans rfl;have hcz21_3:w19.cell? ⟨gb110,3,none⟩ = some (.string (⟨#[]⟩:ByteArray)):=(zce BK110.out 3).trans rfl;have hfz21_0:=zfz BK110.out 0;have hfz21_1:=zfz BK110.out 1;have hfz21_2:=zfz BK110.out 2;have hfz21_3:=zfz BK110.out 3;have hcz22_0:w19.cell? ⟨gb111,0,none⟩ = some (.int .i64 0):=(zce BK111.out 0).trans rfl;have hcz22_1:w19.cell? ⟨gb111,1,none⟩ = some (.int .i64 0):=(zce BK111.out 1).trans rfl;have hcz22_2:w19.cell? ⟨gb111,2,none⟩ = some (.int .i64 0):=(zce BK111.out 2).trans rfl;have hcz22_3:w19.cell? ⟨gb111,3,none⟩ = some (.string (⟨#[]⟩:ByteArray)):=(zce BK111.out 3).trans rfl;have hfz22_0:=zfz BK111.out 0;have hfz22_1:=zfz BK111.out 1;have hfz22_2:=zfz BK111.out 2;have hfz22_3:=zfz BK111.out 3)|((with_reducible refine gate_callee (f:=17) rfl ?_);refine goesL_ (some 40) rfl rfl Try.func17 (by kernel_rfl) rfl #[.int .i64 a3, .int .i64 40] rfl (by (try simp only [List.map_toArray,List.map_cons,List.map_nil]);first|done|rfl|(simp only [List.length_drop,List.length_take];rfl)) ?_;(with_reducible refine (federationlaw1_within.calls a3 40 t112 _ A13.out).mono ?_);rintro e w' ⟨rfl,⟨nd,rfl⟩⟩;refine ⟨_,rfl,?_⟩)|((with_reducible refine gate_callee (f:=14) rfl ?_);refine goesL_ (some 45) rfl rfl Try.func14 (by kernel_rfl) rfl #[.int .i64 (wrap64 ((Int.tmod a1 6) + (wrap64 (6 * t112)))), .int .i64 a4, .string a5] rfl (by (try simp only [List.map_toArray,List.map_cons,List.map_nil]);first|done|rfl|(simp only [List.length_drop,List.length_take];rfl)) ?_;(with_reducible refine (federationlaw1_Make.calls k (wrap64 ((Int.tmod a1 6) + (wrap64 (6 * t112)))) a4 a5 t113 t114 t115 t116 _ A14.out).mono ?_);rintro e w23 ⟨rfl,hb⟩;refine ⟨_,rfl,?_⟩;have n0_:=z_ (zbb (g:=gb110) (o:=.cells #[.int .i64 t102, .int .i64 t103, .int .i64 t104, .string t105] 23 (0,0)) (by (with_reducible repeat first|apply zbN|apply zb1|apply zbA);refine zbf ?_ NB110_111.out _;(with_reducible repeat first|apply zbN|apply zb1|apply zbA);refine zbf ?_ NB110_111.out _;(with_reducible repeat first|apply zbN|apply zb1|apply zbA);refine zbf ?_ NB110_111.out _;(with_reducible repeat first|apply zbN|apply zb1|apply zbA);refine zbf ?_ NB110_111.out _;(with_reducible repeat first|apply zbN|apply zb1|apply zbA);refine zbp (cs:=#[.int .i64 t102, .int .i64 t103, .int .i64 t104, .string (⟨#[]⟩:ByteArray)]) ?_ 3 _ rfl;(with_reducible repeat first|apply zbN|apply zb1|apply zbA);refine zbp (cs:=#[.int .i64 t102, .int .i64 t103, .int .i64 0, .string (⟨#[]⟩:ByteArray)]) ?_ 2 _ rfl;(with_reducible repeat first|apply zbN|apply zb1|apply zbA);refine zbp (cs:=#[.int .i64 t102, .int .i64 0, .int .i64 0, .string (⟨#[]⟩:ByteArray)]) ?_ 1 _ rfl;(with_reducible repeat first|apply zbN|apply zb1|apply zbA);refine zbp (cs:=#[.int .i64 0, .int .i64 0, .int .i64 0, .string (⟨#[]⟩:ByteArray)]) ?_ 0 _ rfl;(with_reducible repeat first|apply zbN|apply zb1|apply zbA);exact BK110.out) hb);have n1_:=z_ (zbb (g:=gb111) (o:=.cells #[.int .i64 t106, .int .i64 t107, .int .i64 t108, .string t109] 23 (0,0)) (by (with_reducible repeat first|apply zbN|apply zb1|apply zbA);refine zbp (cs:=#[.int .i64 t106, .int .i64 t107, .int .i64 t108, .string (⟨#[]⟩:ByteArray)]) ?_ 3 _ rfl;(with_reducible repeat first|apply zbN|apply zb1|apply zbA);refine zbp (cs:=#[.int .i64 t106, .int .i64 t107, .int .i64 0, .string (⟨#[]⟩:ByteArray)]) ?_ 2 _ rfl;(with_reducible repeat first|apply zbN|apply zb1|apply zbA);refine zbp (cs:=#[.int .i64 t106, .int .i64 0, .int .i64 0, .string (⟨#[]⟩:ByteArray)]) ?_ 1 _ rfl;(with_reducible repeat first|apply zbN|apply zb1|apply zbA);refine zbp (cs:=#[.int .i64 0, .int .i64 0, .int .i64 0, .string (⟨#[]⟩:ByteArray)]) ?_ 0 _ rfl;(with_reducible repeat first|apply zbN|apply zb1|apply zbA);refine zbf ?_ NB111_110.out _;(with_reducible repeat first|apply zbN|apply zb1|apply zbA);refine zbf ?_ NB111_110.out _;(with_reducible repeat first|apply zbN|apply zb1|apply zbA);refine zbf ?_ NB111_110.out _;(with_reducible repeat first|apply zbN|apply zb1|apply zbA);refine zbf ?_ NB111_110.out _;(with_reducible repeat first|apply zbN|apply zb1|apply zbA);exact BK111.out) hb);have n2_:=z_ (below_step (by repeat first|(with_reducible first|exact HB.out|apply zA|apply zN|apply z1|refine zS ?_ GE110.out|refine zS ?_ GE111.out)|exact HB.out) hb);clear BK110;clear BK111;clear HB;have BK110:=n0_;have BK111:=n1_;have HB:=n2_;clear n0_ n1_ n2_;(try clear hb);(try clear hb2);(try clear hk);(try clear hi))|((with_reducible refine gate_dst (N:=15) rfl ?_);refine box_event ?hg (N:=15) ?hd (cs:=#[.int .i64 0, .int .i64 0, .int .i64 0, .string (⟨#[]⟩:ByteArray)]) (t:=23) ?hr ?_;(case hd=>rfl);(case hg=>rfl);(case hr=>first|(go_simp;done)|(go_simp;rfl));intro gb117 hg w24 hbox hb;have n0_:=z_ (zbb (g:=gb110) (o:=.cells #[.int .i64 t102, .int .i64 t103, .int .i64 t104, .string t105] 23 (0,0)) (by (with_reducible repeat first|apply zbN|apply zb1|apply zbA);exact BK110.out) hb);have n1_:=z_ (zbb (g:=gb111) (o:=.cells #[.int .i64 t106, .int .i64 t107, .int .i64 t108, .string t109] 23 (0,0)) (by (with_reducible repeat first|apply zbN|apply zb1|apply zbA);exact BK111.out) hb);have n2_:=z_ (below_step (by repeat first|(with_reducible first|exact HB.out|apply zA|apply zN|apply z1|refine zS ?_ GE110.out|refine zS ?_ GE111.out)|exact HB.out) hb);have n3_:=z_ (hbox);have n4_:=z_ ((by rw [hg];exact (zBs (by repeat first|(with_reducible first|exact HB.out|apply zA|apply zN|apply z1|refine zS ?_ GE110.out|refine zS ?_ GE111.out)|exact HB.out)):w.heap.size ≤ gb117));have n5_:=z_ ((by rw [hg];exact (zBs (by repeat first|(with_reducible first|exact HB.out|apply zA|apply zN|apply z1|refine zS ?_ GE110.out|refine zS ?_ GE111.out)|exact HB.out)):w.heap.size ≤ gb117));have n6_:=z_ ((by rw [hg];exact Nat.ne_of_lt (blk_lt (g:=gb110) (o:=.cells #[.int .i64 t102, .int .i64 t103, .int .i64 t104, .string t105] 23 (0,0)) (by (with_reducible repeat first|apply zbN|apply zb1|apply zbA);exact BK110.out)):gb110 ≠ gb117));have n7_:=z_ ((by rw [hg];exact Nat.ne_of_gt (blk_lt (g:=gb110) (o:=.cells #[.int .i64 t102, .int .i64 t103, .int .i64 t104, .string t105] 23 (0,0)) (by (with_reducible repeat first|apply zbN|apply zb1|apply zbA);exact BK110.out)):gb117 ≠ gb110));have n8_:=z_ ((by rw [hg];exact Nat.ne_of_lt (blk_lt (g:=gb111) (o:=.cells #[.int .i64 t106, .int .i64 t107, .int .i64 t108, .string t109] 23 (0,0)) (by (with_reducible repeat first|apply zbN|apply zb1|apply zbA);exact BK111.out)):gb111 ≠ gb117));have n9_:=z_ ((by rw [hg];exact Nat.ne_of_gt (blk_lt (g:=gb111) (o:=.cells #[.int .i64 t106, .int .i64 t107, .int .i64 t108, .string t109] 23 (0,0)) (by (with_reducible repeat first|apply zbN|apply zb1|apply zbA);exact BK111.out)):gb117 ≠ gb111));clear BK110;clear BK111;clear HB;have BK110:=n0_;have BK111:=n1_;have HB:=n2_;have BK117:=n3_;have GW117:=n4_;have GE117:=n5_;have NB110_117:=n6_;have NB117_110:=n7_;have NB111_117:=n8_;have NB117_111:=n9_;clear n0_ n1_ n2_ n3_ n4_ n5_ n6_ n7_ n8_ n9_;clear hb hbox hg;have hnb25:=NB117_110.out;have hnc25:=NB110_117.out;have hnb26:=NB117_111.out;have hnc26:=NB111_117.out;have hcz27_0:w24.cell? ⟨gb117,0,none⟩ = some (.int .i64 0):=(zce BK117.out 0).trans rfl;have hcz27_1:w24.cell? ⟨gb117,1,none⟩ = some (.int .i64 0):=(zce BK117.out 1).trans rfl;have hcz27_2:w24.cell? ⟨gb117,2,none⟩ = some (.int .i64 0):=(zce BK117.out 2).trans rfl;have hcz27_3:w24.cell? ⟨gb117,3,none⟩ = some (.string (⟨#[]⟩:ByteArray)):=(zce BK117.out 3).trans rfl;have hfz27_0:=zfz BK117.out 0;have hfz27_1:=zfz BK117.out 1;have hfz27_2:=zfz BK117.out 2;have hfz27_3:=zfz BK117.out 3;have hcz28_0:w24.cell? ⟨gb111,0,none⟩ = some (.int .i64 t106):=(zce BK111.out 0).trans rfl;have hcz28_1:w24.cell? ⟨gb111,1,none⟩ = some (.int .i64 t107):=(zce BK111.out 1).trans rfl;have hcz28_2:w24.cell? ⟨gb111,2,none⟩ = some (.int .i64 t108):=(zce BK111.out 2).trans rfl;have hcz28_3:w24.cell? ⟨gb111,3,none⟩ = some (.string t109):=(zce BK111.out 3).trans rfl;have hfz28_0:=zfz BK111.out 0;have hfz28_1:=zfz BK111.out 1;have hfz28_2:=zfz BK111.out 2;have hfz28_3:=zfz BK111.out 3;have hcz29_0:w24.cell? ⟨gb110,0,none⟩ = some (.int .i64 t102):=(zce BK110.out 0).trans rfl;have hcz29_1:w24.cell? ⟨gb110,1,none⟩ = some (.int .i64 t103):=(zce BK110.out 1).trans rfl;have hcz29_2:w24.cell? ⟨gb110,2,none⟩ = some (.int .i64 t104):=(zce BK110.out 2).trans rfl;have hcz29_3:w24.cell? ⟨gb110,3,none⟩ = some (.string t105):=(zce BK110.out 3).trans rfl;have hfz29_0:=zfz BK110.out 0;have hfz29_1:=zfz BK110.out 1;have hfz29_2:=zfz BK110.out 2;have hfz29_3:=zfz BK110.out 3)|((with_reducible refine gate_dst (N:=49) rfl ?_);refine Kd.R_lit k23 _ 23 ?hg (N:=49) ?hd (xs:=([(⟨t106,t107,t108,t109⟩:S23),(⟨t113,t114,t115,t116⟩:S23),(⟨t102,t103,t104,t105⟩:S23)]:List (S23))) (inner:=[.int .i64 t106, .int .i64 t107, .int .i64 t108, .string t109, .int .i64 t113, .int .i64 t114, .int .i64 t115, .string t116, .int .i64 t102, .int .i64 t103, .int .i64 t104, .string t105]) (ok:=fun _=>True) (okp:=fun _=>True) ?hr ?hp (fun _ hk=>hk) trivial (Below.refl _ _) (Nat.le_refl _) (by simp) ?_;(case hd=>rfl);(case hg=>rfl);(case hr=>first|(go_simp;done)|(go_simp;rfl));(case hp=>exact (Reps.c4 (show Kd.M k23 _ _ _ (⟨t106,t107,t108,t109⟩:S23) [.int .i64 t106, .int .i64 t107, .int .i64 t108, .string t109] from (k23_mkM _ _ _ (⟨t106,t107,t108,t109⟩:S23) )) (Reps.c4 (show Kd.M k23 _ _ _ (⟨t113,t114,t115,t116⟩:S23) [.int .i64 t113, .int .i64 t114, .int .i64 t115, .string t116] from (k23_mkM _ _ _ (⟨t113,t114,t115,t116⟩:S23) )) (Reps.c4 (show Kd.M k23 _ _ _ (⟨t102,t103,t104,t105⟩:S23) [.int .i64 t102, .int .i64 t103, .int .i64 t104, .string t105] from (k23_mkM _ _ _ (⟨t102,t103,t104,t105⟩:S23) )) (Reps.none _ _)))));intro v119 w30 ho31 hb hg_ hnew_;clear hg_ hnew_;(first|rw [← Ny118.out] at ho31|(simp only [Int.reduceToNat] at ho31;rw [← Ny118.out] at ho31));have n0_:=z_ (Kd.R_lower (Kd.R_newB (Kd.R_newB (Kd.R_newB ho31 (g:=gb110) (o:=.cells #[.int .i64 t102, .int .i64 t103, .int .i64 t104, .string t105] 23 (0,0)) (by (with_reducible repeat first|apply zbN|apply zb1|apply zbA);refine zbf ?_ NB110_117.out _;(with_reducible repeat first|apply zbN|apply zb1|apply zbA);refine zbf ?_ NB110_117.out _;(with_reducible repeat first|apply zbN|apply zb1|apply zbA);refine zbf ?_ NB110_117.out _;(with_reducible repeat first|apply zbN|apply zb1|apply zbA);refine zbf ?_ NB110_117.out _;(with_reducible repeat first|apply zbN|apply zb1|apply zbA);exact BK110.out)) (g:=gb111) (o:=.cells #[.int .i64 t106, .int .i64 t107, .int .i64 t108, .string t109] 23 (0,0)) (by (with_reducible repeat first|apply zbN|apply zb1|apply zbA);refine zbf ?_ NB111_117.out _;(with_reducible repeat first|apply zbN|apply zb1|apply zbA);refine zbf ?_ NB111_117.out _;(with_reducible repeat first|apply zbN|apply zb1|apply zbA);refine zbf ?_ NB111_117.out _;(with_reducible repeat first|apply zbN|apply zb1|apply zbA);refine zbf ?_ NB111_117.out _;(with_reducible repeat first|apply zbN|apply zb1|apply zbA);exact BK111.out)) (g:=gb117) (o:=.cells #[.int .i64 t113, .int .i64 t114, .int .i64 t115, .string t116] 23 (0,0)) (by (with_reducible repeat first|apply zbN|apply zb1|apply zbA);refine zbp (cs:=#[.int .i64 t113, .int .i64 t114, .int .i64 t115, .string (⟨#[]⟩:ByteArray)]) ?_ 3 _ rfl;(with_reducible repeat first|apply zbN|apply zb1|apply zbA);refine zbp (cs:=#[.int .i64 t113, .int .i64 t114, .int .i64 0, .string (⟨#[]⟩:ByteArray)]) ?_ 2 _ rfl;(with_reducible repeat first|apply zbN|apply zb1|apply zbA);refine zbp (cs:=#[.int .i64 t113, .int .i64 0, .int .i64 0, .string (⟨#[]⟩:ByteArray)]) ?_ 1 _ rfl;(with_reducible repeat first|apply zbN|apply zb1|apply zbA);refine zbp (cs:=#[.int .i64 0, .int .i64 0, .int .i64 0, .string (⟨#[]⟩:ByteArray)]) ?_ 0 _ rfl;(with_reducible repeat first|apply zbN|apply zb1|apply zbA);exact BK117.out)) (zBs (by repeat first|(with_reducible first|exact HB.out|apply zA|apply zN|apply z1|refine zS ?_ GE110.out|refine zS ?_ GE111.out|refine zS ?_ GE117.out)|exact HB.out)));have n1_:=z_ (zbb (g:=gb110) (o:=.cells #[.int .i64 t102, .int .i64 t103, .int .i64 t104, .string t105] 23 (0,0)) (by (with_reducible repeat first|apply zbN|apply zb1|apply zbA);refine zbf ?_ NB110_117.out _;(with_reducible repeat first|apply zbN|apply zb1|apply zbA);refine zbf ?_ NB110_117.out _;(with_reducible repeat first|apply zbN|apply zb1|apply zbA);refine zbf ?_ NB110_117.out _;(with_reducible repeat first|apply zbN|apply zb1|apply zbA);refine zbf ?_ NB110_117.out _;(with_reducible repeat first|apply zbN|apply zb1|apply zbA);exact BK110.out) hb);have n2_:=z_ (zbb (g:=gb111) (o:=.cells #[.int .i64 t106, .int .i64 t107, .int .i64 t108, .string t109] 23 (0,0)) (by (with_reducible repeat first|apply zbN|apply zb1|apply zbA);refine zbf ?_ NB111_117.out _;(with_reducible repeat first|apply zbN|apply zb1|apply zbA);refine zbf ?_ NB111_117.out _;(with_reducible repeat first|apply zbN|apply zb1|apply zbA);refine zbf ?_ NB111_117.out _;(with_reducible repeat first|apply zbN|apply zb1|apply zbA);refine zbf ?_ NB111_117.out _;(with_reducible repeat first|apply zbN|apply zb1|apply zbA);exact BK111.out) hb);have n3_:=z_ (zbb (g:=gb117) (o:=.cells #[.int .i64 t113, .int .i64 t114, .int .i64 t115, .string t116] 23 (0,0)) (by (with_reducible repeat first|apply zbN|apply zb1|apply zbA);refine zbp (cs:=#[.int .i64 t113, .int .i64 t114, .int .i64 t115, .string (⟨#[]⟩:ByteArray)]) ?_ 3 _ rfl;(with_reducible repeat first|apply zbN|apply zb1|apply zbA);refine zbp (cs:=#[.int .i64 t113, .int .i64 t114, .int .i64 0, .string (⟨#[]⟩:ByteArray)]) ?_ 2 _ rfl;(with_reducible repeat first|apply zbN|apply zb1|apply zbA);refine zbp (cs:=#[.int .i64 t113, .int .i64 0, .int .i64 0, .string (⟨#[]⟩:ByteArray)]) ?_ 1 _ rfl;(with_reducible repeat first|apply zbN|apply zb1|apply zbA);refine zbp (cs:=#[.int .i64 0, .int .i64 0, .int .i64 0, .string (⟨#[]⟩:ByteArray)]) ?_ 0 _ rfl;(with_reducible repeat first|apply zbN|apply zb1|apply zbA);exact BK117.out) hb);have n4_:=z_ (below_step (by repeat first|(with_reducible first|exact HB.out|apply zA|apply zN|apply z1|refine zS ?_ GE110.out|refine zS ?_ GE111.out|refine zS ?_ GE117.out)|exact HB.out) hb);clear BK110;clear BK111;clear BK117;clear HB;have HO120:=n0_;have BK110:=n1_;have BK111:=n2_;have BK117:=n3_;have HB:=n4_;clear n0_ n1_ n2_ n3_ n4_;clear hb ho31)|((with_reducible refine gate_dst (N:=51) rfl ?_);refine Kd.R_lit (Kd.int .i64) _ 3 ?hg (N:=51) ?hd (xs:=([a0,4,6,7,8]:List Int)) (inner:=[.int .i64 a0, .int .i64 4, .int .i64 6, .int .i64 7, .int .i64 8]) (ok:=fun _=>True) (okp:=fun _=>True) ?hr ?hp (fun _ hk=>hk) trivial (Below.refl _ _) (Nat.le_refl _) (by simp) ?_;(case hd=>rfl);(case hg=>rfl);(case hr=>first|(go_simp;done)|(go_simp;rfl));(case hp=>exact (Reps.one (show Kd.M (Kd.int .i64) _ _ _ a0 [.int .i64 a0] from rfl) (Reps.one (show Kd.M (Kd.int .i64) _ _ _ 4 [.int .i64 4] from rfl) (Reps.one (show Kd.M (Kd.int .i64) _ _ _ 6 [.int .i64 6] from rfl) (Reps.one (show Kd.M (Kd.int .i64) _ _ _ 7 [.int .i64 7] from rfl) (Reps.one (show Kd.M (Kd.int .i64) _ _ _ 8 [.int .i64 8] from rfl) (Reps.none _ _)))))));intro v122 w32 ho33 hb hg_ hnew_;clear hg_ hnew_;(first|rw [← Ny121.out] at ho33|(simp only [Int.reduceToNat] at ho33;rw [← Ny121.out] at ho33));have n0_:=z_ (Kd.R_below (by (with_reducible repeat (first|apply Kd.R_alloc|apply Kd.R_drewN|apply Kd.R_drew));exact HO120.out) hb);have n1_:=z_ (Kd.R_lower ho33 (zBs (by repeat first|(with_reducible first|exact HB.out|apply zA|apply zN|apply z1|refine zS ?_ GE110.out|refine zS ?_ GE111.out|refine zS ?_ GE117.out)|exact HB.out)));have n2_:=z_ (zbb (g:=gb110) (o:=.cells #[.int .i64 t102, .int .i64 t103, .int .i64 t104, .string t105] 23 (0,0)) (by (with_reducible repeat first|apply zbN|apply zb1|apply zbA);exact BK110.out) hb);have n3_:=z_ (zbb (g:=gb111) (o:=.cells #[.int .i64 t106, .int .i64 t107, .int .i64 t108, .string t109] 23 (0,0)) (by (with_reducible repeat first|apply zbN|apply zb1|apply zbA);exact BK111.out) hb);have n4_:=z_ (zbb (g:=gb117) (o:=.cells #[.int .i64 t113, .int .i64 t114, .int .i64 t115, .string t116] 23 (0,0)) (by (with_reducible repeat first|apply zbN|apply zb1|apply zbA);exact BK117.out) hb);have n5_:=z_ (below_step (by repeat first|(with_reducible first|exact HB.out|apply zA|apply zN|apply z1|refine zS ?_ GE110.out|refine zS ?_ GE111.out|refine zS ?_ GE117.out)|exact HB.out) hb);clear HO120;clear BK110;clear BK111;clear BK117;clear HB;have HO120:=n0_;have HO123:=n1_;have BK110:=n2_;have BK111:=n3_;have BK117:=n4_;have HB:=n5_;clear n0_ n1_ n2_ n3_ n4_ n5_;clear hb ho33))
   go_loopg [18] k (fun kq v18 w'=>∃ (x18_1:Int),v18 = .int .i64 x18_1 ∧ Aside0 (federationlaw1_ValReckons.l0 kq y118 y121 x18_1 t102 t103 t104 t105 = some r) ∧ Aside0 (kq ≤ k) ∧ Aside0 (Kd.R k23 23 w' w.heap.size (fun k_=>k_ ≠ gb110 ∧ k_ ≠ gb111 ∧ k_ ≠ gb117) v119 y118) ∧ Aside0 (Kd.R (Kd.int .i64) 3 w' w.heap.size (fun _=>True) v122 y121) ∧ Aside0 (w'.heap[gb110]? = some (.cells #[.int .i64 t102, .int .i64 t103, .int .i64 t104, .string t105] 23 (0,0))) ∧ Aside0 (w'.heap[gb111]? = some (.cells #[.int .i64 t106, .int .i64 t107, .int .i64 t108, .string t109] 23 (0,0))) ∧ Aside0 (w'.heap[gb117]? = some (.cells #[.int .i64 t113, .int .i64 t114, .int .i64 t115, .string t116] 23 (0,0))) ∧ Aside0 (Below w.heap.size w w'))
   case atStart=>exact ⟨(0),(by first|rfl|(simp;done)|(simp [*];done)),H',⟨Nat.le_refl _⟩,⟨by (with_reducible repeat (first|apply Kd.R_alloc|apply Kd.R_drewN|apply Kd.R_drew));exact Kd.R_mono HO120.out (fun _ hk=>⟨hk.1.1.2,⟨hk.1.2,hk.2⟩⟩)⟩,⟨by (with_reducible repeat (first|apply Kd.R_alloc|apply Kd.R_drewN|apply Kd.R_drew));exact HO123.out⟩,⟨by (with_reducible repeat first|apply zbN|apply zb1|apply zbA);exact BK110.out⟩,⟨by (with_reducible repeat first|apply zbN|apply zb1|apply zbA);exact BK111.out⟩,⟨by (with_reducible repeat first|apply zbN|apply zb1|apply zbA);exact BK117.out⟩,⟨by repeat first|(with_reducible first|exact HB.out|apply zA|apply zN|apply z1|refine zS ?_ GE110.out|refine zS ?_ GE111.out|refine zS ?_ GE117.out)|exact HB.out⟩⟩
   case round =>
    clear H'
    try clear c1
    try clear c2
    try clear p2
    try clear c4
    try clear p6
    try clear c8
    try clear c9
    try clear c9b0
    try clear c9b1
    try clear c13
    try clear c14
    try clear c17
    try clear c20
    try clear c25
    try clear c26
    try clear hcz21_0
    try clear hcz21_1
    try clear hcz21_2
    try clear hcz21_3
    try clear hcz22_0
    try clear hcz22_1
    try clear hcz22_2
    try clear hcz22_3
    try clear hcz27_0
    try clear hcz27_1
    try clear hcz27_2
    try clear hcz27_3
    try clear hcz28_0
    try clear hcz28_1
    try clear hcz28_2
    try clear hcz28_3
    try clear hcz29_0
    try clear hcz29_1
    try clear hcz29_2
    try clear hcz29_3
    try clear hfz21_0
    try clear hfz21_1
    try clear hfz21_2
    try clear hfz21_3
    try clear hfz22_0
    try clear hfz22_1
    try clear hfz22_2
    try clear hfz22_3
    try clear hfz27_0
    try clear hfz27_1
    try clear hfz27_2
    try clear hfz27_3
    try clear hfz28_0
    try clear hfz28_1
    try clear hfz28_2
    try clear hfz28_3
    try clear hfz29_0
    try clear hfz29_1
    try clear hfz29_2
    try clear hfz29_3
    obtain ⟨x18_1,rfl,HA,HK1,HO_16,HO_17,BK110,BK111,BK117,HB⟩:=hrel
    cases gk with
    | zero=>exact absurd HA.out (by simp [federationlaw1_ValReckons.l0])
    | succ k1 =>
     have H:=HA.out
     clear HA
     simp only [federationlaw1_ValReckons.l0] at H
     by_cases c34:x18_1 < (y121.length:Int)
     ·rw [if_pos c34] at H
      have c34b0:decide (x18_1 < (y121.length:Int)) = true:=decide_eq_true c34
      clear c34
      have H':=z_ H
      clear H
      obtain ⟨Ao35,co35,eo35⟩:=Kd.R_slice HO_17.out
      subst eo35
      go_wp2
      go_loopg [19] k1 (fun kq v19 w'=>∃ (x19_2:Int),v19 = .int .i64 x19_2 ∧ Aside0 (federationlaw1_ValReckons.l1 kq y118 y121 x18_1 x19_2 t102 t103 t104 t105 = some r) ∧ Aside0 (kq ≤ k1) ∧ Aside0 (Kd.R k23 23 w' w.heap.size (fun k_=>k_ ≠ gb110 ∧ k_ ≠ gb111 ∧ k_ ≠ gb117) v119 y118) ∧ Aside0 (Kd.R (Kd.int .i64) 3 w' w.heap.size (fun _=>True) (.slice Ao35 y121.length co35) y121) ∧ Aside0 (w'.heap[gb110]? = some (.cells #[.int .i64 t102, .int .i64 t103, .int .i64 t104, .string t105] 23 (0,0))) ∧ Aside0 (w'.heap[gb111]? = some (.cells #[.int .i64 t106, .int .i64 t107, .int .i64 t108, .string t109] 23 (0,0))) ∧ Aside0 (w'.heap[gb117]? = some (.cells #[.int .i64 t113, .int .i64 t114, .int .i64 t115, .string t116] 23 (0,0))) ∧ Aside0 (Below w.heap.size w w'))
      case atStart=>exact ⟨(0),(by first|rfl|(simp;done)|(simp [*];done)),H',⟨Nat.le_refl _⟩,⟨by (with_reducible repeat (first|apply Kd.R_alloc|apply Kd.R_drewN|apply Kd.R_drew));exact HO_16.out⟩,⟨by (with_reducible repeat (first|apply Kd.R_alloc|apply Kd.R_drewN|apply Kd.R_drew));exact HO_17.out⟩,⟨by (with_reducible repeat first|apply zbN|apply zb1|apply zbA);exact BK110.out⟩,⟨by (with_reducible repeat first|apply zbN|apply zb1|apply zbA);exact BK111.out⟩,⟨by (with_reducible repeat first|apply zbN|apply zb1|apply zbA);exact BK117.out⟩,⟨by repeat first|(with_reducible first|exact HB.out|apply zA|apply zN|apply z1|refine zS ?_ GE110.out|refine zS ?_ GE111.out|refine zS ?_ GE117.out)|exact HB.out⟩⟩
      case round =>
       clear H'
       try clear c1
       try clear c2
       try clear p2
       try clear c3
       try clear c4
       try clear p6
       try clear c8
       try clear c9
       try clear c9b0
       try clear c9b1
       try clear c13
       try clear c14
       try clear c17
       try clear c20
       try clear c25
       try clear c26
       try clear c34
       try clear c34b0
       try clear hcz21_0
       try clear hcz21_1
       try clear hcz21_2
       try clear hcz21_3
       try clear hcz22_0
       try clear hcz22_1
       try clear hcz22_2
       try clear hcz22_3
       try clear hcz27_0
       try clear hcz27_1
       try clear hcz27_2
       try clear hcz27_3
       try clear hcz28_0
       try clear hcz28_1
       try clear hcz28_2
       try clear hcz28_3
       try clear hcz29_0
       try clear hcz29_1
       try clear hcz29_2
       try clear hcz29_3
       try clear hfz21_0
       try clear hfz21_1
       try clear hfz21_2
       try clear hfz21_3
       try clear hfz22_0
       try clear hfz22_1
       try clear hfz22_2
       try clear hfz22_3
       try clear hfz27_0
       try clear hfz27_1
       try clear hfz27_2
       try clear hfz27_3
       try clear hfz28_0
       try clear hfz28_1
       try clear hfz28_2
       try clear hfz28_3
       try clear hfz29_0
       try clear hfz29_1
       try clear hfz29_2
       try clear hfz29_3
       try clear p2
       try clear p6
       obtain ⟨x19_2,rfl,HA,HK2,HO_16,HO_17,BK110,BK111,BK117,HB⟩:=hrel
       cases gk with
       | zero=>exact absurd HA.out (by simp [federationlaw1_ValReckons.l1])
       | succ k2 =>
        have H:=HA.out
        clear HA
        simp only [federationlaw1_ValReckons.l1] at H
        by_cases c36:x19_2 < (y118.length:Int)
        ·rw [if_pos c36] at H
         have c36b0:decide (x19_2 < (y118.length:Int)) = true:=decide_eq_true c36
         clear c36
         by_cases c37:0 ≤ x18_1
         focus
          rw [if_pos c37] at H
          have c37b0:decide (0 ≤ x18_1) = true:=decide_eq_true c37
          clear c37
          by_cases c38:x18_1 < (y121.length:Int)
          focus
           rw [if_pos c38] at H
           have c38b0:decide (x18_1 < (y121.length:Int)) = true:=decide_eq_true c38
           clear c38
           by_cases c39:0 ≤ x19_2
           focus
            rw [if_pos c39] at H
            have c39b0:decide (0 ≤ x19_2) = true:=decide_eq_true c39
            clear c39
            replace H:=Option.bind_eq_some_iff.mp H
            obtain ⟨⟨t126,t127,t128,t129,t130⟩,A400,H⟩:=H
            replace H:((federationref1_Reckon.f k2 (rd y121 x18_1) t102 t103 t104 t105 ((rd_T23 y118 x19_2).f0) ((rd_T23 y118 x19_2).f1) ((rd_T23 y118 x19_2).f2) ((rd_T23 y118 x19_2).f3)).bind fun bt134=>(if (!(t126 == bt134.1) || (!(t127 == bt134.2.1) || (!(t128 == bt134.2.2.1) || (!(t129.toList == bt134.2.2.2.1.toList))))) = true then (none) else (if t130 = bt134.2.2.2.2 then (if t130 = 0 then ((val_Right.f k2 t126 t127 t128 t129).bind fun t140=>(if t140 = true then (federationlaw1_ValReckons.l1 k2 y118 y121 x18_1 (wrap64 (x19_2 + 1)) t102 t103 t104 t105) else (none))) else (federationlaw1_ValReckons.l1 k2 y118 y121 x18_1 (wrap64 (x19_2 + 1)) t102 t103 t104 t105)) else (none)))) = some r:=H
            have A40:=z_ A400
            clear A400
            replace H:=Option.bind_eq_some_iff.mp H
            obtain ⟨⟨t134,t135,t136,t137,t138⟩,A410,H⟩:=H
            replace H:(if (!(t126 == t134) || (!(t127 == t135) || (!(t128 == t136) || (!(t129.toList == t137.toList))))) = true then (none) else (if t130 = t138 then (if t130 = 0 then ((val_Right.f k2 t126 t127 t128 t129).bind fun t140=>(if t140 = true then (federationlaw1_ValReckons.l1 k2 y118 y121 x18_1 (wrap64 (x19_2 + 1)) t102 t103 t104 t105) else (none))) else (federationlaw1_ValReckons.l1 k2 y118 y121 x18_1 (wrap64 (x19_2 + 1)) t102 t103 t104 t105)) else (none))) = some r:=H
            have A41:=z_ A410
            clear A410
            by_cases c42:(!(t126 == t134) || (!(t127 == t135) || (!(t128 == t136) || (!(t129.toList == t137.toList))))) = true
            focus
             rw [if_pos c42] at H
             exact absurd H (by simp)
            focus
             rw [if_neg c42] at H
             have c42b0:(!(t126 == t134) || (!(t127 == t135) || (!(t128 == t136) || (!(t129.toList == t137.toList))))) = false:=by simpa using c42
             clear c42
             by_cases c43:t130 = t138
             focus
              rw [if_pos c43] at H
              have c43b0:(t130 == t138) = true:=beq_iff_eq.mpr c43
              have c43b1:(t130 != t138) = false:=bne_eq_false_iff_eq.mpr c43
              clear c43
              by_cases c44:t130 = 0
              focus
               rw [if_pos c44] at H
               have c44b0:(t130 == 0) = true:=beq_iff_eq.mpr c44
               have c44b1:(t130 != 0) = false:=bne_eq_false_iff_eq.mpr c44
               clear c44
               replace H:=Option.bind_eq_some_iff.mp H
               obtain ⟨t140,A450,H⟩:=H
               replace H:(if t140 = true then (federationlaw1_ValReckons.l1 k2 y118 y121 x18_1 (wrap64 (x19_2 + 1)) t102 t103 t104 t105) else (none)) = some r:=H
               have A45:=z_ A450
               clear A450
               by_cases c46:t140 = true
               focus
                subst c46
                have H1:(federationlaw1_ValReckons.l1 k2 y118 y121 x18_1 (wrap64 (x19_2 + 1)) t102 t103 t104 t105) = some r:=by rw [if_pos rfl] at H;exact H
                clear H
                have H:=H1
                clear H1
                have H':=z_ H
               rotate_left
               focus
                replace c46:=Bool.eq_false_iff.mpr c46
                subst c46
                have H1:(none) = some r:=by rw [if_neg (show ¬ (false = true) by decide)] at H;exact H
                clear H
                have H:=H1
                clear H1
                exact absurd H (by simp)
              rotate_left
              focus
               rw [if_neg c44] at H
               have c44b0:(t130 == 0) = false:=beq_eq_false_iff_ne.mpr c44
               have c44b1:(t130 != 0) = true:=bne_iff_ne.mpr c44
               have H':=z_ H
              rotate_left
             rotate_left 2
             focus
              rw [if_neg c43] at H
              exact absurd H (by simp)
           rotate_left 2
           focus
            rw [if_neg c39] at H
            exact absurd H (by simp)
          rotate_left 2
          focus
           rw [if_neg c38] at H
           exact absurd H (by simp)
         rotate_left 2
         focus
          rw [if_neg c37] at H
          exact absurd H (by simp)
         all_goals
          clear H
          obtain ⟨Ao47,co47,eo47⟩:=Kd.R_slice HO_16.out
          subst eo47
          try go_wp2
          have n0_:=z_ (Kd.R_drew HO_16.out)
          have n1_:=z_ (Kd.R_drew HO_17.out)
          have n2_:=z_ (zb1 BK110.out)
          have n3_:=z_ (zb1 BK111.out)
          have n4_:=z_ (zb1 BK117.out)
          have n5_:=z_ (z1 HB.out)
          clear HO_16
          clear HO_17
          clear BK110
          clear BK111
          clear BK117
          clear HB
          have HO_16:=n0_
          have HO_17:=n1_
          have BK110:=n2_
          have BK111:=n3_
          have BK117:=n4_
          have HB:=n5_
          clear n0_ n1_ n2_ n3_ n4_ n5_
          have p124:0 ≤ (x18_1:Int):=of_decide_eq_true (by first|(with_reducible assumption)|assumption)
          have q124:x18_1 < (y121.length:Int):=of_decide_eq_true (by first|(with_reducible assumption)|assumption)
          obtain ⟨ad124,e124,hx124_0⟩:=Kd.at_int (Kd.R_reads' HO_17.out).2.2 x18_1 p124 q124
          cases e124
          replace p124:=eq_true p124
          replace q124:=eq_true q124
          have p125:0 ≤ (x19_2:Int):=of_decide_eq_true (by first|(with_reducible assumption)|assumption)
          have q125:x19_2 < (y118.length:Int):=of_decide_eq_true (by first|(with_reducible assumption)|assumption)
          obtain ⟨ad125,e125,hx125_0,hx125_1,hx125_2,hx125_3⟩:=at_T23 (Kd.R_reads' HO_16.out).2.2 x19_2 p125 q125
          cases e125
          replace p125:=eq_true p125
          replace q125:=eq_true q125
          refine start_ (n:=16) (S:=fun w'=>w'.cell? ⟨gb110,0,none⟩ = some (.int .i64 t102) ∧ w'.cell? ⟨gb110,1,none⟩ = some (.int .i64 t103) ∧ w'.cell? ⟨gb110,2,none⟩ = some (.int .i64 t104) ∧ w'.cell? ⟨gb110,3,none⟩ = some (.string t105) ∧ w'.cell? (ad124.add (x18_1).toNat) = some (.int .i64 (rd y121 x18_1)) ∧ w'.cell? (ad125.add ((x19_2).toNat * 4)) = some (.int .i64 ((rd_T23 y118 x19_2).f0)) ∧ w'.cell? ⟨(ad125.add ((x19_2).toNat * 4)).block,(ad125.add ((x19_2).toNat * 4)).off + 1,none⟩ = some (.int .i64 ((rd_T23 y118 x19_2).f1)) ∧ w'.cell? ⟨(ad125.add ((x19_2).toNat * 4)).block,(ad125.add ((x19_2).toNat * 4)).off + 2,none⟩ = some (.int .i64 ((rd_T23 y118 x19_2).f2)) ∧ w'.cell? ⟨(ad125.add ((x19_2).toNat * 4)).block,(ad125.add ((x19_2).toNat * 4)).off + 3,none⟩ = some (.string ((rd_T23 y118 x19_2).f3))) (ds:=[]) #[false,false,false,false,false,false,false,false,false,false,false,false,false,false,false,false] (by kernel_rfl) rfl rfl ⟨(zce BK110.out 0).trans rfl,(zce BK110.out 1).trans rfl,(zce BK110.out 2).trans rfl,(zce BK110.out 3).trans rfl,hx124_0,hx125_0,hx125_1,hx125_2,hx125_3⟩ (fun hHeld=>?_);refine with_tabW federationlaw1_ValReckons.tab15 federationlaw1_ValReckons.bits15 (fun HT_ HW_=>?_)
          generalize wr.drew = w48 at HO_16 HO_17 BK110 BK111 BK117 HB hx124_0 hx125_0 hx125_1 hx125_2 hx125_3 hHeld ⊢
          refine pure_ (i:=0) (N:=some 65) (v:=?_) (a':=?_) #[true,false,false,false,false,false,false,false,false,false,false,false,false,false,false,false] rfl rfl (any_of HT_.out (by kernel_rfl)) (fun _ _ _ h=>h) (Or.inl ⟨by rfl,?_⟩) ?_ ?_
          rotate_left
          ·intro w'
           go_simp
           with_reducible rfl
          rotate_left
          ·simp only [Act.put,List.setIfInBounds_toArray,List.set_cons_zero,List.set_cons_succ,i64_w,i32_w]
           rfl
          refine pure_ (i:=1) (N:=some 66) (v:=?_) (a':=?_) #[true,true,false,false,false,false,false,false,false,false,false,false,false,false,false,false] rfl rfl (any_of HT_.out (by kernel_rfl)) (fun _ _ _ h=>h) (Or.inl ⟨by rfl,?_⟩) ?_ ?_
          rotate_left
          ·intro w'
           go_simp
           with_reducible rfl
          rotate_left
          ·simp only [Act.put,List.setIfInBounds_toArray,List.set_cons_zero,List.set_cons_succ,i64_w,i32_w]
           rfl
          refine pure_ (i:=2) (N:=some 67) (v:=?_) (a':=?_) #[true,true,true,false,false,false,false,false,false,false,false,false,false,false,false,false] rfl rfl (any_of HT_.out (by kernel_rfl)) (fun _ _ _ h=>h) (Or.inl ⟨by rfl,?_⟩) ?_ ?_
          rotate_left
          ·intro w'
           go_simp
           with_reducible rfl
          rotate_left
          ·simp only [Act.put,List.setIfInBounds_toArray,List.set_cons_zero,List.set_cons_succ,i64_w,i32_w]
           rfl
          refine pure_ (i:=5) (N:=some 70) (v:=?_) (a':=?_) #[true,true,true,false,false,true,false,false,false,false,false,false,false,false,false,false] rfl rfl (any_of HT_.out (by kernel_rfl)) (fun _ _ _ h=>h) (Or.inl ⟨by rfl,?_⟩) ?_ ?_
          rotate_left
          ·intro w'
           go_simp
           with_reducible rfl
          rotate_left
          ·simp only [Act.put,List.setIfInBounds_toArray,List.set_cons_zero,List.set_cons_succ,i64_w,i32_w]
           rfl
          refine pure_ (i:=6) (N:=some 71) (v:=?_) (a':=?_) #[true,true,true,false,false,true,true,false,false,false,false,false,false,false,false,false] rfl rfl (any_of HT_.out (by kernel_rfl)) (fun _ _ _ h=>h) (Or.inl ⟨by rfl,?_⟩) ?_ ?_
          rotate_left
          ·intro w'
           go_simp
           with_reducible rfl
          rotate_left
          ·simp only [Act.put,List.setIfInBounds_toArray,List.set_cons_zero,List.set_cons_succ,i64_w,i32_w]
           rfl
          refine pure_ (i:=7) (N:=some 72) (v:=?_) (a':=?_) #[true,true,true,false,false,true,true,true,false,false,false,false,false,false,false,false] rfl rfl (any_of HT_.out (by kernel_rfl)) (fun _ _ _ h=>h) (Or.inl ⟨by rfl,?_⟩) ?_ ?_
          rotate_left
          ·intro w'
           go_simp
           with_reducible rfl
          rotate_left
          ·simp only [Act.put,List.setIfInBounds_toArray,List.set_cons_zero,List.set_cons_succ,i64_w,i32_w]
           rfl
          refine take_ (i:=3) (N:=some 68) (v:=?_) (a':=?_) #[true,true,true,true,false,true,true,true,false,false,false,false,false,false,false,false] rfl rfl (take_ofW HT_.out HW_.out (by kernel_rfl)) (fun _ _ _ h=>h) (Or.inl ⟨by rfl,?_⟩) hHeld ?_ ?_
          rotate_left
          ·rintro w' ⟨s0,s1,s2,s3,s4,s5,s6,s7,s8⟩
           go_simp
           with_reducible rfl
          rotate_left
          ·simp only [Act.put,List.setIfInBounds_toArray,List.set_cons_zero,List.set_cons_succ,i64_w,i32_w]
           rfl
          refine take_ (i:=4) (N:=some 69) (v:=?_) (a':=?_) #[true,true,true,true,true,true,true,true,false,false,false,false,false,false,false,false] rfl rfl (take_ofW HT_.out HW_.out (by kernel_rfl)) (fun _ _ _ h=>h) (Or.inl ⟨by rfl,?_⟩) hHeld ?_ ?_
          rotate_left
          ·rintro w' ⟨s0,s1,s2,s3,s4,s5,s6,s7,s8⟩
           go_simp
           with_reducible rfl
          rotate_left
          ·simp only [Act.put,List.setIfInBounds_toArray,List.set_cons_zero,List.set_cons_succ,i64_w,i32_w]
           rfl
          refine take_ (i:=8) (N:=some 73) (v:=?_) (a':=?_) #[true,true,true,true,true,true,true,true,true,false,false,false,false,false,false,false] rfl rfl (take_ofW HT_.out HW_.out (by kernel_rfl)) (fun _ _ _ h=>h) (Or.inl ⟨by rfl,?_⟩) hHeld ?_ ?_
          rotate_left
          ·rintro w' ⟨s0,s1,s2,s3,s4,s5,s6,s7,s8⟩
           go_simp
           with_reducible rfl
          rotate_left
          ·simp only [Act.put,List.setIfInBounds_toArray,List.set_cons_zero,List.set_cons_succ,i64_w,i32_w]
           rfl
          refine join_ (σ:=Nat) 2 #[true,true,true,true,true,true,true,true,true,true,true,true,true,true,false,false] (fun s_=>[(74, .tuple #[.agg #[.int .i64 t126, .int .i64 t127, .int .i64 t128, .string t129], .int .i64 t130]),(20, .pointer (some ⟨s_,0,none⟩)),(64, .tuple #[.agg #[.int .i64 t126, .int .i64 t127, .int .i64 t128, .string t129], .int .i64 t130]),(75, .agg #[.int .i64 t126, .int .i64 t127, .int .i64 t128, .string t129]),(76, .int .i64 t130)]) (fun s_ w'=>(w'.cell? ⟨gb110,0,none⟩ = some (.int .i64 t102) ∧ w'.cell? ⟨gb110,1,none⟩ = some (.int .i64 t103) ∧ w'.cell? ⟨gb110,2,none⟩ = some (.int .i64 t104) ∧ w'.cell? ⟨gb110,3,none⟩ = some (.string t105) ∧ w'.cell? (ad124.add (x18_1).toNat) = some (.int .i64 (rd y121 x18_1)) ∧ w'.cell? (ad125.add ((x19_2).toNat * 4)) = some (.int .i64 ((rd_T23 y118 x19_2).f0)) ∧ w'.cell? ⟨(ad125.add ((x19_2).toNat * 4)).block,(ad125.add ((x19_2).toNat * 4)).off + 1,none⟩ = some (.int .i64 ((rd_T23 y118 x19_2).f1)) ∧ w'.cell? ⟨(ad125.add ((x19_2).toNat * 4)).block,(ad125.add ((x19_2).toNat * 4)).off + 2,none⟩ = some (.int .i64 ((rd_T23 y118 x19_2).f2)) ∧ w'.cell? ⟨(ad125.add ((x19_2).toNat * 4)).block,(ad125.add ((x19_2).toNat * 4)).off + 3,none⟩ = some (.string ((rd_T23 y118 x19_2).f3))) ∧ (Kd.R k23 23 w' w.heap.size (fun k_=>k_ ≠ gb110 ∧ k_ ≠ gb111 ∧ k_ ≠ gb117 ∧ k_ ≠ s_) (.slice (some ad125) y118.length co47) y118) ∧ (Kd.R (Kd.int .i64) 3 w' w.heap.size (fun _=>True) (.slice (some ad124) y121.length co35) y121) ∧ (w'.heap[gb110]? = some (.cells #[.int .i64 t102, .int .i64 t103, .int .i64 t104, .string t105] 23 (0,0))) ∧ (w'.heap[gb111]? = some (.cells #[.int .i64 t106, .int .i64 t107, .int .i64 t108, .string t109] 23 (0,0))) ∧ (w'.heap[gb117]? = some (.cells #[.int .i64 t113, .int .i64 t114, .int .i64 t115, .string t116] 23 (0,0))) ∧ (w'.heap[s_]? = some (.cells #[.int .i64 0, .int .i64 0, .int .i64 0, .string (⟨#[]⟩:ByteArray)] 23 (0,0))) ∧ (w.heap.size ≤ s_) ∧ (w.heap.size ≤ s_) ∧ (gb110 ≠ s_) ∧ (s_ ≠ gb110) ∧ (gb111 ≠ s_) ∧ (s_ ≠ gb111) ∧ (gb117 ≠ s_) ∧ (s_ ≠ gb117) ∧ (Below w.heap.size w w')) ?_ ?_
          rotate_left
          ·intro hCont
           refine two_ (i:=9) (j:=13) (Ni:=some 74) (Nj:=some 20) #[true,true,true,true,true,true,true,true,true,true,false,false,false,false,false,false] #[true,true,true,true,true,true,true,true,true,false,false,false,false,true,false,false] rfl rfl rfl rfl (two_of HT_.out (by kernel_rfl)) (by decide) (by decide) (fun K hK=>?_) (fun K hK=>?_)
           ·skip
            refine goes_ Try.func20 (by kernel_rfl) rfl #[.int .i64 (rd y121 x18_1), .agg #[.int .i64 t102, .int .i64 t103, .int .i64 t104, .string t105], .agg #[.int .i64 ((rd_T23 y118 x19_2).f0), .int .i64 ((rd_T23 y118 x19_2).f1), .int .i64 ((rd_T23 y118 x19_2).f2), .string ((rd_T23 y118 x19_2).f3)]] (by rfl) rfl rfl (by (try simp only [List.map_toArray,List.map_cons,List.map_nil]);first|done|rfl|(simp only [List.length_drop,List.length_take];rfl)) ?_
            with_reducible refine (val_Reckon.calls k2 (rd y121 x18_1) t102 t103 t104 t105 ((rd_T23 y118 x19_2).f0) ((rd_T23 y118 x19_2).f1) ((rd_T23 y118 x19_2).f2) ((rd_T23 y118 x19_2).f3) t126 t127 t128 t129 t130 _ A40.out).mono ?_
            rintro e w49 ⟨rfl,hb⟩
            have HS4_:=(hb.cell (World.block_lt_of_cell? _ _ (hHeld.2.2.2.2.1))).trans (hHeld.2.2.2.2.1)
            have HS5_:=(hb.cell (World.block_lt_of_cell? _ _ (hHeld.2.2.2.2.2.1))).trans (hHeld.2.2.2.2.2.1)
            have HS6_:=(hb.cell (World.block_lt_of_cell? _ _ (hHeld.2.2.2.2.2.2.1))).trans (hHeld.2.2.2.2.2.2.1)
            have HS7_:=(hb.cell (World.block_lt_of_cell? _ _ (hHeld.2.2.2.2.2.2.2.1))).trans (hHeld.2.2.2.2.2.2.2.1)
            have HS8_:=(hb.cell (World.block_lt_of_cell? _ _ (hHeld.2.2.2.2.2.2.2.2))).trans (hHeld.2.2.2.2.2.2.2.2)
            refine ⟨_,rfl,?_⟩
            have n0_:=z_ (Kd.R_below (by (with_reducible repeat (first|apply Kd.R_alloc|apply Kd.R_drewN|apply Kd.R_drew));exact HO_16.out) hb)
            have n1_:=z_ (Kd.R_below (by (with_reducible repeat (first|apply Kd.R_alloc|apply Kd.R_drewN|apply Kd.R_drew));exact HO_17.out) hb)
            have n2_:=z_ (zbb (g:=gb110) (o:=.cells #[.int .i64 t102, .int .i64 t103, .int .i64 t104, .string t105] 23 (0,0)) (by (with_reducible repeat first|apply zbN|apply zb1|apply zbA);exact BK110.out) hb)
            have n3_:=z_ (zbb (g:=gb111) (o:=.cells #[.int .i64 t106, .int .i64 t107, .int .i64 t108, .string t109] 23 (0,0)) (by (with_reducible repeat first|apply zbN|apply zb1|apply zbA);exact BK111.out) hb)
            have n4_:=z_ (zbb (g:=gb117) (o:=.cells #[.int .i64 t113, .int .i64 t114, .int .i64 t115, .string t116] 23 (0,0)) (by (with_reducible repeat first|apply zbN|apply zb1|apply zbA);exact BK117.out) hb)
            have n5_:=z_ (below_step (by repeat first|(with_reducible first|exact HB.out|apply zA|apply zN|apply z1|refine zS ?_ GE110.out|refine zS ?_ GE111.out|refine zS ?_ GE117.out)|exact HB.out) hb)
            clear HO_16
            clear HO_17
            clear BK110
            clear BK111
            clear BK117
            clear HB
            have HO_16:=n0_
            have HO_17:=n1_
            have BK110:=n2_
            have BK111:=n3_
            have BK117:=n4_
            have HB:=n5_
            clear n0_ n1_ n2_ n3_ n4_ n5_
            (try clear hb)
            (try clear hb2)
            (try clear hk)
            (try clear hi)
            refine hK.out _ _ ⟨(zce BK110.out 0).trans rfl,(zce BK110.out 1).trans rfl,(zce BK110.out 2).trans rfl,(zce BK110.out 3).trans rfl,HS4_,HS5_,HS6_,HS7_,HS8_⟩ (fun hHeld=>?_)
            clear hK K
            refine norm_ (a':=?_) ?_ ?_
            rotate_left
            ·show Act.put _ (some 74) _ = _
             simp only [Act.put,List.setIfInBounds_toArray,List.set_cons_zero,List.set_cons_succ,i64_w,i32_w]
             rfl
            refine pure_ (i:=10) (N:=some 64) (v:=?_) (a':=?_) #[true,true,true,true,true,true,true,true,true,true,true,false,false,false,false,false] rfl rfl (any_of HT_.out (by kernel_rfl)) (fun _ _ _ h=>h) (Or.inl ⟨by rfl,?_⟩) ?_ ?_
            rotate_left
            ·intro w'
             go_simp
             with_reducible rfl
            rotate_left
            ·simp only [Act.put,List.setIfInBounds_toArray,List.set_cons_zero,List.set_cons_succ,i64_w,i32_w]
             rfl
            refine pure_ (i:=11) (N:=some 75) (v:=?_) (a':=?_) #[true,true,true,true,true,true,true,true,true,true,true,true,false,false,false,false] rfl rfl (any_of HT_.out (by kernel_rfl)) (fun _ _ _ h=>h) (Or.inl ⟨by rfl,?_⟩) ?_ ?_
            rotate_left
            ·intro w'
             go_simp
             with_reducible rfl
            rotate_left
            ·simp only [Act.put,List.setIfInBounds_toArray,List.set_cons_zero,List.set_cons_succ,i64_w,i32_w]
             rfl
            refine pure_ (i:=12) (N:=some 76) (v:=?_) (a':=?_) #[true,true,true,true,true,true,true,true,true,true,true,true,true,false,false,false] rfl rfl (any_of HT_.out (by kernel_rfl)) (fun _ _ _ h=>h) (Or.inl ⟨by rfl,?_⟩) ?_ ?_
            rotate_left
            ·intro w'
             go_simp
             with_reducible rfl
            rotate_left
            ·simp only [Act.put,List.setIfInBounds_toArray,List.set_cons_zero,List.set_cons_succ,i64_w,i32_w]
             rfl
            refine one_ (i:=13) (N:=some 20) #[true,true,true,true,true,true,true,true,true,true,true,true,true,true,false,false] rfl rfl (one_of HT_.out (by kernel_rfl)) (by decide) (fun K hK=>?_)
            refine box_step ?hg (N:=20) ?hd (cs:=#[.int .i64 0, .int .i64 0, .int .i64 0, .string (⟨#[]⟩:ByteArray)]) (t:=23) ?hr ?_;(case hd=>rfl);(case hg=>rfl);(case hr=>first|(go_simp;done)|(go_simp;rfl))
            intro gb131 hg w50 hbox hb
            have HS4_:=(hb.cell (World.block_lt_of_cell? _ _ (hHeld.2.2.2.2.1))).trans (hHeld.2.2.2.2.1)
            have HS5_:=(hb.cell (World.block_lt_of_cell? _ _ (hHeld.2.2.2.2.2.1))).trans (hHeld.2.2.2.2.2.1)
            have HS6_:=(hb.cell (World.block_lt_of_cell? _ _ (hHeld.2.2.2.2.2.2.1))).trans (hHeld.2.2.2.2.2.2.1)
            have HS7_:=(hb.cell (World.block_lt_of_cell? _ _ (hHeld.2.2.2.2.2.2.2.1))).trans (hHeld.2.2.2.2.2.2.2.1)
            have HS8_:=(hb.cell (World.block_lt_of_cell? _ _ (hHeld.2.2.2.2.2.2.2.2))).trans (hHeld.2.2.2.2.2.2.2.2)
            have n0_:=z_ (Kd.R_below (Kd.R_elderB (by (with_reducible repeat (first|apply Kd.R_alloc|apply Kd.R_drewN|apply Kd.R_drew));exact HO_16.out) gb131 (Nat.le_of_eq hg.symm)) hb)
            have n1_:=z_ (Kd.R_below (by (with_reducible repeat (first|apply Kd.R_alloc|apply Kd.R_drewN|apply Kd.R_drew));exact HO_17.out) hb)
            have n2_:=z_ (zbb (g:=gb110) (o:=.cells #[.int .i64 t102, .int .i64 t103, .int .i64 t104, .string t105] 23 (0,0)) (by (with_reducible repeat first|apply zbN|apply zb1|apply zbA);exact BK110.out) hb)
            have n3_:=z_ (zbb (g:=gb111) (o:=.cells #[.int .i64 t106, .int .i64 t107, .int .i64 t108, .string t109] 23 (0,0)) (by (with_reducible repeat first|apply zbN|apply zb1|apply zbA);exact BK111.out) hb)
            have n4_:=z_ (zbb (g:=gb117) (o:=.cells #[.int .i64 t113, .int .i64 t114, .int .i64 t115, .string t116] 23 (0,0)) (by (with_reducible repeat first|apply zbN|apply zb1|apply zbA);exact BK117.out) hb)
            have n5_:=z_ (below_step (by repeat first|(with_reducible first|exact HB.out|apply zA|apply zN|apply z1|refine zS ?_ GE110.out|refine zS ?_ GE111.out|refine zS ?_ GE117.out)|exact HB.out) hb)
            have n6_:=z_ (hbox)
            have n7_:=z_ ((by rw [hg];exact (zBs (by repeat first|(with_reducible first|exact HB.out|apply zA|apply zN|apply z1|refine zS ?_ GE110.out|refine zS ?_ GE111.out|refine zS ?_ GE117.out)|exact HB.out)):w.heap.size ≤ gb131))
            have n8_:=z_ ((by rw [hg];exact (zBs (by repeat first|(with_reducible first|exact HB.out|apply zA|apply zN|apply z1|refine zS ?_ GE110.out|refine zS ?_ GE111.out|refine zS ?_ GE117.out)|exact HB.out)):w.heap.size ≤ gb131))
            have n9_:=z_ ((by rw [hg];exact Nat.ne_of_lt (blk_lt (g:=gb110) (o:=.cells #[.int .i64 t102, .int .i64 t103, .int .i64 t104, .string t105] 23 (0,0)) (by (with_reducible repeat first|apply zbN|apply zb1|apply zbA);exact BK110.out)):gb110 ≠ gb131))
            have n10_:=z_ ((by rw [hg];exact Nat.ne_of_gt (blk_lt (g:=gb110) (o:=.cells #[.int .i64 t102, .int .i64 t103, .int .i64 t104, .string t105] 23 (0,0)) (by (with_reducible repeat first|apply zbN|apply zb1|apply zbA);exact BK110.out)):gb131 ≠ gb110))
            have n11_:=z_ ((by rw [hg];exact Nat.ne_of_lt (blk_lt (g:=gb111) (o:=.cells #[.int .i64 t106, .int .i64 t107, .int .i64 t108, .string t109] 23 (0,0)) (by (with_reducible repeat first|apply zbN|apply zb1|apply zbA);exact BK111.out)):gb111 ≠ gb131))
            have n12_:=z_ ((by rw [hg];exact Nat.ne_of_gt (blk_lt (g:=gb111) (o:=.cells #[.int .i64 t106, .int .i64 t107, .int .i64 t108, .string t109] 23 (0,0)) (by (with_reducible repeat first|apply zbN|apply zb1|apply zbA);exact BK111.out)):gb131 ≠ gb111))
            have n13_:=z_ ((by rw [hg];exact Nat.ne_of_lt (blk_lt (g:=gb117) (o:=.cells #[.int .i64 t113, .int .i64 t114, .int .i64 t115, .string t116] 23 (0,0)) (by (with_reducible repeat first|apply zbN|apply zb1|apply zbA);exact BK117.out)):gb117 ≠ gb131))
            have n14_:=z_ ((by rw [hg];exact Nat.ne_of_gt (blk_lt (g:=gb117) (o:=.cells #[.int .i64 t113, .int .i64 t114, .int .i64 t115, .string t116] 23 (0,0)) (by (with_reducible repeat first|apply zbN|apply zb1|apply zbA);exact BK117.out)):gb131 ≠ gb117))
            clear HO_16
            clear HO_17
            clear BK110
            clear BK111
            clear BK117
            clear HB
            have HO_16:=n0_
            have HO_17:=n1_
            have BK110:=n2_
            have BK111:=n3_
            have BK117:=n4_
            have HB:=n5_
            have BK131:=n6_
            have GW131:=n7_
            have GE131:=n8_
            have NB110_131:=n9_
            have NB131_110:=n10_
            have NB111_131:=n11_
            have NB131_111:=n12_
            have NB117_131:=n13_
            have NB131_117:=n14_
            clear n0_ n1_ n2_ n3_ n4_ n5_ n6_ n7_ n8_ n9_ n10_ n11_ n12_ n13_ n14_
            clear hb hbox hg
            refine hK.out _ _ ⟨(zce BK110.out 0).trans rfl,(zce BK110.out 1).trans rfl,(zce BK110.out 2).trans rfl,(zce BK110.out 3).trans rfl,HS4_,HS5_,HS6_,HS7_,HS8_⟩ (fun hHeld=>?_)
            clear hK K
            refine norm_ (a':=?_) ?_ ?_
            rotate_left
            ·show Act.put _ (some 20) _ = _
             simp only [Act.put,List.setIfInBounds_toArray,List.set_cons_zero,List.set_cons_succ,i64_w,i32_w]
             rfl
            exact norm_ (by simp only [putAll,Act.put,List.setIfInBounds_toArray,List.set_cons_zero,List.set_cons_succ]) (hCont (gb131) _ ⟨hHeld,(by (with_reducible repeat (first|apply Kd.R_alloc|apply Kd.R_drewN|apply Kd.R_drew));exact Kd.R_mono HO_16.out (fun _ hk=>⟨hk.1.1,⟨hk.1.2.1,⟨hk.1.2.2,hk.2⟩⟩⟩)),(by (with_reducible repeat (first|apply Kd.R_alloc|apply Kd.R_drewN|apply Kd.R_drew));exact HO_17.out),(by (with_reducible repeat first|apply zbN|apply zb1|apply zbA);exact BK110.out),(by (with_reducible repeat first|apply zbN|apply zb1|apply zbA);exact BK111.out),(by (with_reducible repeat first|apply zbN|apply zb1|apply zbA);exact BK117.out),(by (with_reducible repeat first|apply zbN|apply zb1|apply zbA);exact BK131.out),GW131.out,GE131.out,NB110_131.out,NB131_110.out,NB111_131.out,NB131_111.out,NB117_131.out,NB131_117.out,(by repeat first|(with_reducible first|exact HB.out|apply zA|apply zN|apply z1|refine zS ?_ GE110.out|refine zS ?_ GE111.out|refine zS ?_ GE117.out|refine zS ?_ GE131.out)|exact HB.out)⟩)
           ·skip
            refine box_step ?hg (N:=20) ?hd (cs:=#[.int .i64 0, .int .i64 0, .int .i64 0, .string (⟨#[]⟩:ByteArray)]) (t:=23) ?hr ?_;(case hd=>rfl);(case hg=>rfl);(case hr=>first|(go_simp;done)|(go_simp;rfl))
            intro gb131 hg w49 hbox hb
            have HS4_:=(hb.cell (World.block_lt_of_cell? _ _ (hHeld.2.2.2.2.1))).trans (hHeld.2.2.2.2.1)
            have HS5_:=(hb.cell (World.block_lt_of_cell? _ _ (hHeld.2.2.2.2.2.1))).trans (hHeld.2.2.2.2.2.1)
            have HS6_:=(hb.cell (World.block_lt_of_cell? _ _ (hHeld.2.2.2.2.2.2.1))).trans (hHeld.2.2.2.2.2.2.1)
            have HS7_:=(hb.cell (World.block_lt_of_cell? _ _ (hHeld.2.2.2.2.2.2.2.1))).trans (hHeld.2.2.2.2.2.2.2.1)
            have HS8_:=(hb.cell (World.block_lt_of_cell? _ _ (hHeld.2.2.2.2.2.2.2.2))).trans (hHeld.2.2.2.2.2.2.2.2)
            have n0_:=z_ (Kd.R_below (Kd.R_elderB (by (with_reducible repeat (first|apply Kd.R_alloc|apply Kd.R_drewN|apply Kd.R_drew));exact HO_16.out) gb131 (Nat.le_of_eq hg.symm)) hb)
            have n1_:=z_ (Kd.R_below (by (with_reducible repeat (first|apply Kd.R_alloc|apply Kd.R_drewN|apply Kd.R_drew));exact HO_17.out) hb)
            have n2_:=z_ (zbb (g:=gb110) (o:=.cells #[.int .i64 t102, .int .i64 t103, .int .i64 t104, .string t105] 23 (0,0)) (by (with_reducible repeat first|apply zbN|apply zb1|apply zbA);exact BK110.out) hb)
            have n3_:=z_ (zbb (g:=gb111) (o:=.cells #[.int .i64 t106, .int .i64 t107, .int .i64 t108, .string t109] 23 (0,0)) (by (with_reducible repeat first|apply zbN|apply zb1|apply zbA);exact BK111.out) hb)
            have n4_:=z_ (zbb (g:=gb117) (o:=.cells #[.int .i64 t113, .int .i64 t114, .int .i64 t115, .string t116] 23 (0,0)) (by (with_reducible repeat first|apply zbN|apply zb1|apply zbA);exact BK117.out) hb)
            have n5_:=z_ (below_step (by repeat first|(with_reducible first|exact HB.out|apply zA|apply zN|apply z1|refine zS ?_ GE110.out|refine zS ?_ GE111.out|refine zS ?_ GE117.out)|exact HB.out) hb)
            have n6_:=z_ (hbox)
            have n7_:=z_ ((by rw [hg];exact (zBs (by repeat first|(with_reducible first|exact HB.out|apply zA|apply zN|apply z1|refine zS ?_ GE110.out|refine zS ?_ GE111.out|refine zS ?_ GE117.out)|exact HB.out)):w.heap.size ≤ gb131))
            have n8_:=z_ ((by rw [hg];exact (zBs (by repeat first|(with_reducible first|exact HB.out|apply zA|apply zN|apply z1|refine zS ?_ GE110.out|refine zS ?_ GE111.out|refine zS ?_ GE117.out)|exact HB.out)):w.heap.size ≤ gb131))
            have n9_:=z_ ((by rw [hg];exact Nat.ne_of_lt (blk_lt (g:=gb110) (o:=.cells #[.int .i64 t102, .int .i64 t103, .int .i64 t104, .string t105] 23 (0,0)) (by (with_reducible repeat first|apply zbN|apply zb1|apply zbA);exact BK110.out)):gb110 ≠ gb131))
            have n10_:=z_ ((by rw [hg];exact Nat.ne_of_gt (blk_lt (g:=gb110) (o:=.cells #[.int .i64 t102, .int .i64 t103, .int .i64 t104, .string t105] 23 (0,0)) (by (with_reducible repeat first|apply zbN|apply zb1|apply zbA);exact BK110.out)):gb131 ≠ gb110))
            have n11_:=z_ ((by rw [hg];exact Nat.ne_of_lt (blk_lt (g:=gb111) (o:=.cells #[.int .i64 t106, .int .i64 t107, .int .i64 t108, .string t109] 23 (0,0)) (by (with_reducible repeat first|apply zbN|apply zb1|apply zbA);exact BK111.out)):gb111 ≠ gb131))
            have n12_:=z_ ((by rw [hg];exact Nat.ne_of_gt (blk_lt (g:=gb111) (o:=.cells #[.int .i64 t106, .int .i64 t107, .int .i64 t108, .string t109] 23 (0,0)) (by (with_reducible repeat first|apply zbN|apply zb1|apply zbA);exact BK111.out)):gb131 ≠ gb111))
            have n13_:=z_ ((by rw [hg];exact Nat.ne_of_lt (blk_lt (g:=gb117) (o:=.cells #[.int .i64 t113, .int .i64 t114, .int .i64 t115, .string t116] 23 (0,0)) (by (with_reducible repeat first|apply zbN|apply zb1|apply zbA);exact BK117.out)):gb117 ≠ gb131))
            have n14_:=z_ ((by rw [hg];exact Nat.ne_of_gt (blk_lt (g:=gb117) (o:=.cells #[.int .i64 t113, .int .i64 t114, .int .i64 t115, .string t116] 23 (0,0)) (by (with_reducible repeat first|apply zbN|apply zb1|apply zbA);exact BK117.out)):gb131 ≠ gb117))
            clear HO_16
            clear HO_17
            clear BK110
            clear BK111
            clear BK117
            clear HB
            have HO_16:=n0_
            have HO_17:=n1_
            have BK110:=n2_
            have BK111:=n3_
            have BK117:=n4_
            have HB:=n5_
            have BK131:=n6_
            have GW131:=n7_
            have GE131:=n8_
            have NB110_131:=n9_
            have NB131_110:=n10_
            have NB111_131:=n11_
            have NB131_111:=n12_
            have NB117_131:=n13_
            have NB131_117:=n14_
            clear n0_ n1_ n2_ n3_ n4_ n5_ n6_ n7_ n8_ n9_ n10_ n11_ n12_ n13_ n14_
            clear hb hbox hg
            refine hK.out _ _ ⟨(zce BK110.out 0).trans rfl,(zce BK110.out 1).trans rfl,(zce BK110.out 2).trans rfl,(zce BK110.out 3).trans rfl,HS4_,HS5_,HS6_,HS7_,HS8_⟩ (fun hHeld=>?_)
            clear hK K
            refine norm_ (a':=?_) ?_ ?_
            rotate_left
            ·show Act.put _ (some 20) _ = _
             simp only [Act.put,List.setIfInBounds_toArray,List.set_cons_zero,List.set_cons_succ,i64_w,i32_w]
             rfl
            refine one_ (i:=9) (N:=some 74) #[true,true,true,true,true,true,true,true,true,true,false,false,false,true,false,false] rfl rfl (one_of HT_.out (by kernel_rfl)) (by decide) (fun K hK=>?_)
            refine goes_ Try.func20 (by kernel_rfl) rfl #[.int .i64 (rd y121 x18_1), .agg #[.int .i64 t102, .int .i64 t103, .int .i64 t104, .string t105], .agg #[.int .i64 ((rd_T23 y118 x19_2).f0), .int .i64 ((rd_T23 y118 x19_2).f1), .int .i64 ((rd_T23 y118 x19_2).f2), .string ((rd_T23 y118 x19_2).f3)]] (by rfl) rfl rfl (by (try simp only [List.map_toArray,List.map_cons,List.map_nil]);first|done|rfl|(simp only [List.length_drop,List.length_take];rfl)) ?_
            with_reducible refine (val_Reckon.calls k2 (rd y121 x18_1) t102 t103 t104 t105 ((rd_T23 y118 x19_2).f0) ((rd_T23 y118 x19_2).f1) ((rd_T23 y118 x19_2).f2) ((rd_T23 y118 x19_2).f3) t126 t127 t128 t129 t130 _ A40.out).mono ?_
            rintro e w50 ⟨rfl,hb⟩
            have HS4_:=(hb.cell (World.block_lt_of_cell? _ _ (hHeld.2.2.2.2.1))).trans (hHeld.2.2.2.2.1)
            have HS5_:=(hb.cell (World.block_lt_of_cell? _ _ (hHeld.2.2.2.2.2.1))).trans (hHeld.2.2.2.2.2.1)
            have HS6_:=(hb.cell (World.block_lt_of_cell? _ _ (hHeld.2.2.2.2.2.2.1))).trans (hHeld.2.2.2.2.2.2.1)
            have HS7_:=(hb.cell (World.block_lt_of_cell? _ _ (hHeld.2.2.2.2.2.2.2.1))).trans (hHeld.2.2.2.2.2.2.2.1)
            have HS8_:=(hb.cell (World.block_lt_of_cell? _ _ (hHeld.2.2.2.2.2.2.2.2))).trans (hHeld.2.2.2.2.2.2.2.2)
            refine ⟨_,rfl,?_⟩
            have n0_:=z_ (Kd.R_below (by (with_reducible repeat (first|apply Kd.R_alloc|apply Kd.R_drewN|apply Kd.R_drew));exact HO_16.out) hb)
            have n1_:=z_ (Kd.R_below (by (with_reducible repeat (first|apply Kd.R_alloc|apply Kd.R_drewN|apply Kd.R_drew));exact HO_17.out) hb)
            have n2_:=z_ (zbb (g:=gb110) (o:=.cells #[.int .i64 t102, .int .i64 t103, .int .i64 t104, .string t105] 23 (0,0)) (by (with_reducible repeat first|apply zbN|apply zb1|apply zbA);exact BK110.out) hb)
            have n3_:=z_ (zbb (g:=gb111) (o:=.cells #[.int .i64 t106, .int .i64 t107, .int .i64 t108, .string t109] 23 (0,0)) (by (with_reducible repeat first|apply zbN|apply zb1|apply zbA);exact BK111.out) hb)
            have n4_:=z_ (zbb (g:=gb117) (o:=.cells #[.int .i64 t113, .int .i64 t114, .int .i64 t115, .string t116] 23 (0,0)) (by (with_reducible repeat first|apply zbN|apply zb1|apply zbA);exact BK117.out) hb)
            have n5_:=z_ (zbb (g:=gb131) (o:=.cells #[.int .i64 0, .int .i64 0, .int .i64 0, .string (⟨#[]⟩:ByteArray)] 23 (0,0)) (by (with_reducible repeat first|apply zbN|apply zb1|apply zbA);exact BK131.out) hb)
            have n6_:=z_ (below_step (by repeat first|(with_reducible first|exact HB.out|apply zA|apply zN|apply z1|refine zS ?_ GE110.out|refine zS ?_ GE111.out|refine zS ?_ GE117.out|refine zS ?_ GE131.out)|exact HB.out) hb)
            clear HO_16
            clear HO_17
            clear BK110
            clear BK111
            clear BK117
            clear BK131
            clear HB
            have HO_16:=n0_
            have HO_17:=n1_
            have BK110:=n2_
            have BK111:=n3_
            have BK117:=n4_
            have BK131:=n5_
            have HB:=n6_
            clear n0_ n1_ n2_ n3_ n4_ n5_ n6_
            (try clear hb)
            (try clear hb2)
            (try clear hk)
            (try clear hi)
            refine hK.out _ _ ⟨(zce BK110.out 0).trans rfl,(zce BK110.out 1).trans rfl,(zce BK110.out 2).trans rfl,(zce BK110.out 3).trans rfl,HS4_,HS5_,HS6_,HS7_,HS8_⟩ (fun hHeld=>?_)
            clear hK K
            refine norm_ (a':=?_) ?_ ?_
            rotate_left
            ·show Act.put _ (some 74) _ = _
             simp only [Act.put,List.setIfInBounds_toArray,List.set_cons_zero,List.set_cons_succ,i64_w,i32_w]
             rfl
            refine pure_ (i:=10) (N:=some 64) (v:=?_) (a':=?_) #[true,true,true,true,true,true,true,true,true,true,true,false,false,true,false,false] rfl rfl (any_of HT_.out (by kernel_rfl)) (fun _ _ _ h=>h) (Or.inl ⟨by rfl,?_⟩) ?_ ?_
            rotate_left
            ·intro w'
             go_simp
             with_reducible rfl
            rotate_left
            ·simp only [Act.put,List.setIfInBounds_toArray,List.set_cons_zero,List.set_cons_succ,i64_w,i32_w]
             rfl
            refine pure_ (i:=11) (N:=some 75) (v:=?_) (a':=?_) #[true,true,true,true,true,true,true,true,true,true,true,true,false,true,false,false] rfl rfl (any_of HT_.out (by kernel_rfl)) (fun _ _ _ h=>h) (Or.inl ⟨by rfl,?_⟩) ?_ ?_
            rotate_left
            ·intro w'
             go_simp
             with_reducible rfl
            rotate_left
            ·simp only [Act.put,List.setIfInBounds_toArray,List.set_cons_zero,List.set_cons_succ,i64_w,i32_w]
             rfl
            refine pure_ (i:=12) (N:=some 76) (v:=?_) (a':=?_) #[true,true,true,true,true,true,true,true,true,true,true,true,true,true,false,false] rfl rfl (any_of HT_.out (by kernel_rfl)) (fun _ _ _ h=>h) (Or.inl ⟨by rfl,?_⟩) ?_ ?_
            rotate_left
            ·intro w'
             go_simp
             with_reducible rfl
            rotate_left
            ·simp only [Act.put,List.setIfInBounds_toArray,List.set_cons_zero,List.set_cons_succ,i64_w,i32_w]
             rfl
            exact norm_ (by simp only [putAll,Act.put,List.setIfInBounds_toArray,List.set_cons_zero,List.set_cons_succ]) (hCont (gb131) _ ⟨hHeld,(by (with_reducible repeat (first|apply Kd.R_alloc|apply Kd.R_drewN|apply Kd.R_drew));exact Kd.R_mono HO_16.out (fun _ hk=>⟨hk.1.1,⟨hk.1.2.1,⟨hk.1.2.2,hk.2⟩⟩⟩)),(by (with_reducible repeat (first|apply Kd.R_alloc|apply Kd.R_drewN|apply Kd.R_drew));exact HO_17.out),(by (with_reducible repeat first|apply zbN|apply zb1|apply zbA);exact BK110.out),(by (with_reducible repeat first|apply zbN|apply zb1|apply zbA);exact BK111.out),(by (with_reducible repeat first|apply zbN|apply zb1|apply zbA);exact BK117.out),(by (with_reducible repeat first|apply zbN|apply zb1|apply zbA);exact BK131.out),GW131.out,GE131.out,NB110_131.out,NB131_110.out,NB111_131.out,NB131_111.out,NB117_131.out,NB131_117.out,(by repeat first|(with_reducible first|exact HB.out|apply zA|apply zN|apply z1|refine zS ?_ GE110.out|refine zS ?_ GE111.out|refine zS ?_ GE117.out|refine zS ?_ GE131.out)|exact HB.out)⟩)
          rintro gb131 w51 ⟨hS_,h0_,h1_,h2_,h3_,h4_,h5_,h6_,h7_,h8_,h9_,h10_,h11_,h12_,h13_,h14_⟩
          have n0_:Aside0 (Kd.R k23 23 w51 w.heap.size (fun k_=>k_ ≠ gb110 ∧ k_ ≠ gb111 ∧ k_ ≠ gb117 ∧ k_ ≠ gb131) (.slice (some ad125) y118.length co47) y118):=⟨h0_⟩
          have n1_:Aside0 (Kd.R (Kd.int .i64) 3 w51 w.heap.size (fun _=>True) (.slice (some ad124) y121.length co35) y121):=⟨h1_⟩
          have n2_:Aside0 (w51.heap[gb110]? = some (.cells #[.int .i64 t102, .int .i64 t103, .int .i64 t104, .string t105] 23 (0,0))):=⟨h2_⟩
          have n3_:Aside0 (w51.heap[gb111]? = some (.cells #[.int .i64 t106, .int .i64 t107, .int .i64 t108, .string t109] 23 (0,0))):=⟨h3_⟩
          have n4_:Aside0 (w51.heap[gb117]? = some (.cells #[.int .i64 t113, .int .i64 t114, .int .i64 t115, .string t116] 23 (0,0))):=⟨h4_⟩
          have n5_:Aside0 (w51.heap[gb131]? = some (.cells #[.int .i64 0, .int .i64 0, .int .i64 0, .string (⟨#[]⟩:ByteArray)] 23 (0,0))):=⟨h5_⟩
          have n6_:Aside0 (w.heap.size ≤ gb131):=⟨h6_⟩
          have n7_:Aside0 (w.heap.size ≤ gb131):=⟨h7_⟩
          have n8_:Aside0 (gb110 ≠ gb131):=⟨h8_⟩
          have n9_:Aside0 (gb131 ≠ gb110):=⟨h9_⟩
          have n10_:Aside0 (gb111 ≠ gb131):=⟨h10_⟩
          have n11_:Aside0 (gb131 ≠ gb111):=⟨h11_⟩
          have n12_:Aside0 (gb117 ≠ gb131):=⟨h12_⟩
          have n13_:Aside0 (gb131 ≠ gb117):=⟨h13_⟩
          have n14_:Aside0 (Below w.heap.size w w51):=⟨h14_⟩
          clear HO_16
          clear HO_17
          clear BK110
          clear BK111
          clear BK117
          clear HB
          clear h0_ h1_ h2_ h3_ h4_ h5_ h6_ h7_ h8_ h9_ h10_ h11_ h12_ h13_ h14_
          have HO_16:=n0_
          have HO_17:=n1_
          have BK110:=n2_
          have BK111:=n3_
          have BK117:=n4_
          have BK131:=n5_
          have GW131:=n6_
          have GE131:=n7_
          have NB110_131:=n8_
          have NB131_110:=n9_
          have NB111_131:=n10_
          have NB131_111:=n11_
          have NB117_131:=n12_
          have NB131_117:=n13_
          have HB:=n14_
          clear n0_ n1_ n2_ n3_ n4_ n5_ n6_ n7_ n8_ n9_ n10_ n11_ n12_ n13_ n14_
          have hHeld:w51.cell? ⟨gb110,0,none⟩ = some (.int .i64 t102) ∧ w51.cell? ⟨gb110,1,none⟩ = some (.int .i64 t103) ∧ w51.cell? ⟨gb110,2,none⟩ = some (.int .i64 t104) ∧ w51.cell? ⟨gb110,3,none⟩ = some (.string t105) ∧ w51.cell? (ad124.add (x18_1).toNat) = some (.int .i64 (rd y121 x18_1)) ∧ w51.cell? (ad125.add ((x19_2).toNat * 4)) = some (.int .i64 ((rd_T23 y118 x19_2).f0)) ∧ w51.cell? ⟨(ad125.add ((x19_2).toNat * 4)).block,(ad125.add ((x19_2).toNat * 4)).off + 1,none⟩ = some (.int .i64 ((rd_T23 y118 x19_2).f1)) ∧ w51.cell? ⟨(ad125.add ((x19_2).toNat * 4)).block,(ad125.add ((x19_2).toNat * 4)).off + 2,none⟩ = some (.int .i64 ((rd_T23 y118 x19_2).f2)) ∧ w51.cell? ⟨(ad125.add ((x19_2).toNat * 4)).block,(ad125.add ((x19_2).toNat * 4)).off + 3,none⟩ = some (.string ((rd_T23 y118 x19_2).f3)):=hS_
          refine norm_ (a':=?_) ?_ ?_
          rotate_left
          ·simp only [putAll,Act.put,List.setIfInBounds_toArray,List.set_cons_zero,List.set_cons_succ]
           rfl
          refine one_ (i:=14) (N:=none) #[true,true,true,true,true,true,true,true,true,true,true,true,true,true,true,false] rfl rfl (one_of HT_.out (by kernel_rfl)) (by decide) (fun K hK=>?_)
          have hs52:w51.cell? ⟨gb131,0,none⟩ = some (.int .i64 0):=(zce BK131.out 0).trans rfl
          have hfs52:=zfz BK131.out 0
          have hns52_0:=NB110_131.out
          have hns52_1:=NB111_131.out
          have hns52_2:=NB117_131.out
          have hms52_0:=NB131_110.out
          have hms52_1:=NB131_111.out
          have hms52_2:=NB131_117.out
          have hs53:w51.cell? ⟨gb131,1,none⟩ = some (.int .i64 0):=(zce BK131.out 1).trans rfl
          have hfs53:=zfz BK131.out 1
          have hns53_0:=NB110_131.out
          have hns53_1:=NB111_131.out
          have hns53_2:=NB117_131.out
          have hms53_0:=NB131_110.out
          have hms53_1:=NB131_111.out
          have hms53_2:=NB131_117.out
          have hs54:w51.cell? ⟨gb131,2,none⟩ = some (.int .i64 0):=(zce BK131.out 2).trans rfl
          have hfs54:=zfz BK131.out 2
          have hns54_0:=NB110_131.out
          have hns54_1:=NB111_131.out
          have hns54_2:=NB117_131.out
          have hms54_0:=NB131_110.out
          have hms54_1:=NB131_111.out
          have hms54_2:=NB131_117.out
          have hs55:w51.cell? ⟨gb131,3,none⟩ = some (.string (⟨#[]⟩:ByteArray)):=(zce BK131.out 3).trans rfl
          have hfs55:=zfz BK131.out 3
          have hns55_0:=NB110_131.out
          have hns55_1:=NB111_131.out
          have hns55_2:=NB117_131.out
          have hms55_0:=NB131_110.out
          have hms55_1:=NB131_111.out
          have hms55_2:=NB131_117.out
          refine skip_ (w1:=?_) (by rfl) rfl ?_ ?_
          rotate_left
          ·go_simp
           rfl
          refine hK.out _ _ ⟨((cell_far (p:=⟨gb131,_,none⟩) NB110_131.out _).trans (((cell_far (p:=⟨gb131,_,none⟩) NB110_131.out _).trans (((cell_far (p:=⟨gb131,_,none⟩) NB110_131.out _).trans (((cell_far (p:=⟨gb131,_,none⟩) NB110_131.out _).trans (hHeld.1)))))))),((cell_far (p:=⟨gb131,_,none⟩) NB110_131.out _).trans (((cell_far (p:=⟨gb131,_,none⟩) NB110_131.out _).trans (((cell_far (p:=⟨gb131,_,none⟩) NB110_131.out _).trans (((cell_far (p:=⟨gb131,_,none⟩) NB110_131.out _).trans (hHeld.2.1)))))))),((cell_far (p:=⟨gb131,_,none⟩) NB110_131.out _).trans (((cell_far (p:=⟨gb131,_,none⟩) NB110_131.out _).trans (((cell_far (p:=⟨gb131,_,none⟩) NB110_131.out _).trans (((cell_far (p:=⟨gb131,_,none⟩) NB110_131.out _).trans (hHeld.2.2.1)))))))),((cell_far (p:=⟨gb131,_,none⟩) NB110_131.out _).trans (((cell_far (p:=⟨gb131,_,none⟩) NB110_131.out _).trans (((cell_far (p:=⟨gb131,_,none⟩) NB110_131.out _).trans (((cell_far (p:=⟨gb131,_,none⟩) NB110_131.out _).trans (hHeld.2.2.2.1)))))))),((cell_far (p:=⟨gb131,_,none⟩) (by first|exact Kd.own_blk (Kd.R_ne HO_17.out BK131.out (by decide))|(rw [add_block];exact Kd.own_blk (Kd.R_ne HO_17.out BK131.out (by decide)))|(show (Addr.add _ _).block ≠ _;rw [add_block];exact Kd.own_blk (Kd.R_ne HO_17.out BK131.out (by decide)))|(dsimp only;exact Kd.own_blk (Kd.R_ne HO_17.out BK131.out (by decide)))) _).trans (((cell_far (p:=⟨gb131,_,none⟩) (by first|exact Kd.own_blk (Kd.R_ne HO_17.out BK131.out (by decide))|(rw [add_block];exact Kd.own_blk (Kd.R_ne HO_17.out BK131.out (by decide)))|(show (Addr.add _ _).block ≠ _;rw [add_block];exact Kd.own_blk (Kd.R_ne HO_17.out BK131.out (by decide)))|(dsimp only;exact Kd.own_blk (Kd.R_ne HO_17.out BK131.out (by decide)))) _).trans (((cell_far (p:=⟨gb131,_,none⟩) (by first|exact Kd.own_blk (Kd.R_ne HO_17.out BK131.out (by decide))|(rw [add_block];exact Kd.own_blk (Kd.R_ne HO_17.out BK131.out (by decide)))|(show (Addr.add _ _).block ≠ _;rw [add_block];exact Kd.own_blk (Kd.R_ne HO_17.out BK131.out (by decide)))|(dsimp only;exact Kd.own_blk (Kd.R_ne HO_17.out BK131.out (by decide)))) _).trans (((cell_far (p:=⟨gb131,_,none⟩) (by first|exact Kd.own_blk (Kd.R_ne HO_17.out BK131.out (by decide))|(rw [add_block];exact Kd.own_blk (Kd.R_ne HO_17.out BK131.out (by decide)))|(show (Addr.add _ _).block ≠ _;rw [add_block];exact Kd.own_blk (Kd.R_ne HO_17.out BK131.out (by decide)))|(dsimp only;exact Kd.own_blk (Kd.R_ne HO_17.out BK131.out (by decide)))) _).trans (hHeld.2.2.2.2.1)))))))),((cell_far (p:=⟨gb131,_,none⟩) (by first|exact Kd.own_blk (Kd.R_away HO_16.out (fun _ hk=>hk.2.2.2))|(rw [add_block];exact Kd.own_blk (Kd.R_away HO_16.out (fun _ hk=>hk.2.2.2)))|(show (Addr.add _ _).block ≠ _;rw [add_block];exact Kd.own_blk (Kd.R_away HO_16.out (fun _ hk=>hk.2.2.2)))|(dsimp only;exact Kd.own_blk (Kd.R_away HO_16.out (fun _ hk=>hk.2.2.2)))) _).trans (((cell_far (p:=⟨gb131,_,none⟩) (by first|exact Kd.own_blk (Kd.R_away HO_16.out (fun _ hk=>hk.2.2.2))|(rw [add_block];exact Kd.own_blk (Kd.R_away HO_16.out (fun _ hk=>hk.2.2.2)))|(show (Addr.add _ _).block ≠ _;rw [add_block];exact Kd.own_blk (Kd.R_away HO_16.out (fun _ hk=>hk.2.2.2)))|(dsimp only;exact Kd.own_blk (Kd.R_away HO_16.out (fun _ hk=>hk.2.2.2)))) _).trans (((cell_far (p:=⟨gb131,_,none⟩) (by first|exact Kd.own_blk (Kd.R_away HO_16.out (fun _ hk=>hk.2.2.2))|(rw [add_block];exact Kd.own_blk (Kd.R_away HO_16.out (fun _ hk=>hk.2.2.2)))|(show (Addr.add _ _).block ≠ _;rw [add_block];exact Kd.own_blk (Kd.R_away HO_16.out (fun _ hk=>hk.2.2.2)))|(dsimp only;exact Kd.own_blk (Kd.R_away HO_16.out (fun _ hk=>hk.2.2.2)))) _).trans (((cell_far (p:=⟨gb131,_,none⟩) (by first|exact Kd.own_blk (Kd.R_away HO_16.out (fun _ hk=>hk.2.2.2))|(rw [add_block];exact Kd.own_blk (Kd.R_away HO_16.out (fun _ hk=>hk.2.2.2)))|(show (Addr.add _ _).block ≠ _;rw [add_block];exact Kd.own_blk (Kd.R_away HO_16.out (fun _ hk=>hk.2.2.2)))|(dsimp only;exact Kd.own_blk (Kd.R_away HO_16.out (fun _ hk=>hk.2.2.2)))) _).trans (hHeld.2.2.2.2.2.1)))))))),((cell_far (p:=⟨gb131,_,none⟩) (by first|exact Kd.own_blk (Kd.R_away HO_16.out (fun _ hk=>hk.2.2.2))|(rw [add_block];exact Kd.own_blk (Kd.R_away HO_16.out (fun _ hk=>hk.2.2.2)))|(show (Addr.add _ _).block ≠ _;rw [add_block];exact Kd.own_blk (Kd.R_away HO_16.out (fun _ hk=>hk.2.2.2)))|(dsimp only;exact Kd.own_blk (Kd.R_away HO_16.out (fun _ hk=>hk.2.2.2)))) _).trans (((cell_far (p:=⟨gb131,_,none⟩) (by first|exact Kd.own_blk (Kd.R_away HO_16.out (fun _ hk=>hk.2.2.2))|(rw [add_block];exact Kd.own_blk (Kd.R_away HO_16.out (fun _ hk=>hk.2.2.2)))|(show (Addr.add _ _).block ≠ _;rw [add_block];exact Kd.own_blk (Kd.R_away HO_16.out (fun _ hk=>hk.2.2.2)))|(dsimp only;exact Kd.own_blk (Kd.R_away HO_16.out (fun _ hk=>hk.2.2.2)))) _).trans (((cell_far (p:=⟨gb131,_,none⟩) (by first|exact Kd.own_blk (Kd.R_away HO_16.out (fun _ hk=>hk.2.2.2))|(rw [add_block];exact Kd.own_blk (Kd.R_away HO_16.out (fun _ hk=>hk.2.2.2)))|(show (Addr.add _ _).block ≠ _;rw [add_block];exact Kd.own_blk (Kd.R_away HO_16.out (fun _ hk=>hk.2.2.2)))|(dsimp only;exact Kd.own_blk (Kd.R_away HO_16.out (fun _ hk=>hk.2.2.2)))) _).trans (((cell_far (p:=⟨gb131,_,none⟩) (by first|exact Kd.own_blk (Kd.R_away HO_16.out (fun _ hk=>hk.2.2.2))|(rw [add_block];exact Kd.own_blk (Kd.R_away HO_16.out (fun _ hk=>hk.2.2.2)))|(show (Addr.add _ _).block ≠ _;rw [add_block];exact Kd.own_blk (Kd.R_away HO_16.out (fun _ hk=>hk.2.2.2)))|(dsimp only;exact Kd.own_blk (Kd.R_away HO_16.out (fun _ hk=>hk.2.2.2)))) _).trans (hHeld.2.2.2.2.2.2.1)))))))),((cell_far (p:=⟨gb131,_,none⟩) (by first|exact Kd.own_blk (Kd.R_away HO_16.out (fun _ hk=>hk.2.2.2))|(rw [add_block];exact Kd.own_blk (Kd.R_away HO_16.out (fun _ hk=>hk.2.2.2)))|(show (Addr.add _ _).block ≠ _;rw [add_block];exact Kd.own_blk (Kd.R_away HO_16.out (fun _ hk=>hk.2.2.2)))|(dsimp only;exact Kd.own_blk (Kd.R_away HO_16.out (fun _ hk=>hk.2.2.2)))) _).trans (((cell_far (p:=⟨gb131,_,none⟩) (by first|exact Kd.own_blk (Kd.R_away HO_16.out (fun _ hk=>hk.2.2.2))|(rw [add_block];exact Kd.own_blk (Kd.R_away HO_16.out (fun _ hk=>hk.2.2.2)))|(show (Addr.add _ _).block ≠ _;rw [add_block];exact Kd.own_blk (Kd.R_away HO_16.out (fun _ hk=>hk.2.2.2)))|(dsimp only;exact Kd.own_blk (Kd.R_away HO_16.out (fun _ hk=>hk.2.2.2)))) _).trans (((cell_far (p:=⟨gb131,_,none⟩) (by first|exact Kd.own_blk (Kd.R_away HO_16.out (fun _ hk=>hk.2.2.2))|(rw [add_block];exact Kd.own_blk (Kd.R_away HO_16.out (fun _ hk=>hk.2.2.2)))|(show (Addr.add _ _).block ≠ _;rw [add_block];exact Kd.own_blk (Kd.R_away HO_16.out (fun _ hk=>hk.2.2.2)))|(dsimp only;exact Kd.own_blk (Kd.R_away HO_16.out (fun _ hk=>hk.2.2.2)))) _).trans (((cell_far (p:=⟨gb131,_,none⟩) (by first|exact Kd.own_blk (Kd.R_away HO_16.out (fun _ hk=>hk.2.2.2))|(rw [add_block];exact Kd.own_blk (Kd.R_away HO_16.out (fun _ hk=>hk.2.2.2)))|(show (Addr.add _ _).block ≠ _;rw [add_block];exact Kd.own_blk (Kd.R_away HO_16.out (fun _ hk=>hk.2.2.2)))|(dsimp only;exact Kd.own_blk (Kd.R_away HO_16.out (fun _ hk=>hk.2.2.2)))) _).trans (hHeld.2.2.2.2.2.2.2.1)))))))),((cell_far (p:=⟨gb131,_,none⟩) (by first|exact Kd.own_blk (Kd.R_away HO_16.out (fun _ hk=>hk.2.2.2))|(rw [add_block];exact Kd.own_blk (Kd.R_away HO_16.out (fun _ hk=>hk.2.2.2)))|(show (Addr.add _ _).block ≠ _;rw [add_block];exact Kd.own_blk (Kd.R_away HO_16.out (fun _ hk=>hk.2.2.2)))|(dsimp only;exact Kd.own_blk (Kd.R_away HO_16.out (fun _ hk=>hk.2.2.2)))) _).trans (((cell_far (p:=⟨gb131,_,none⟩) (by first|exact Kd.own_blk (Kd.R_away HO_16.out (fun _ hk=>hk.2.2.2))|(rw [add_block];exact Kd.own_blk (Kd.R_away HO_16.out (fun _ hk=>hk.2.2.2)))|(show (Addr.add _ _).block ≠ _;rw [add_block];exact Kd.own_blk (Kd.R_away HO_16.out (fun _ hk=>hk.2.2.2)))|(dsimp only;exact Kd.own_blk (Kd.R_away HO_16.out (fun _ hk=>hk.2.2.2)))) _).trans (((cell_far (p:=⟨gb131,_,none⟩) (by first|exact Kd.own_blk (Kd.R_away HO_16.out (fun _ hk=>hk.2.2.2))|(rw [add_block];exact Kd.own_blk (Kd.R_away HO_16.out (fun _ hk=>hk.2.2.2)))|(show (Addr.add _ _).block ≠ _;rw [add_block];exact Kd.own_blk (Kd.R_away HO_16.out (fun _ hk=>hk.2.2.2)))|(dsimp only;exact Kd.own_blk (Kd.R_away HO_16.out (fun _ hk=>hk.2.2.2)))) _).trans (((cell_far (p:=⟨gb131,_,none⟩) (by first|exact Kd.own_blk (Kd.R_away HO_16.out (fun _ hk=>hk.2.2.2))|(rw [add_block];exact Kd.own_blk (Kd.R_away HO_16.out (fun _ hk=>hk.2.2.2)))|(show (Addr.add _ _).block ≠ _;rw [add_block];exact Kd.own_blk (Kd.R_away HO_16.out (fun _ hk=>hk.2.2.2)))|(dsimp only;exact Kd.own_blk (Kd.R_away HO_16.out (fun _ hk=>hk.2.2.2)))) _).trans (hHeld.2.2.2.2.2.2.2.2))))))))⟩ (fun hHeld=>?_)
          clear hK K
          refine pure_ (i:=15) (N:=some 21) (v:=?_) (a':=?_) #[true,true,true,true,true,true,true,true,true,true,true,true,true,true,true,true] rfl rfl (any_of HT_.out (by kernel_rfl)) (fun _ _ _ h=>h) (Or.inl ⟨by rfl,?_⟩) ?_ ?_
          rotate_left
          ·intro w'
           go_simp
           with_reducible rfl
          rotate_left
          ·simp only [Act.put,List.setIfInBounds_toArray,List.set_cons_zero,List.set_cons_succ,i64_w,i32_w]
           rfl
          refine done_ (done_of HT_.out (by kernel_rfl)) ?_
          try go_wp2
          have n0_:Aside0 (Kd.R k23 23 ((((w51.setCell ⟨gb131,0,none⟩ (.int .i64 t126)).setCell ⟨gb131,1,none⟩ (.int .i64 t127)).setCell ⟨gb131,2,none⟩ (.int .i64 t128)).setCell ⟨gb131,3,none⟩ (.string t129)) w.heap.size (fun k_=>k_ ≠ gb110 ∧ k_ ≠ gb111 ∧ k_ ≠ gb117 ∧ k_ ≠ gb131) (.slice (some ad125) y118.length co47) y118):=⟨by (with_reducible repeat (first|apply Kd.R_alloc|apply Kd.R_drewN|apply Kd.R_drew));exact Kd.R_mono (Kd.R_far (p:=⟨gb131,3,none⟩) (Kd.R_far (p:=⟨gb131,2,none⟩) (Kd.R_far (p:=⟨gb131,1,none⟩) (Kd.R_far (p:=⟨gb131,0,none⟩) (Kd.R_mono HO_16.out (fun k_ hk=>(⟨hk,hk.2.2.2⟩:_ ∧ k_ ≠ gb131))) (fun _ hk=>hk.2) (.int .i64 t126)) (fun _ hk=>hk.2) (.int .i64 t127)) (fun _ hk=>hk.2) (.int .i64 t128)) (fun _ hk=>hk.2) (.string t129)) (fun _ hk=>⟨hk.1.1,⟨hk.1.2.1,⟨hk.1.2.2.1,hk.1.2.2.2⟩⟩⟩)⟩
          have n1_:Aside0 (Kd.R (Kd.int .i64) 3 ((((w51.setCell ⟨gb131,0,none⟩ (.int .i64 t126)).setCell ⟨gb131,1,none⟩ (.int .i64 t127)).setCell ⟨gb131,2,none⟩ (.int .i64 t128)).setCell ⟨gb131,3,none⟩ (.string t129)) w.heap.size (fun _=>True) (.slice (some ad124) y121.length co35) y121):=⟨by (with_reducible repeat (first|apply Kd.R_alloc|apply Kd.R_drewN|apply Kd.R_drew));exact Kd.R_mono (Kd.R_far (p:=⟨gb131,3,none⟩) (Kd.R_far (p:=⟨gb131,2,none⟩) (Kd.R_far (p:=⟨gb131,1,none⟩) (Kd.R_far (p:=⟨gb131,0,none⟩) (Kd.R_types HO_17.out BK131.out (by decide)) (fun _ hk=>hk.2) (.int .i64 t126)) (fun _ hk=>hk.2) (.int .i64 t127)) (fun _ hk=>hk.2) (.int .i64 t128)) (fun _ hk=>hk.2) (.string t129)) (fun _ hk=>trivial)⟩
          have n2_:Aside0 (((((w51.setCell ⟨gb131,0,none⟩ (.int .i64 t126)).setCell ⟨gb131,1,none⟩ (.int .i64 t127)).setCell ⟨gb131,2,none⟩ (.int .i64 t128)).setCell ⟨gb131,3,none⟩ (.string t129)).heap[gb110]? = some (.cells #[.int .i64 t102, .int .i64 t103, .int .i64 t104, .string t105] 23 (0,0))):=⟨by (with_reducible repeat first|apply zbN|apply zb1|apply zbA);refine zbf ?_ NB110_131.out _;(with_reducible repeat first|apply zbN|apply zb1|apply zbA);refine zbf ?_ NB110_131.out _;(with_reducible repeat first|apply zbN|apply zb1|apply zbA);refine zbf ?_ NB110_131.out _;(with_reducible repeat first|apply zbN|apply zb1|apply zbA);refine zbf ?_ NB110_131.out _;(with_reducible repeat first|apply zbN|apply zb1|apply zbA);exact BK110.out⟩
          have n3_:Aside0 (((((w51.setCell ⟨gb131,0,none⟩ (.int .i64 t126)).setCell ⟨gb131,1,none⟩ (.int .i64 t127)).setCell ⟨gb131,2,none⟩ (.int .i64 t128)).setCell ⟨gb131,3,none⟩ (.string t129)).heap[gb111]? = some (.cells #[.int .i64 t106, .int .i64 t107, .int .i64 t108, .string t109] 23 (0,0))):=⟨by (with_reducible repeat first|apply zbN|apply zb1|apply zbA);refine zbf ?_ NB111_131.out _;(with_reducible repeat first|apply zbN|apply zb1|apply zbA);refine zbf ?_ NB111_131.out _;(with_reducible repeat first|apply zbN|apply zb1|apply zbA);refine zbf ?_ NB111_131.out _;(with_reducible repeat first|apply zbN|apply zb1|apply zbA);refine zbf ?_ NB111_131.out _;(with_reducible repeat first|apply zbN|apply zb1|apply zbA);exact BK111.out⟩
          have n4_:Aside0 (((((w51.setCell ⟨gb131,0,none⟩ (.int .i64 t126)).setCell ⟨gb131,1,none⟩ (.int .i64 t127)).setCell ⟨gb131,2,none⟩ (.int .i64 t128)).setCell ⟨gb131,3,none⟩ (.string t129)).heap[gb117]? = some (.cells #[.int .i64 t113, .int .i64 t114, .int .i64 t115, .string t116] 23 (0,0))):=⟨by (with_reducible repeat first|apply zbN|apply zb1|apply zbA);refine zbf ?_ NB117_131.out _;(with_reducible repeat first|apply zbN|apply zb1|apply zbA);refine zbf ?_ NB117_131.out _;(with_reducible repeat first|apply zbN|apply zb1|apply zbA);refine zbf ?_ NB117_131.out _;(with_reducible repeat first|apply zbN|apply zb1|apply zbA);refine zbf ?_ NB117_131.out _;(with_reducible repeat first|apply zbN|apply zb1|apply zbA);exact BK117.out⟩
          have n5_:Aside0 (((((w51.setCell ⟨gb131,0,none⟩ (.int .i64 t126)).setCell ⟨gb131,1,none⟩ (.int .i64 t127)).setCell ⟨gb131,2,none⟩ (.int .i64 t128)).setCell ⟨gb131,3,none⟩ (.string t129)).heap[gb131]? = some (.cells #[.int .i64 t126, .int .i64 t127, .int .i64 t128, .string t129] 23 (0,0))):=⟨by (with_reducible repeat first|apply zbN|apply zb1|apply zbA);refine zbp (cs:=#[.int .i64 t126, .int .i64 t127, .int .i64 t128, .string (⟨#[]⟩:ByteArray)]) ?_ 3 _ rfl;(with_reducible repeat first|apply zbN|apply zb1|apply zbA);refine zbp (cs:=#[.int .i64 t126, .int .i64 t127, .int .i64 0, .string (⟨#[]⟩:ByteArray)]) ?_ 2 _ rfl;(with_reducible repeat first|apply zbN|apply zb1|apply zbA);refine zbp (cs:=#[.int .i64 t126, .int .i64 0, .int .i64 0, .string (⟨#[]⟩:ByteArray)]) ?_ 1 _ rfl;(with_reducible repeat first|apply zbN|apply zb1|apply zbA);refine zbp (cs:=#[.int .i64 0, .int .i64 0, .int .i64 0, .string (⟨#[]⟩:ByteArray)]) ?_ 0 _ rfl;(with_reducible repeat first|apply zbN|apply zb1|apply zbA);exact BK131.out⟩
          have n6_:Aside0 (Below w.heap.size w ((((w51.setCell ⟨gb131,0,none⟩ (.int .i64 t126)).setCell ⟨gb131,1,none⟩ (.int .i64 t127)).setCell ⟨gb131,2,none⟩ (.int .i64 t128)).setCell ⟨gb131,3,none⟩ (.string t129))):=⟨by repeat first|(with_reducible first|exact HB.out|apply zA|apply zN|apply z1|refine zS ?_ GE110.out|refine zS ?_ GE111.out|refine zS ?_ GE117.out|refine zS ?_ GE131.out)|exact HB.out⟩
          (try clear HO_16)
          (try clear HO_17)
          (try clear BK110)
          (try clear BK111)
          (try clear BK117)
          (try clear BK131)
          (try clear HB)
          generalize ((((w51.setCell ⟨gb131,0,none⟩ (.int .i64 t126)).setCell ⟨gb131,1,none⟩ (.int .i64 t127)).setCell ⟨gb131,2,none⟩ (.int .i64 t128)).setCell ⟨gb131,3,none⟩ (.string t129)) = w56 at n0_ n1_ n2_ n3_ n4_ n5_ n6_ ⊢
          have HO_16:=n0_
          have HO_17:=n1_
          have BK110:=n2_
          have BK111:=n3_
          have BK117:=n4_
          have BK131:=n5_
          have HB:=n6_
          clear n0_ n1_ n2_ n3_ n4_ n5_ n6_
          have n0_:=z_ (Kd.R_drew HO_16.out)
          have n1_:=z_ (Kd.R_drew HO_17.out)
          have n2_:=z_ (zb1 BK110.out)
          have n3_:=z_ (zb1 BK111.out)
          have n4_:=z_ (zb1 BK117.out)
          have n5_:=z_ (zb1 BK131.out)
          have n6_:=z_ (z1 HB.out)
          clear HO_16
          clear HO_17
          clear BK110
          clear BK111
          clear BK117
          clear BK131
          clear HB
          have HO_16:=n0_
          have HO_17:=n1_
          have BK110:=n2_
          have BK111:=n3_
          have BK117:=n4_
          have BK131:=n5_
          have HB:=n6_
          clear n0_ n1_ n2_ n3_ n4_ n5_ n6_
          have p132:0 ≤ (x18_1:Int):=of_decide_eq_true (by first|(with_reducible assumption)|assumption)
          have q132:x18_1 < (y121.length:Int):=of_decide_eq_true (by first|(with_reducible assumption)|assumption)
          obtain ⟨ad132,e132,hx132_0⟩:=Kd.at_int (Kd.R_reads' HO_17.out).2.2 x18_1 p132 q132
          obtain rfl:ad124 = ad132:=(by injection e132)
          replace p132:=eq_true p132
          replace q132:=eq_true q132
          have p133:0 ≤ (x19_2:Int):=of_decide_eq_true (by first|(with_reducible assumption)|assumption)
          have q133:x19_2 < (y118.length:Int):=of_decide_eq_true (by first|(with_reducible assumption)|assumption)
          obtain ⟨ad133,e133,hx133_0,hx133_1,hx133_2,hx133_3⟩:=at_T23 (Kd.R_reads' HO_16.out).2.2 x19_2 p133 q133
          obtain rfl:ad125 = ad133:=(by injection e133)
          replace p133:=eq_true p133
          replace q133:=eq_true q133
          refine start_ (n:=16) (S:=fun w'=>w'.cell? ⟨gb110,0,none⟩ = some (.int .i64 t102) ∧ w'.cell? ⟨gb110,1,none⟩ = some (.int .i64 t103) ∧ w'.cell? ⟨gb110,2,none⟩ = some (.int .i64 t104) ∧ w'.cell? ⟨gb110,3,none⟩ = some (.string t105) ∧ w'.cell? (ad124.add (x18_1).toNat) = some (.int .i64 (rd y121 x18_1)) ∧ w'.cell? (ad125.add ((x19_2).toNat * 4)) = some (.int .i64 ((rd_T23 y118 x19_2).f0)) ∧ w'.cell? ⟨(ad125.add ((x19_2).toNat * 4)).block,(ad125.add ((x19_2).toNat * 4)).off + 1,none⟩ = some (.int .i64 ((rd_T23 y118 x19_2).f1)) ∧ w'.cell? ⟨(ad125.add ((x19_2).toNat * 4)).block,(ad125.add ((x19_2).toNat * 4)).off + 2,none⟩ = some (.int .i64 ((rd_T23 y118 x19_2).f2)) ∧ w'.cell? ⟨(ad125.add ((x19_2).toNat * 4)).block,(ad125.add ((x19_2).toNat * 4)).off + 3,none⟩ = some (.string ((rd_T23 y118 x19_2).f3))) (ds:=[]) #[false,false,false,false,false,false,false,false,false,false,false,false,false,false,false,false] (by kernel_rfl) rfl rfl ⟨(zce BK110.out 0).trans rfl,(zce BK110.out 1).trans rfl,(zce BK110.out 2).trans rfl,(zce BK110.out 3).trans rfl,hx132_0,hx133_0,hx133_1,hx133_2,hx133_3⟩ (fun hHeld=>?_);refine with_tabW federationlaw1_ValReckons.tab16 federationlaw1_ValReckons.bits16 (fun HT_ HW_=>?_)
          generalize w56.drew = w57 at HO_16 HO_17 BK110 BK111 BK117 BK131 HB hx132_0 hx133_0 hx133_1 hx133_2 hx133_3 hHeld ⊢
          refine pure_ (i:=0) (N:=some 78) (v:=?_) (a':=?_) #[true,false,false,false,false,false,false,false,false,false,false,false,false,false,false,false] rfl rfl (any_of HT_.out (by kernel_rfl)) (fun _ _ _ h=>h) (Or.inl ⟨by rfl,?_⟩) ?_ ?_
          rotate_left
          ·intro w'
           go_simp
           with_reducible rfl
          rotate_left
          ·simp only [Act.put,List.setIfInBounds_toArray,List.set_cons_zero,List.set_cons_succ,i64_w,i32_w]
           rfl
          refine pure_ (i:=1) (N:=some 79) (v:=?_) (a':=?_) #[true,true,false,false,false,false,false,false,false,false,false,false,false,false,false,false] rfl rfl (any_of HT_.out (by kernel_rfl)) (fun _ _ _ h=>h) (Or.inl ⟨by rfl,?_⟩) ?_ ?_
          rotate_left
          ·intro w'
           go_simp
           with_reducible rfl
          rotate_left
          ·simp only [Act.put,List.setIfInBounds_toArray,List.set_cons_zero,List.set_cons_succ,i64_w,i32_w]
           rfl
          refine pure_ (i:=2) (N:=some 80) (v:=?_) (a':=?_) #[true,true,true,false,false,false,false,false,false,false,false,false,false,false,false,false] rfl rfl (any_of HT_.out (by kernel_rfl)) (fun _ _ _ h=>h) (Or.inl ⟨by rfl,?_⟩) ?_ ?_
          rotate_left
          ·intro w'
           go_simp
           with_reducible rfl
          rotate_left
          ·simp only [Act.put,List.setIfInBounds_toArray,List.set_cons_zero,List.set_cons_succ,i64_w,i32_w]
           rfl
          refine pure_ (i:=5) (N:=some 83) (v:=?_) (a':=?_) #[true,true,true,false,false,true,false,false,false,false,false,false,false,false,false,false] rfl rfl (any_of HT_.out (by kernel_rfl)) (fun _ _ _ h=>h) (Or.inl ⟨by rfl,?_⟩) ?_ ?_
          rotate_left
          ·intro w'
           go_simp
           with_reducible rfl
          rotate_left
          ·simp only [Act.put,List.setIfInBounds_toArray,List.set_cons_zero,List.set_cons_succ,i64_w,i32_w]
           rfl
          refine pure_ (i:=6) (N:=some 84) (v:=?_) (a':=?_) #[true,true,true,false,false,true,true,false,false,false,false,false,false,false,false,false] rfl rfl (any_of HT_.out (by kernel_rfl)) (fun _ _ _ h=>h) (Or.inl ⟨by rfl,?_⟩) ?_ ?_
          rotate_left
          ·intro w'
           go_simp
           with_reducible rfl
          rotate_left
          ·simp only [Act.put,List.setIfInBounds_toArray,List.set_cons_zero,List.set_cons_succ,i64_w,i32_w]
           rfl
          refine pure_ (i:=7) (N:=some 85) (v:=?_) (a':=?_) #[true,true,true,false,false,true,true,true,false,false,false,false,false,false,false,false] rfl rfl (any_of HT_.out (by kernel_rfl)) (fun _ _ _ h=>h) (Or.inl ⟨by rfl,?_⟩) ?_ ?_
          rotate_left
          ·intro w'
           go_simp
           with_reducible rfl
          rotate_left
          ·simp only [Act.put,List.setIfInBounds_toArray,List.set_cons_zero,List.set_cons_succ,i64_w,i32_w]
           rfl
          refine take_ (i:=3) (N:=some 81) (v:=?_) (a':=?_) #[true,true,true,true,false,true,true,true,false,false,false,false,false,false,false,false] rfl rfl (take_ofW HT_.out HW_.out (by kernel_rfl)) (fun _ _ _ h=>h) (Or.inl ⟨by rfl,?_⟩) hHeld ?_ ?_
          rotate_left
          ·rintro w' ⟨s0,s1,s2,s3,s4,s5,s6,s7,s8⟩
           go_simp
           with_reducible rfl
          rotate_left
          ·simp only [Act.put,List.setIfInBounds_toArray,List.set_cons_zero,List.set_cons_succ,i64_w,i32_w]
           rfl
          refine take_ (i:=4) (N:=some 82) (v:=?_) (a':=?_) #[true,true,true,true,true,true,true,true,false,false,false,false,false,false,false,false] rfl rfl (take_ofW HT_.out HW_.out (by kernel_rfl)) (fun _ _ _ h=>h) (Or.inl ⟨by rfl,?_⟩) hHeld ?_ ?_
          rotate_left
          ·rintro w' ⟨s0,s1,s2,s3,s4,s5,s6,s7,s8⟩
           go_simp
           with_reducible rfl
          rotate_left
          ·simp only [Act.put,List.setIfInBounds_toArray,List.set_cons_zero,List.set_cons_succ,i64_w,i32_w]
           rfl
          refine take_ (i:=8) (N:=some 86) (v:=?_) (a':=?_) #[true,true,true,true,true,true,true,true,true,false,false,false,false,false,false,false] rfl rfl (take_ofW HT_.out HW_.out (by kernel_rfl)) (fun _ _ _ h=>h) (Or.inl ⟨by rfl,?_⟩) hHeld ?_ ?_
          rotate_left
          ·rintro w' ⟨s0,s1,s2,s3,s4,s5,s6,s7,s8⟩
           go_simp
           with_reducible rfl
          rotate_left
          ·simp only [Act.put,List.setIfInBounds_toArray,List.set_cons_zero,List.set_cons_succ,i64_w,i32_w]
           rfl
          refine join_ (σ:=Nat) 2 #[true,true,true,true,true,true,true,true,true,true,true,true,true,true,false,false] (fun s_=>[(87, .tuple #[.agg #[.int .i64 t134, .int .i64 t135, .int .i64 t136, .string t137], .int .i64 t138]),(22, .pointer (some ⟨s_,0,none⟩)),(77, .tuple #[.agg #[.int .i64 t134, .int .i64 t135, .int .i64 t136, .string t137], .int .i64 t138]),(88, .agg #[.int .i64 t134, .int .i64 t135, .int .i64 t136, .string t137]),(89, .int .i64 t138)]) (fun s_ w'=>(w'.cell? ⟨gb110,0,none⟩ = some (.int .i64 t102) ∧ w'.cell? ⟨gb110,1,none⟩ = some (.int .i64 t103) ∧ w'.cell? ⟨gb110,2,none⟩ = some (.int .i64 t104) ∧ w'.cell? ⟨gb110,3,none⟩ = some (.string t105) ∧ w'.cell? (ad124.add (x18_1).toNat) = some (.int .i64 (rd y121 x18_1)) ∧ w'.cell? (ad125.add ((x19_2).toNat * 4)) = some (.int .i64 ((rd_T23 y118 x19_2).f0)) ∧ w'.cell? ⟨(ad125.add ((x19_2).toNat * 4)).block,(ad125.add ((x19_2).toNat * 4)).off + 1,none⟩ = some (.int .i64 ((rd_T23 y118 x19_2).f1)) ∧ w'.cell? ⟨(ad125.add ((x19_2).toNat * 4)).block,(ad125.add ((x19_2).toNat * 4)).off + 2,none⟩ = some (.int .i64 ((rd_T23 y118 x19_2).f2)) ∧ w'.cell? ⟨(ad125.add ((x19_2).toNat * 4)).block,(ad125.add ((x19_2).toNat * 4)).off + 3,none⟩ = some (.string ((rd_T23 y118 x19_2).f3))) ∧ (Kd.R k23 23 w' w.heap.size (fun k_=>k_ ≠ gb110 ∧ k_ ≠ gb111 ∧ k_ ≠ gb117 ∧ k_ ≠ gb131 ∧ k_ ≠ s_) (.slice (some ad125) y118.length co47) y118) ∧ (Kd.R (Kd.int .i64) 3 w' w.heap.size (fun _=>True) (.slice (some ad124) y121.length co35) y121) ∧ (w'.heap[gb110]? = some (.cells #[.int .i64 t102, .int .i64 t103, .int .i64 t104, .string t105] 23 (0,0))) ∧ (w'.heap[gb111]? = some (.cells #[.int .i64 t106, .int .i64 t107, .int .i64 t108, .string t109] 23 (0,0))) ∧ (w'.heap[gb117]? = some (.cells #[.int .i64 t113, .int .i64 t114, .int .i64 t115, .string t116] 23 (0,0))) ∧ (w'.heap[gb131]? = some (.cells #[.int .i64 t126, .int .i64 t127, .int .i64 t128, .string t129] 23 (0,0))) ∧ (w'.heap[s_]? = some (.cells #[.int .i64 0, .int .i64 0, .int .i64 0, .string (⟨#[]⟩:ByteArray)] 23 (0,0))) ∧ (w.heap.size ≤ s_) ∧ (w.heap.size ≤ s_) ∧ (gb110 ≠ s_) ∧ (s_ ≠ gb110) ∧ (gb111 ≠ s_) ∧ (s_ ≠ gb111) ∧ (gb117 ≠ s_) ∧ (s_ ≠ gb117) ∧ (gb131 ≠ s_) ∧ (s_ ≠ gb131) ∧ (Below w.heap.size w w')) ?_ ?_
          rotate_left
          ·intro hCont
           refine two_ (i:=9) (j:=13) (Ni:=some 87) (Nj:=some 22) #[true,true,true,true,true,true,true,true,true,true,false,false,false,false,false,false] #[true,true,true,true,true,true,true,true,true,false,false,false,false,true,false,false] rfl rfl rfl rfl (two_of HT_.out (by kernel_rfl)) (by decide) (by decide) (fun K hK=>?_) (fun K hK=>?_)
           ·skip
            refine goes_ Try.func21 (by kernel_rfl) rfl #[.int .i64 (rd y121 x18_1), .agg #[.int .i64 t102, .int .i64 t103, .int .i64 t104, .string t105], .agg #[.int .i64 ((rd_T23 y118 x19_2).f0), .int .i64 ((rd_T23 y118 x19_2).f1), .int .i64 ((rd_T23 y118 x19_2).f2), .string ((rd_T23 y118 x19_2).f3)]] (by rfl) rfl rfl (by (try simp only [List.map_toArray,List.map_cons,List.map_nil]);first|done|rfl|(simp only [List.length_drop,List.length_take];rfl)) ?_
            with_reducible refine (federationref1_Reckon.calls k2 (rd y121 x18_1) t102 t103 t104 t105 ((rd_T23 y118 x19_2).f0) ((rd_T23 y118 x19_2).f1) ((rd_T23 y118 x19_2).f2) ((rd_T23 y118 x19_2).f3) t134 t135 t136 t137 t138 _ A41.out).mono ?_
            rintro e w58 ⟨rfl,hb⟩
            have HS4_:=(hb.cell (World.block_lt_of_cell? _ _ (hHeld.2.2.2.2.1))).trans (hHeld.2.2.2.2.1)
            have HS5_:=(hb.cell (World.block_lt_of_cell? _ _ (hHeld.2.2.2.2.2.1))).trans (hHeld.2.2.2.2.2.1)
            have HS6_:=(hb.cell (World.block_lt_of_cell? _ _ (hHeld.2.2.2.2.2.2.1))).trans (hHeld.2.2.2.2.2.2.1)
            have HS7_:=(hb.cell (World.block_lt_of_cell? _ _ (hHeld.2.2.2.2.2.2.2.1))).trans (hHeld.2.2.2.2.2.2.2.1)
            have HS8_:=(hb.cell (World.block_lt_of_cell? _ _ (hHeld.2.2.2.2.2.2.2.2))).trans (hHeld.2.2.2.2.2.2.2.2)
            refine ⟨_,rfl,?_⟩
            have n0_:=z_ (Kd.R_below (by (with_reducible repeat (first|apply Kd.R_alloc|apply Kd.R_drewN|apply Kd.R_drew));exact HO_16.out) hb)
            have n1_:=z_ (Kd.R_below (by (with_reducible repeat (first|apply Kd.R_alloc|apply Kd.R_drewN|apply Kd.R_drew));exact HO_17.out) hb)
            have n2_:=z_ (zbb (g:=gb110) (o:=.cells #[.int .i64 t102, .int .i64 t103, .int .i64 t104, .string t105] 23 (0,0)) (by (with_reducible repeat first|apply zbN|apply zb1|apply zbA);exact BK110.out) hb)
            have n3_:=z_ (zbb (g:=gb111) (o:=.cells #[.int .i64 t106, .int .i64 t107, .int .i64 t108, .string t109] 23 (0,0)) (by (with_reducible repeat first|apply zbN|apply zb1|apply zbA);exact BK111.out) hb)
            have n4_:=z_ (zbb (g:=gb117) (o:=.cells #[.int .i64 t113, .int .i64 t114, .int .i64 t115, .string t116] 23 (0,0)) (by (with_reducible repeat first|apply zbN|apply zb1|apply zbA);exact BK117.out) hb)
            have n5_:=z_ (zbb (g:=gb131) (o:=.cells #[.int .i64 t126, .int .i64 t127, .int .i64 t128, .string t129] 23 (0,0)) (by (with_reducible repeat first|apply zbN|apply zb1|apply zbA);exact BK131.out) hb)
            have n6_:=z_ (below_step (by repeat first|(with_reducible first|exact HB.out|apply zA|apply zN|apply z1|refine zS ?_ GE110.out|refine zS ?_ GE111.out|refine zS ?_ GE117.out|refine zS ?_ GE131.out)|exact HB.out) hb)
            clear HO_16
            clear HO_17
            clear BK110
            clear BK111
            clear BK117
            clear BK131
            clear HB
            have HO_16:=n0_
            have HO_17:=n1_
            have BK110:=n2_
            have BK111:=n3_
            have BK117:=n4_
            have BK131:=n5_
            have HB:=n6_
            clear n0_ n1_ n2_ n3_ n4_ n5_ n6_
            (try clear hb)
            (try clear hb2)
            (try clear hk)
            (try clear hi)
            refine hK.out _ _ ⟨(zce BK110.out 0).trans rfl,(zce BK110.out 1).trans rfl,(zce BK110.out 2).trans rfl,(zce BK110.out 3).trans rfl,HS4_,HS5_,HS6_,HS7_,HS8_⟩ (fun hHeld=>?_)
            clear hK K
            refine norm_ (a':=?_) ?_ ?_
            rotate_left
            ·show Act.put _ (some 87) _ = _
             simp only [Act.put,List.setIfInBounds_toArray,List.set_cons_zero,List.set_cons_succ,i64_w,i32_w]
             rfl
            refine pure_ (i:=10) (N:=some 77) (v:=?_) (a':=?_) #[true,true,true,true,true,true,true,true,true,true,true,false,false,false,false,false] rfl rfl (any_of HT_.out (by kernel_rfl)) (fun _ _ _ h=>h) (Or.inl ⟨by rfl,?_⟩) ?_ ?_
            rotate_left
            ·intro w'
             go_simp
             with_reducible rfl
            rotate_left
            ·simp only [Act.put,List.setIfInBounds_toArray,List.set_cons_zero,List.set_cons_succ,i64_w,i32_w]
             rfl
            refine pure_ (i:=11) (N:=some 88) (v:=?_) (a':=?_) #[true,true,true,true,true,true,true,true,true,true,true,true,false,false,false,false] rfl rfl (any_of HT_.out (by kernel_rfl)) (fun _ _ _ h=>h) (Or.inl ⟨by rfl,?_⟩) ?_ ?_
            rotate_left
            ·intro w'
             go_simp
             with_reducible rfl
            rotate_left
            ·simp only [Act.put,List.setIfInBounds_toArray,List.set_cons_zero,List.set_cons_succ,i64_w,i32_w]
             rfl
            refine pure_ (i:=12) (N:=some 89) (v:=?_) (a':=?_) #[true,true,true,true,true,true,true,true,true,true,true,true,true,false,false,false] rfl rfl (any_of HT_.out (by kernel_rfl)) (fun _ _ _ h=>h) (Or.inl ⟨by rfl,?_⟩) ?_ ?_
            rotate_left
            ·intro w'
             go_simp
             with_reducible rfl
            rotate_left
            ·simp only [Act.put,List.setIfInBounds_toArray,List.set_cons_zero,List.set_cons_succ,i64_w,i32_w]
             rfl
            refine one_ (i:=13) (N:=some 22) #[true,true,true,true,true,true,true,true,true,true,true,true,true,true,false,false] rfl rfl (one_of HT_.out (by kernel_rfl)) (by decide) (fun K hK=>?_)
            refine box_step ?hg (N:=22) ?hd (cs:=#[.int .i64 0, .int .i64 0, .int .i64 0, .string (⟨#[]⟩:ByteArray)]) (t:=23) ?hr ?_;(case hd=>rfl);(case hg=>rfl);(case hr=>first|(go_simp;done)|(go_simp;rfl))
            intro gb139 hg w59 hbox hb
            have HS4_:=(hb.cell (World.block_lt_of_cell? _ _ (hHeld.2.2.2.2.1))).trans (hHeld.2.2.2.2.1)
            have HS5_:=(hb.cell (World.block_lt_of_cell? _ _ (hHeld.2.2.2.2.2.1))).trans (hHeld.2.2.2.2.2.1)
            have HS6_:=(hb.cell (World.block_lt_of_cell? _ _ (hHeld.2.2.2.2.2.2.1))).trans (hHeld.2.2.2.2.2.2.1)
            have HS7_:=(hb.cell (World.block_lt_of_cell? _ _ (hHeld.2.2.2.2.2.2.2.1))).trans (hHeld.2.2.2.2.2.2.2.1)
            have HS8_:=(hb.cell (World.block_lt_of_cell? _ _ (hHeld.2.2.2.2.2.2.2.2))).trans (hHeld.2.2.2.2.2.2.2.2)
            have n0_:=z_ (Kd.R_below (Kd.R_elderB (by (with_reducible repeat (first|apply Kd.R_alloc|apply Kd.R_drewN|apply Kd.R_drew));exact HO_16.out) gb139 (Nat.le_of_eq hg.symm)) hb)
            have n1_:=z_ (Kd.R_below (by (with_reducible repeat (first|apply Kd.R_alloc|apply Kd.R_drewN|apply Kd.R_drew));exact HO_17.out) hb)
            have n2_:=z_ (zbb (g:=gb110) (o:=.cells #[.int .i64 t102, .int .i64 t103, .int .i64 t104, .string t105] 23 (0,0)) (by (with_reducible repeat first|apply zbN|apply zb1|apply zbA);exact BK110.out) hb)
            have n3_:=z_ (zbb (g:=gb111) (o:=.cells #[.int .i64 t106, .int .i64 t107, .int .i64 t108, .string t109] 23 (0,0)) (by (with_reducible repeat first|apply zbN|apply zb1|apply zbA);exact BK111.out) hb)
            have n4_:=z_ (zbb (g:=gb117) (o:=.cells #[.int .i64 t113, .int .i64 t114, .int .i64 t115, .string t116] 23 (0,0)) (by (with_reducible repeat first|apply zbN|apply zb1|apply zbA);exact BK117.out) hb)
            have n5_:=z_ (zbb (g:=gb131) (o:=.cells #[.int .i64 t126, .int .i64 t127, .int .i64 t128, .string t129] 23 (0,0)) (by (with_reducible repeat first|apply zbN|apply zb1|apply zbA);exact BK131.out) hb)
            have n6_:=z_ (below_step (by repeat first|(with_reducible first|exact HB.out|apply zA|apply zN|apply z1|refine zS ?_ GE110.out|refine zS ?_ GE111.out|refine zS ?_ GE117.out|refine zS ?_ GE131.out)|exact HB.out) hb)
            have n7_:=z_ (hbox)
            have n8_:=z_ ((by rw [hg];exact (zBs (by repeat first|(with_reducible first|exact HB.out|apply zA|apply zN|apply z1|refine zS ?_ GE110.out|refine zS ?_ GE111.out|refine zS ?_ GE117.out|refine zS ?_ GE131.out)|exact HB.out)):w.heap.size ≤ gb139))
            have n9_:=z_ ((by rw [hg];exact (zBs (by repeat first|(with_reducible first|exact HB.out|apply zA|apply zN|apply z1|refine zS ?_ GE110.out|refine zS ?_ GE111.out|refine zS ?_ GE117.out|refine zS ?_ GE131.out)|exact HB.out)):w.heap.size ≤ gb139))
            have n10_:=z_ ((by rw [hg];exact Nat.ne_of_lt (blk_lt (g:=gb110) (o:=.cells #[.int .i64 t102, .int .i64 t103, .int .i64 t104, .string t105] 23 (0,0)) (by (with_reducible repeat first|apply zbN|apply zb1|apply zbA);exact BK110.out)):gb110 ≠ gb139))
            have n11_:=z_ ((by rw [hg];exact Nat.ne_of_gt (blk_lt (g:=gb110) (o:=.cells #[.int .i64 t102, .int .i64 t103, .int .i64 t104, .string t105] 23 (0,0)) (by (with_reducible repeat first|apply zbN|apply zb1|apply zbA);exact BK110.out)):gb139 ≠ gb110))
            have n12_:=z_ ((by rw [hg];exact Nat.ne_of_lt (blk_lt (g:=gb111) (o:=.cells #[.int .i64 t106, .int .i64 t107, .int .i64 t108, .string t109] 23 (0,0)) (by (with_reducible repeat first|apply zbN|apply zb1|apply zbA);exact BK111.out)):gb111 ≠ gb139))
            have n13_:=z_ ((by rw [hg];exact Nat.ne_of_gt (blk_lt (g:=gb111) (o:=.cells #[.int .i64 t106, .int .i64 t107, .int .i64 t108, .string t109] 23 (0,0)) (by (with_reducible repeat first|apply zbN|apply zb1|apply zbA);exact BK111.out)):gb139 ≠ gb111))
            have n14_:=z_ ((by rw [hg];exact Nat.ne_of_lt (blk_lt (g:=gb117) (o:=.cells #[.int .i64 t113, .int .i64 t114, .int .i64 t115, .string t116] 23 (0,0)) (by (with_reducible repeat first|apply zbN|apply zb1|apply zbA);exact BK117.out)):gb117 ≠ gb139))
            have n15_:=z_ ((by rw [hg];exact Nat.ne_of_gt (blk_lt (g:=gb117) (o:=.cells #[.int .i64 t113, .int .i64 t114, .int .i64 t115, .string t116] 23 (0,0)) (by (with_reducible repeat first|apply zbN|apply zb1|apply zbA);exact BK117.out)):gb139 ≠ gb117))
            have n16_:=z_ ((by rw [hg];exact Nat.ne_of_lt (blk_lt (g:=gb131) (o:=.cells #[.int .i64 t126, .int .i64 t127, .int .i64 t128, .string t129] 23 (0,0)) (by (with_reducible repeat first|apply zbN|apply zb1|apply zbA);exact BK131.out)):gb131 ≠ gb139))
            have n17_:=z_ ((by rw [hg];exact Nat.ne_of_gt (blk_lt (g:=gb131) (o:=.cells #[.int .i64 t126, .int .i64 t127, .int .i64 t128, .string t129] 23 (0,0)) (by (with_reducible repeat first|apply zbN|apply zb1|apply zbA);exact BK131.out)):gb139 ≠ gb131))
            clear HO_16
            clear HO_17
            clear BK110
            clear BK111
            clear BK117
            clear BK131
            clear HB
            have HO_16:=n0_
            have HO_17:=n1_
            have BK110:=n2_
            have BK111:=n3_
            have BK117:=n4_
            have BK131:=n5_
            have HB:=n6_
            have BK139:=n7_
            have GW139:=n8_
            have GE139:=n9_
            have NB110_139:=n10_
            have NB139_110:=n11_
            have NB111_139:=n12_
            have NB139_111:=n13_
            have NB117_139:=n14_
            have NB139_117:=n15_
            have NB131_139:=n16_
            have NB139_131:=n17_
            clear n0_ n1_ n2_ n3_ n4_ n5_ n6_ n7_ n8_ n9_ n10_ n11_ n12_ n13_ n14_ n15_ n16_ n17_
            clear hb hbox hg
            refine hK.out _ _ ⟨(zce BK110.out 0).trans rfl,(zce BK110.out 1).trans rfl,(zce BK110.out 2).trans rfl,(zce BK110.out 3).trans rfl,HS4_,HS5_,HS6_,HS7_,HS8_⟩ (fun hHeld=>?_)
            clear hK K
            refine norm_ (a':=?_) ?_ ?_
            rotate_left
            ·show Act.put _ (some 22) _ = _
             simp only [Act.put,List.setIfInBounds_toArray,List.set_cons_zero,List.set_cons_succ,i64_w,i32_w]
             rfl
            exact norm_ (by simp only [putAll,Act.put,List.setIfInBounds_toArray,List.set_cons_zero,List.set_cons_succ]) (hCont (gb139) _ ⟨hHeld,(by (with_reducible repeat (first|apply Kd.R_alloc|apply Kd.R_drewN|apply Kd.R_drew));exact Kd.R_mono HO_16.out (fun _ hk=>⟨hk.1.1,⟨hk.1.2.1,⟨hk.1.2.2.1,⟨hk.1.2.2.2,hk.2⟩⟩⟩⟩)),(by (with_reducible repeat (first|apply Kd.R_alloc|apply Kd.R_drewN|apply Kd.R_drew));exact HO_17.out),(by (with_reducible repeat first|apply zbN|apply zb1|apply zbA);exact BK110.out),(by (with_reducible repeat first|apply zbN|apply zb1|apply zbA);exact BK111.out),(by (with_reducible repeat first|apply zbN|apply zb1|apply zbA);exact BK117.out),(by (with_reducible repeat first|apply zbN|apply zb1|apply zbA);exact BK131.out),(by (with_reducible repeat first|apply zbN|apply zb1|apply zbA);exact BK139.out),GW139.out,GE139.out,NB110_139.out,NB139_110.out,NB111_139.out,NB139_111.out,NB117_139.out,NB139_117.out,NB131_139.out,NB139_131.out,(by repeat first|(with_reducible first|exact HB.out|apply zA|apply zN|apply z1|refine zS ?_ GE110.out|refine zS ?_ GE111.out|refine zS ?_ GE117.out|refine zS ?_ GE131.out|refine zS ?_ GE139.out)|exact HB.out)⟩)
           ·skip
            refine box_step ?hg (N:=22) ?hd (cs:=#[.int .i64 0, .int .i64 0, .int .i64 0, .string (⟨#[]⟩:ByteArray)]) (t:=23) ?hr ?_;(case hd=>rfl);(case hg=>rfl);(case hr=>first|(go_simp;done)|(go_simp;rfl))
            intro gb139 hg w58 hbox hb
            have HS4_:=(hb.cell (World.block_lt_of_cell? _ _ (hHeld.2.2.2.2.1))).trans (hHeld.2.2.2.2.1)
            have HS5_:=(hb.cell (World.block_lt_of_cell? _ _ (hHeld.2.2.2.2.2.1))).trans (hHeld.2.2.2.2.2.1)
            have HS6_:=(hb.cell (World.block_lt_of_cell? _ _ (hHeld.2.2.2.2.2.2.1))).trans (hHeld.2.2.2.2.2.2.1)
            have HS7_:=(hb.cell (World.block_lt_of_cell? _ _ (hHeld.2.2.2.2.2.2.2.1))).trans (hHeld.2.2.2.2.2.2.2.1)
            have HS8_:=(hb.cell (World.block_lt_of_cell? _ _ (hHeld.2.2.2.2.2.2.2.2))).trans (hHeld.2.2.2.2.2.2.2.2)
            have n0_:=z_ (Kd.R_below (Kd.R_elderB (by (with_reducible repeat (first|apply Kd.R_alloc|apply Kd.R_drewN|apply Kd.R_drew));exact HO_16.out) gb139 (Nat.le_of_eq hg.symm)) hb)
            have n1_:=z_ (Kd.R_below (by (with_reducible repeat (first|apply Kd.R_alloc|apply Kd.R_drewN|apply Kd.R_drew));exact HO_17.out) hb)
            have n2_:=z_ (zbb (g:=gb110) (o:=.cells #[.int .i64 t102, .int .i64 t103, .int .i64 t104, .string t105] 23 (0,0)) (by (with_reducible repeat first|apply zbN|apply zb1|apply zbA);exact BK110.out) hb)
            have n3_:=z_ (zbb (g:=gb111) (o:=.cells #[.int .i64 t106, .int .i64 t107, .int .i64 t108, .string t109] 23 (0,0)) (by (with_reducible repeat first|apply zbN|apply zb1|apply zbA);exact BK111.out) hb)
            have n4_:=z_ (zbb (g:=gb117) (o:=.cells #[.int .i64 t113, .int .i64 t114, .int .i64 t115, .string t116] 23 (0,0)) (by (with_reducible repeat first|apply zbN|apply zb1|apply zbA);exact BK117.out) hb)
            have n5_:=z_ (zbb (g:=gb131) (o:=.cells #[.int .i64 t126, .int .i64 t127, .int .i64 t128, .string t129] 23 (0,0)) (by (with_reducible repeat first|apply zbN|apply zb1|apply zbA);exact BK131.out) hb)
            have n6_:=z_ (below_step (by repeat first|(with_reducible first|exact HB.out|apply zA|apply zN|apply z1|refine zS ?_ GE110.out|refine zS ?_ GE111.out|refine zS ?_ GE117.out|refine zS ?_ GE131.out)|exact HB.out) hb)
            have n7_:=z_ (hbox)
            have n8_:=z_ ((by rw [hg];exact (zBs (by repeat first|(with_reducible first|exact HB.out|apply zA|apply zN|apply z1|refine zS ?_ GE110.out|refine zS ?_ GE111.out|refine zS ?_ GE117.out|refine zS ?_ GE131.out)|exact HB.out)):w.heap.size ≤ gb139))
            have n9_:=z_ ((by rw [hg];exact (zBs (by repeat first|(with_reducible first|exact HB.out|apply zA|apply zN|apply z1|refine zS ?_ GE110.out|refine zS ?_ GE111.out|refine zS ?_ GE117.out|refine zS ?_ GE131.out)|exact HB.out)):w.heap.size ≤ gb139))
            have n10_:=z_ ((by rw [hg];exact Nat.ne_of_lt (blk_lt (g:=gb110) (o:=.cells #[.int .i64 t102, .int .i64 t103, .int .i64 t104, .string t105] 23 (0,0)) (by (with_reducible repeat first|apply zbN|apply zb1|apply zbA);exact BK110.out)):gb110 ≠ gb139))
            have n11_:=z_ ((by rw [hg];exact Nat.ne_of_gt (blk_lt (g:=gb110) (o:=.cells #[.int .i64 t102, .int .i64 t103, .int .i64 t104, .string t105] 23 (0,0)) (by (with_reducible repeat first|apply zbN|apply zb1|apply zbA);exact BK110.out)):gb139 ≠ gb110))
            have n12_:=z_ ((by rw [hg];exact Nat.ne_of_lt (blk_lt (g:=gb111) (o:=.cells #[.int .i64 t106, .int .i64 t107, .int .i64 t108, .string t109] 23 (0,0)) (by (with_reducible repeat first|apply zbN|apply zb1|apply zbA);exact BK111.out)):gb111 ≠ gb139))
            have n13_:=z_ ((by rw [hg];exact Nat.ne_of_gt (blk_lt (g:=gb111) (o:=.cells #[.int .i64 t106, .int .i64 t107, .int .i64 t108, .string t109] 23 (0,0)) (by (with_reducible repeat first|apply zbN|apply zb1|apply zbA);exact BK111.out)):gb139 ≠ gb111))
            have n14_:=z_ ((by rw [hg];exact Nat.ne_of_lt (blk_lt (g:=gb117) (o:=.cells #[.int .i64 t113, .int .i64 t114, .int .i64 t115, .string t116] 23 (0,0)) (by (with_reducible repeat first|apply zbN|apply zb1|apply zbA);exact BK117.out)):gb117 ≠ gb139))
            have n15_:=z_ ((by rw [hg];exact Nat.ne_of_gt (blk_lt (g:=gb117) (o:=.cells #[.int .i64 t113, .int .i64 t114, .int .i64 t115, .string t116] 23 (0,0)) (by (with_reducible repeat first|apply zbN|apply zb1|apply zbA);exact BK117.out)):gb139 ≠ gb117))
            have n16_:=z_ ((by rw [hg];exact Nat.ne_of_lt (blk_lt (g:=gb131) (o:=.cells #[.int .i64 t126, .int .i64 t127, .int .i64 t128, .string t129] 23 (0,0)) (by (with_reducible repeat first|apply zbN|apply zb1|apply zbA);exact BK131.out)):gb131 ≠ gb139))
            have n17_:=z_ ((by rw [hg];exact Nat.ne_of_gt (blk_lt (g:=gb131) (o:=.cells #[.int .i64 t126, .int .i64 t127, .int .i64 t128, .string t129] 23 (0,0)) (by (with_reducible repeat first|apply zbN|apply zb1|apply zbA);exact BK131.out)):gb139 ≠ gb131))
            clear HO_16
            clear HO_17
            clear BK110
            clear BK111
            clear BK117
            clear BK131
            clear HB
            have HO_16:=n0_
            have HO_17:=n1_
            have BK110:=n2_
            have BK111:=n3_
            have BK117:=n4_
            have BK131:=n5_
            have HB:=n6_
            have BK139:=n7_
            have GW139:=n8_
            have GE139:=n9_
            have NB110_139:=n10_
            have NB139_110:=n11_
            have NB111_139:=n12_
            have NB139_111:=n13_
            have NB117_139:=n14_
            have NB139_117:=n15_
            have NB131_139:=n16_
            have NB139_131:=n17_
            clear n0_ n1_ n2_ n3_ n4_ n5_ n6_ n7_ n8_ n9_ n10_ n11_ n12_ n13_ n14_ n15_ n16_ n17_
            clear hb hbox hg
            refine hK.out _ _ ⟨(zce BK110.out 0).trans rfl,(zce BK110.out 1).trans rfl,(zce BK110.out 2).trans rfl,(zce BK110.out 3).trans rfl,HS4_,HS5_,HS6_,HS7_,HS8_⟩ (fun hHeld=>?_)
            clear hK K
            refine norm_ (a':=?_) ?_ ?_
            rotate_left
            ·show Act.put _ (some 22) _ = _
             simp only [Act.put,List.setIfInBounds_toArray,List.set_cons_zero,List.set_cons_succ,i64_w,i32_w]
             rfl
            refine one_ (i:=9) (N:=some 87) #[true,true,true,true,true,true,true,true,true,true,false,false,false,true,false,false] rfl rfl (one_of HT_.out (by kernel_rfl)) (by decide) (fun K hK=>?_)
            refine goes_ Try.func21 (by kernel_rfl) rfl #[.int .i64 (rd y121 x18_1), .agg #[.int .i64 t102, .int .i64 t103, .int .i64 t104, .string t105], .agg #[.int .i64 ((rd_T23 y118 x19_2).f0), .int .i64 ((rd_T23 y118 x19_2).f1), .int .i64 ((rd_T23 y118 x19_2).f2), .string ((rd_T23 y118 x19_2).f3)]] (by rfl) rfl rfl (by (try simp only [List.map_toArray,List.map_cons,List.map_nil]);first|done|rfl|(simp only [List.length_drop,List.length_take];rfl)) ?_
            with_reducible refine (federationref1_Reckon.calls k2 (rd y121 x18_1) t102 t103 t104 t105 ((rd_T23 y118 x19_2).f0) ((rd_T23 y118 x19_2).f1) ((rd_T23 y118 x19_2).f2) ((rd_T23 y118 x19_2).f3) t134 t135 t136 t137 t138 _ A41.out).mono ?_
            rintro e w59 ⟨rfl,hb⟩
            have HS4_:=(hb.cell (World.block_lt_of_cell? _ _ (hHeld.2.2.2.2.1))).trans (hHeld.2.2.2.2.1)
            have HS5_:=(hb.cell (World.block_lt_of_cell? _ _ (hHeld.2.2.2.2.2.1))).trans (hHeld.2.2.2.2.2.1)
            have HS6_:=(hb.cell (World.block_lt_of_cell? _ _ (hHeld.2.2.2.2.2.2.1))).trans (hHeld.2.2.2.2.2.2.1)
            have HS7_:=(hb.cell (World.block_lt_of_cell? _ _ (hHeld.2.2.2.2.2.2.2.1))).trans (hHeld.2.2.2.2.2.2.2.1)
            have HS8_:=(hb.cell (World.block_lt_of_cell? _ _ (hHeld.2.2.2.2.2.2.2.2))).trans (hHeld.2.2.2.2.2.2.2.2)
            refine ⟨_,rfl,?_⟩
            have n0_:=z_ (Kd.R_below (by (with_reducible repeat (first|apply Kd.R_alloc|apply Kd.R_drewN|apply Kd.R_drew));exact HO_16.out) hb)
            have n1_:=z_ (Kd.R_below (by (with_reducible repeat (first|apply Kd.R_alloc|apply Kd.R_drewN|apply Kd.R_drew));exact HO_17.out) hb)
            have n2_:=z_ (zbb (g:=gb110) (o:=.cells #[.int .i64 t102, .int .i64 t103, .int .i64 t104, .string t105] 23 (0,0)) (by (with_reducible repeat first|apply zbN|apply zb1|apply zbA);exact BK110.out) hb)
            have n3_:=z_ (zbb (g:=gb111) (o:=.cells #[.int .i64 t106, .int .i64 t107, .int .i64 t108, .string t109] 23 (0,0)) (by (with_reducible repeat first|apply zbN|apply zb1|apply zbA);exact BK111.out) hb)
            have n4_:=z_ (zbb (g:=gb117) (o:=.cells #[.int .i64 t113, .int .i64 t114, .int .i64 t115, .string t116] 23 (0,0)) (by (with_reducible repeat first|apply zbN|apply zb1|apply zbA);exact BK117.out) hb)
            have n5_:=z_ (zbb (g:=gb131) (o:=.cells #[.int .i64 t126, .int .i64 t127, .int .i64 t128, .string t129] 23 (0,0)) (by (with_reducible repeat first|apply zbN|apply zb1|apply zbA);exact BK131.out) hb)
            have n6_:=z_ (zbb (g:=gb139) (o:=.cells #[.int .i64 0, .int .i64 0, .int .i64 0, .string (⟨#[]⟩:ByteArray)] 23 (0,0)) (by (with_reducible repeat first|apply zbN|apply zb1|apply zbA);exact BK139.out) hb)
            have n7_:=z_ (below_step (by repeat first|(with_reducible first|exact HB.out|apply zA|apply zN|apply z1|refine zS ?_ GE110.out|refine zS ?_ GE111.out|refine zS ?_ GE117.out|refine zS ?_ GE131.out|refine zS ?_ GE139.out)|exact HB.out) hb)
            clear HO_16
            clear HO_17
            clear BK110
            clear BK111
            clear BK117
            clear BK131
            clear BK139
            clear HB
            have HO_16:=n0_
            have HO_17:=n1_
            have BK110:=n2_
            have BK111:=n3_
            have BK117:=n4_
            have BK131:=n5_
            have BK139:=n6_
            have HB:=n7_
            clear n0_ n1_ n2_ n3_ n4_ n5_ n6_ n7_
            (try clear hb)
            (try clear hb2)
            (try clear hk)
            (try clear hi)
            refine hK.out _ _ ⟨(zce BK110.out 0).trans rfl,(zce BK110.out 1).trans rfl,(zce BK110.out 2).trans rfl,(zce BK110.out 3).trans rfl,HS4_,HS5_,HS6_,HS7_,HS8_⟩ (fun hHeld=>?_)
            clear hK K
            refine norm_ (a':=?_) ?_ ?_
            rotate_left
            ·show Act.put _ (some 87) _ = _
             simp only [Act.put,List.setIfInBounds_toArray,List.set_cons_zero,List.set_cons_succ,i64_w,i32_w]
             rfl
            refine pure_ (i:=10) (N:=some 77) (v:=?_) (a':=?_) #[true,true,true,true,true,true,true,true,true,true,true,false,false,true,false,false] rfl rfl (any_of HT_.out (by kernel_rfl)) (fun _ _ _ h=>h) (Or.inl ⟨by rfl,?_⟩) ?_ ?_
            rotate_left
            ·intro w'
             go_simp
             with_reducible rfl
            rotate_left
            ·simp only [Act.put,List.setIfInBounds_toArray,List.set_cons_zero,List.set_cons_succ,i64_w,i32_w]
             rfl
            refine pure_ (i:=11) (N:=some 88) (v:=?_) (a':=?_) #[true,true,true,true,true,true,true,true,true,true,true,true,false,true,false,false] rfl rfl (any_of HT_.out (by kernel_rfl)) (fun _ _ _ h=>h) (Or.inl ⟨by rfl,?_⟩) ?_ ?_
            rotate_left
            ·intro w'
             go_simp
             with_reducible rfl
            rotate_left
            ·simp only [Act.put,List.setIfInBounds_toArray,List.set_cons_zero,List.set_cons_succ,i64_w,i32_w]
             rfl
            refine pure_ (i:=12) (N:=some 89) (v:=?_) (a':=?_) #[true,true,true,true,true,true,true,true,true,true,true,true,true,true,false,false] rfl rfl (any_of HT_.out (by kernel_rfl)) (fun _ _ _ h=>h) (Or.inl ⟨by rfl,?_⟩) ?_ ?_
            rotate_left
            ·intro w'
             go_simp
             with_reducible rfl
            rotate_left
            ·simp only [Act.put,List.setIfInBounds_toArray,List.set_cons_zero,List.set_cons_succ,i64_w,i32_w]
             rfl
            exact norm_ (by simp only [putAll,Act.put,List.setIfInBounds_toArray,List.set_cons_zero,List.set_cons_succ]) (hCont (gb139) _ ⟨hHeld,(by (with_reducible repeat (first|apply Kd.R_alloc|apply Kd.R_drewN|apply Kd.R_drew));exact Kd.R_mono HO_16.out (fun _ hk=>⟨hk.1.1,⟨hk.1.2.1,⟨hk.1.2.2.1,⟨hk.1.2.2.2,hk.2⟩⟩⟩⟩)),(by (with_reducible repeat (first|apply Kd.R_alloc|apply Kd.R_drewN|apply Kd.R_drew));exact HO_17.out),(by (with_reducible repeat first|apply zbN|apply zb1|apply zbA);exact BK110.out),(by (with_reducible repeat first|apply zbN|apply zb1|apply zbA);exact BK111.out),(by (with_reducible repeat first|apply zbN|apply zb1|apply zbA);exact BK117.out),(by (with_reducible repeat first|apply zbN|apply zb1|apply zbA);exact BK131.out),(by (with_reducible repeat first|apply zbN|apply zb1|apply zbA);exact BK139.out),GW139.out,GE139.out,NB110_139.out,NB139_110.out,NB111_139.out,NB139_111.out,NB117_139.out,NB139_117.out,NB131_139.out,NB139_131.out,(by repeat first|(with_reducible first|exact HB.out|apply zA|apply zN|apply z1|refine zS ?_ GE110.out|refine zS ?_ GE111.out|refine zS ?_ GE117.out|refine zS ?_ GE131.out|refine zS ?_ GE139.out)|exact HB.out)⟩)
          rintro gb139 w60 ⟨hS_,h0_,h1_,h2_,h3_,h4_,h5_,h6_,h7_,h8_,h9_,h10_,h11_,h12_,h13_,h14_,h15_,h16_,h17_⟩
          have n0_:Aside0 (Kd.R k23 23 w60 w.heap.size (fun k_=>k_ ≠ gb110 ∧ k_ ≠ gb111 ∧ k_ ≠ gb117 ∧ k_ ≠ gb131 ∧ k_ ≠ gb139) (.slice (some ad125) y118.length co47) y118):=⟨h0_⟩
          have n1_:Aside0 (Kd.R (Kd.int .i64) 3 w60 w.heap.size (fun _=>True) (.slice (some ad124) y121.length co35) y121):=⟨h1_⟩
          have n2_:Aside0 (w60.heap[gb110]? = some (.cells #[.int .i64 t102, .int .i64 t103, .int .i64 t104, .string t105] 23 (0,0))):=⟨h2_⟩
          have n3_:Aside0 (w60.heap[gb111]? = some (.cells #[.int .i64 t106, .int .i64 t107, .int .i64 t108, .string t109] 23 (0,0))):=⟨h3_⟩
          have n4_:Aside0 (w60.heap[gb117]? = some (.cells #[.int .i64 t113, .int .i64 t114, .int .i64 t115, .string t116] 23 (0,0))):=⟨h4_⟩
          have n5_:Aside0 (w60.heap[gb131]? = some (.cells #[.int .i64 t126, .int .i64 t127, .int .i64 t128, .string t129] 23 (0,0))):=⟨h5_⟩
          have n6_:Aside0 (w60.heap[gb139]? = some (.cells #[.int .i64 0, .int .i64 0, .int .i64 0, .string (⟨#[]⟩:ByteArray)] 23 (0,0))):=⟨h6_⟩
          have n7_:Aside0 (w.heap.size ≤ gb139):=⟨h7_⟩
          have n8_:Aside0 (w.heap.size ≤ gb139):=⟨h8_⟩
          have n9_:Aside0 (gb110 ≠ gb139):=⟨h9_⟩
          have n10_:Aside0 (gb139 ≠ gb110):=⟨h10_⟩
          have n11_:Aside0 (gb111 ≠ gb139):=⟨h11_⟩
          have n12_:Aside0 (gb139 ≠ gb111):=⟨h12_⟩
          have n13_:Aside0 (gb117 ≠ gb139):=⟨h13_⟩
          have n14_:Aside0 (gb139 ≠ gb117):=⟨h14_⟩
          have n15_:Aside0 (gb131 ≠ gb139):=⟨h15_⟩
          have n16_:Aside0 (gb139 ≠ gb131):=⟨h16_⟩
          have n17_:Aside0 (Below w.heap.size w w60):=⟨h17_⟩
          clear HO_16
          clear HO_17
          clear BK110
          clear BK111
          clear BK117
          clear BK131
          clear HB
          clear h0_ h1_ h2_ h3_ h4_ h5_ h6_ h7_ h8_ h9_ h10_ h11_ h12_ h13_ h14_ h15_ h16_ h17_
          have HO_16:=n0_
          have HO_17:=n1_
          have BK110:=n2_
          have BK111:=n3_
          have BK117:=n4_
          have BK131:=n5_
          have BK139:=n6_
          have GW139:=n7_
          have GE139:=n8_
          have NB110_139:=n9_
          have NB139_110:=n10_
          have NB111_139:=n11_
          have NB139_111:=n12_
          have NB117_139:=n13_
          have NB139_117:=n14_
          have NB131_139:=n15_
          have NB139_131:=n16_
          have HB:=n17_
          clear n0_ n1_ n2_ n3_ n4_ n5_ n6_ n7_ n8_ n9_ n10_ n11_ n12_ n13_ n14_ n15_ n16_ n17_
          have hHeld:w60.cell? ⟨gb110,0,none⟩ = some (.int .i64 t102) ∧ w60.cell? ⟨gb110,1,none⟩ = some (.int .i64 t103) ∧ w60.cell? ⟨gb110,2,none⟩ = some (.int .i64 t104) ∧ w60.cell? ⟨gb110,3,none⟩ = some (.string t105) ∧ w60.cell? (ad124.add (x18_1).toNat) = some (.int .i64 (rd y121 x18_1)) ∧ w60.cell? (ad125.add ((x19_2).toNat * 4)) = some (.int .i64 ((rd_T23 y118 x19_2).f0)) ∧ w60.cell? ⟨(ad125.add ((x19_2).toNat * 4)).block,(ad125.add ((x19_2).toNat * 4)).off + 1,none⟩ = some (.int .i64 ((rd_T23 y118 x19_2).f1)) ∧ w60.cell? ⟨(ad125.add ((x19_2).toNat * 4)).block,(ad125.add ((x19_2).toNat * 4)).off + 2,none⟩ = some (.int .i64 ((rd_T23 y118 x19_2).f2)) ∧ w60.cell? ⟨(ad125.add ((x19_2).toNat * 4)).block,(ad125.add ((x19_2).toNat * 4)).off + 3,none⟩ = some (.string ((rd_T23 y118 x19_2).f3)):=hS_
          refine norm_ (a':=?_) ?_ ?_
          rotate_left
          ·simp only [putAll,Act.put,List.setIfInBounds_toArray,List.set_cons_zero,List.set_cons_succ]
           rfl
          refine one_ (i:=14) (N:=none) #[true,true,true,true,true,true,true,true,true,true,true,true,true,true,true,false] rfl rfl (one_of HT_.out (by kernel_rfl)) (by decide) (fun K hK=>?_)
          have hs61:w60.cell? ⟨gb139,0,none⟩ = some (.int .i64 0):=(zce BK139.out 0).trans rfl
          have hfs61:=zfz BK139.out 0
          have hns61_0:=NB110_139.out
          have hns61_1:=NB111_139.out
          have hns61_2:=NB117_139.out
          have hns61_3:=NB131_139.out
          have hms61_0:=NB139_110.out
          have hms61_1:=NB139_111.out
          have hms61_2:=NB139_117.out
          have hms61_3:=NB139_131.out
          have hs62:w60.cell? ⟨gb139,1,none⟩ = some (.int .i64 0):=(zce BK139.out 1).trans rfl
          have hfs62:=zfz BK139.out 1
          have hns62_0:=NB110_139.out
          have hns62_1:=NB111_139.out
          have hns62_2:=NB117_139.out
          have hns62_3:=NB131_139.out
          have hms62_0:=NB139_110.out
          have hms62_1:=NB139_111.out
          have hms62_2:=NB139_117.out
          have hms62_3:=NB139_131.out
          have hs63:w60.cell? ⟨gb139,2,none⟩ = some (.int .i64 0):=(zce BK139.out 2).trans rfl
          have hfs63:=zfz BK139.out 2
          have hns63_0:=NB110_139.out
          have hns63_1:=NB111_139.out
          have hns63_2:=NB117_139.out
          have hns63_3:=NB131_139.out
          have hms63_0:=NB139_110.out
          have hms63_1:=NB139_111.out
          have hms63_2:=NB139_117.out
          have hms63_3:=NB139_131.out
          have hs64:w60.cell? ⟨gb139,3,none⟩ = some (.string (⟨#[]⟩:ByteArray)):=(zce BK139.out 3).trans rfl
          have hfs64:=zfz BK139.out 3
          have hns64_0:=NB110_139.out
          have hns64_1:=NB111_139.out
          have hns64_2:=NB117_139.out
          have hns64_3:=NB131_139.out
          have hms64_0:=NB139_110.out
          have hms64_1:=NB139_111.out
          have hms64_2:=NB139_117.out
          have hms64_3:=NB139_131.out
          refine skip_ (w1:=?_) (by rfl) rfl ?_ ?_
          rotate_left
          ·go_simp
           rfl
          refine hK.out _ _ ⟨((cell_far (p:=⟨gb139,_,none⟩) NB110_139.out _).trans (((cell_far (p:=⟨gb139,_,none⟩) NB110_139.out _).trans (((cell_far (p:=⟨gb139,_,none⟩) NB110_139.out _).trans (((cell_far (p:=⟨gb139,_,none⟩) NB110_139.out _).trans (hHeld.1)))))))),((cell_far (p:=⟨gb139,_,none⟩) NB110_139.out _).trans (((cell_far (p:=⟨gb139,_,none⟩) NB110_139.out _).trans (((cell_far (p:=⟨gb139,_,none⟩) NB110_139.out _).trans (((cell_far (p:=⟨gb139,_,none⟩) NB110_139.out _).trans (hHeld.2.1)))))))),((cell_far (p:=⟨gb139,_,none⟩) NB110_139.out _).trans (((cell_far (p:=⟨gb139,_,none⟩) NB110_139.out _).trans (((cell_far (p:=⟨gb139,_,none⟩) NB110_139.out _).trans (((cell_far (p:=⟨gb139,_,none⟩) NB110_139.out _).trans (hHeld.2.2.1)))))))),((cell_far (p:=⟨gb139,_,none⟩) NB110_139.out _).trans (((cell_far (p:=⟨gb139,_,none⟩) NB110_139.out _).trans (((cell_far (p:=⟨gb139,_,none⟩) NB110_139.out _).trans (((cell_far (p:=⟨gb139,_,none⟩) NB110_139.out _).trans (hHeld.2.2.2.1)))))))),((cell_far (p:=⟨gb139,_,none⟩) (by first|exact Kd.own_blk (Kd.R_ne HO_17.out BK139.out (by decide))|(rw [add_block];exact Kd.own_blk (Kd.R_ne HO_17.out BK139.out (by decide)))|(show (Addr.add _ _).block ≠ _;rw [add_block];exact Kd.own_blk (Kd.R_ne HO_17.out BK139.out (by decide)))|(dsimp only;exact Kd.own_blk (Kd.R_ne HO_17.out BK139.out (by decide)))) _).trans (((cell_far (p:=⟨gb139,_,none⟩) (by first|exact Kd.own_blk (Kd.R_ne HO_17.out BK139.out (by decide))|(rw [add_block];exact Kd.own_blk (Kd.R_ne HO_17.out BK139.out (by decide)))|(show (Addr.add _ _).block ≠ _;rw [add_block];exact Kd.own_blk (Kd.R_ne HO_17.out BK139.out (by decide)))|(dsimp only;exact Kd.own_blk (Kd.R_ne HO_17.out BK139.out (by decide)))) _).trans (((cell_far (p:=⟨gb139,_,none⟩) (by first|exact Kd.own_blk (Kd.R_ne HO_17.out BK139.out (by decide))|(rw [add_block];exact Kd.own_blk (Kd.R_ne HO_17.out BK139.out (by decide)))|(show (Addr.add _ _).block ≠ _;rw [add_block];exact Kd.own_blk (Kd.R_ne HO_17.out BK139.out (by decide)))|(dsimp only;exact Kd.own_blk (Kd.R_ne HO_17.out BK139.out (by decide)))) _).trans (((cell_far (p:=⟨gb139,_,none⟩) (by first|exact Kd.own_blk (Kd.R_ne HO_17.out BK139.out (by decide))|(rw [add_block];exact Kd.own_blk (Kd.R_ne HO_17.out BK139.out (by decide)))|(show (Addr.add _ _).block ≠ _;rw [add_block];exact Kd.own_blk (Kd.R_ne HO_17.out BK139.out (by decide)))|(dsimp only;exact Kd.own_blk (Kd.R_ne HO_17.out BK139.out (by decide)))) _).trans (hHeld.2.2.2.2.1)))))))),((cell_far (p:=⟨gb139,_,none⟩) (by first|exact Kd.own_blk (Kd.R_away HO_16.out (fun _ hk=>hk.2.2.2.2))|(rw [add_block];exact Kd.own_blk (Kd.R_away HO_16.out (fun _ hk=>hk.2.2.2.2)))|(show (Addr.add _ _).block ≠ _;rw [add_block];exact Kd.own_blk (Kd.R_away HO_16.out (fun _ hk=>hk.2.2.2.2)))|(dsimp only;exact Kd.own_blk (Kd.R_away HO_16.out (fun _ hk=>hk.2.2.2.2)))) _).trans (((cell_far (p:=⟨gb139,_,none⟩) (by first|exact Kd.own_blk (Kd.R_away HO_16.out (fun _ hk=>hk.2.2.2.2))|(rw [add_block];exact Kd.own_blk (Kd.R_away HO_16.out (fun _ hk=>hk.2.2.2.2)))|(show (Addr.add _ _).block ≠ _;rw [add_block];exact Kd.own_blk (Kd.R_away HO_16.out (fun _ hk=>hk.2.2.2.2)))|(dsimp only;exact Kd.own_blk (Kd.R_away HO_16.out (fun _ hk=>hk.2.2.2.2)))) _).trans (((cell_far (p:=⟨gb139,_,none⟩) (by first|exact Kd.own_blk (Kd.R_away HO_16.out (fun _ hk=>hk.2.2.2.2))|(rw [add_block];exact Kd.own_blk (Kd.R_away HO_16.out (fun _ hk=>hk.2.2.2.2)))|(show (Addr.add _ _).block ≠ _;rw [add_block];exact Kd.own_blk (Kd.R_away HO_16.out (fun _ hk=>hk.2.2.2.2)))|(dsimp only;exact Kd.own_blk (Kd.R_away HO_16.out (fun _ hk=>hk.2.2.2.2)))) _).trans (((cell_far (p:=⟨gb139,_,none⟩) (by first|exact Kd.own_blk (Kd.R_away HO_16.out (fun _ hk=>hk.2.2.2.2))|(rw [add_block];exact Kd.own_blk (Kd.R_away HO_16.out (fun _ hk=>hk.2.2.2.2)))|(show (Addr.add _ _).block ≠ _;rw [add_block];exact Kd.own_blk (Kd.R_away HO_16.out (fun _ hk=>hk.2.2.2.2)))|(dsimp only;exact Kd.own_blk (Kd.R_away HO_16.out (fun _ hk=>hk.2.2.2.2)))) _).trans (hHeld.2.2.2.2.2.1)))))))),((cell_far (p:=⟨gb139,_,none⟩) (by first|exact Kd.own_blk (Kd.R_away HO_16.out (fun _ hk=>hk.2.2.2.2))|(rw [add_block];exact Kd.own_blk (Kd.R_away HO_16.out (fun _ hk=>hk.2.2.2.2)))|(show (Addr.add _ _).block ≠ _;rw [add_block];exact Kd.own_blk (Kd.R_away HO_16.out (fun _ hk=>hk.2.2.2.2)))|(dsimp only;exact Kd.own_blk (Kd.R_away HO_16.out (fun _ hk=>hk.2.2.2.2)))) _).trans (((cell_far (p:=⟨gb139,_,none⟩) (by first|exact Kd.own_blk (Kd.R_away HO_16.out (fun _ hk=>hk.2.2.2.2))|(rw [add_block];exact Kd.own_blk (Kd.R_away HO_16.out (fun _ hk=>hk.2.2.2.2)))|(show (Addr.add _ _).block ≠ _;rw [add_block];exact Kd.own_blk (Kd.R_away HO_16.out (fun _ hk=>hk.2.2.2.2)))|(dsimp only;exact Kd.own_blk (Kd.R_away HO_16.out (fun _ hk=>hk.2.2.2.2)))) _).trans (((cell_far (p:=⟨gb139,_,none⟩) (by first|exact Kd.own_blk (Kd.R_away HO_16.out (fun _ hk=>hk.2.2.2.2))|(rw [add_block];exact Kd.own_blk (Kd.R_away HO_16.out (fun _ hk=>hk.2.2.2.2)))|(show (Addr.add _ _).block ≠ _;rw [add_block];exact Kd.own_blk (Kd.R_away HO_16.out (fun _ hk=>hk.2.2.2.2)))|(dsimp only;exact Kd.own_blk (Kd.R_away HO_16.out (fun _ hk=>hk.2.2.2.2)))) _).trans (((cell_far (p:=⟨gb139,_,none⟩) (by first|exact Kd.own_blk (Kd.R_away HO_16.out (fun _ hk=>hk.2.2.2.2))|(rw [add_block];exact Kd.own_blk (Kd.R_away HO_16.out (fun _ hk=>hk.2.2.2.2)))|(show (Addr.add _ _).block ≠ _;rw [add_block];exact Kd.own_blk (Kd.R_away HO_16.out (fun _ hk=>hk.2.2.2.2)))|(dsimp only;exact Kd.own_blk (Kd.R_away HO_16.out (fun _ hk=>hk.2.2.2.2)))) _).trans (hHeld.2.2.2.2.2.2.1)))))))),((cell_far (p:=⟨gb139,_,none⟩) (by first|exact Kd.own_blk (Kd.R_away HO_16.out (fun _ hk=>hk.2.2.2.2))|(rw [add_block];exact Kd.own_blk (Kd.R_away HO_16.out (fun _ hk=>hk.2.2.2.2)))|(show (Addr.add _ _).block ≠ _;rw [add_block];exact Kd.own_blk (Kd.R_away HO_16.out (fun _ hk=>hk.2.2.2.2)))|(dsimp only;exact Kd.own_blk (Kd.R_away HO_16.out (fun _ hk=>hk.2.2.2.2)))) _).trans (((cell_far (p:=⟨gb139,_,none⟩) (by first|exact Kd.own_blk (Kd.R_away HO_16.out (fun _ hk=>hk.2.2.2.2))|(rw [add_block];exact Kd.own_blk (Kd.R_away HO_16.out (fun _ hk=>hk.2.2.2.2)))|(show (Addr.add _ _).block ≠ _;rw [add_block];exact Kd.own_blk (Kd.R_away HO_16.out (fun _ hk=>hk.2.2.2.2)))|(dsimp only;exact Kd.own_blk (Kd.R_away HO_16.out (fun _ hk=>hk.2.2.2.2)))) _).trans (((cell_far (p:=⟨gb139,_,none⟩) (by first|exact Kd.own_blk (Kd.R_away HO_16.out (fun _ hk=>hk.2.2.2.2))|(rw [add_block];exact Kd.own_blk (Kd.R_away HO_16.out (fun _ hk=>hk.2.2.2.2)))|(show (Addr.add _ _).block ≠ _;rw [add_block];exact Kd.own_blk (Kd.R_away HO_16.out (fun _ hk=>hk.2.2.2.2)))|(dsimp only;exact Kd.own_blk (Kd.R_away HO_16.out (fun _ hk=>hk.2.2.2.2)))) _).trans (((cell_far (p:=⟨gb139,_,none⟩) (by first|exact Kd.own_blk (Kd.R_away HO_16.out (fun _ hk=>hk.2.2.2.2))|(rw [add_block];exact Kd.own_blk (Kd.R_away HO_16.out (fun _ hk=>hk.2.2.2.2)))|(show (Addr.add _ _).block ≠ _;rw [add_block];exact Kd.own_blk (Kd.R_away HO_16.out (fun _ hk=>hk.2.2.2.2)))|(dsimp only;exact Kd.own_blk (Kd.R_away HO_16.out (fun _ hk=>hk.2.2.2.2)))) _).trans (hHeld.2.2.2.2.2.2.2.1)))))))),((cell_far (p:=⟨gb139,_,none⟩) (by first|exact Kd.own_blk (Kd.R_away HO_16.out (fun _ hk=>hk.2.2.2.2))|(rw [add_block];exact Kd.own_blk (Kd.R_away HO_16.out (fun _ hk=>hk.2.2.2.2)))|(show (Addr.add _ _).block ≠ _;rw [add_block];exact Kd.own_blk (Kd.R_away HO_16.out (fun _ hk=>hk.2.2.2.2)))|(dsimp only;exact Kd.own_blk (Kd.R_away HO_16.out (fun _ hk=>hk.2.2.2.2)))) _).trans (((cell_far (p:=⟨gb139,_,none⟩) (by first|exact Kd.own_blk (Kd.R_away HO_16.out (fun _ hk=>hk.2.2.2.2))|(rw [add_block];exact Kd.own_blk (Kd.R_away HO_16.out (fun _ hk=>hk.2.2.2.2)))|(show (Addr.add _ _).block ≠ _;rw [add_block];exact Kd.own_blk (Kd.R_away HO_16.out (fun _ hk=>hk.2.2.2.2)))|(dsimp only;exact Kd.own_blk (Kd.R_away HO_16.out (fun _ hk=>hk.2.2.2.2)))) _).trans (((cell_far (p:=⟨gb139,_,none⟩) (by first|exact Kd.own_blk (Kd.R_away HO_16.out (fun _ hk=>hk.2.2.2.2))|(rw [add_block];exact Kd.own_blk (Kd.R_away HO_16.out (fun _ hk=>hk.2.2.2.2)))|(show (Addr.add _ _).block ≠ _;rw [add_block];exact Kd.own_blk (Kd.R_away HO_16.out (fun _ hk=>hk.2.2.2.2)))|(dsimp only;exact Kd.own_blk (Kd.R_away HO_16.out (fun _ hk=>hk.2.2.2.2)))) _).trans (((cell_far (p:=⟨gb139,_,none⟩) (by first|exact Kd.own_blk (Kd.R_away HO_16.out (fun _ hk=>hk.2.2.2.2))|(rw [add_block];exact Kd.own_blk (Kd.R_away HO_16.out (fun _ hk=>hk.2.2.2.2)))|(show (Addr.add _ _).block ≠ _;rw [add_block];exact Kd.own_blk (Kd.R_away HO_16.out (fun _ hk=>hk.2.2.2.2)))|(dsimp only;exact Kd.own_blk (Kd.R_away HO_16.out (fun _ hk=>hk.2.2.2.2)))) _).trans (hHeld.2.2.2.2.2.2.2.2))))))))⟩ (fun hHeld=>?_)
          clear hK K
          refine pure_ (i:=15) (N:=some 23) (v:=?_) (a':=?_) #[true,true,true,true,true,true,true,true,true,true,true,true,true,true,true,true] rfl rfl (any_of HT_.out (by kernel_rfl)) (fun _ _ _ h=>h) (Or.inl ⟨by rfl,?_⟩) ?_ ?_
          rotate_left
          ·intro w'
           go_simp
           with_reducible rfl
          rotate_left
          ·simp only [Act.put,List.setIfInBounds_toArray,List.set_cons_zero,List.set_cons_succ,i64_w,i32_w]
           rfl
          refine done_ (done_of HT_.out (by kernel_rfl)) ?_
          have hnb65:=NB131_110.out
          have hnc65:=NB110_131.out
          have hnb66:=NB131_111.out
          have hnc66:=NB111_131.out
          have hnb67:=NB131_117.out
          have hnc67:=NB117_131.out
          have hnb68:=NB131_139.out
          have hnc68:=NB139_131.out
          have hcz69_0:w60.cell? ⟨gb131,0,none⟩ = some (.int .i64 t126):=(zce BK131.out 0).trans rfl
          have hcz69_1:w60.cell? ⟨gb131,1,none⟩ = some (.int .i64 t127):=(zce BK131.out 1).trans rfl
          have hcz69_2:w60.cell? ⟨gb131,2,none⟩ = some (.int .i64 t128):=(zce BK131.out 2).trans rfl
          have hcz69_3:w60.cell? ⟨gb131,3,none⟩ = some (.string t129):=(zce BK131.out 3).trans rfl
          have hfz69_0:=zfz BK131.out 0
          have hfz69_1:=zfz BK131.out 1
          have hfz69_2:=zfz BK131.out 2
          have hfz69_3:=zfz BK131.out 3
          have hnb70:=NB139_110.out
          have hnc70:=NB110_139.out
          have hnb71:=NB139_111.out
          have hnc71:=NB111_139.out
          have hnb72:=NB139_117.out
          have hnc72:=NB117_139.out
          have hcz73_0:w60.cell? ⟨gb139,0,none⟩ = some (.int .i64 0):=(zce BK139.out 0).trans rfl
          have hcz73_1:w60.cell? ⟨gb139,1,none⟩ = some (.int .i64 0):=(zce BK139.out 1).trans rfl
          have hcz73_2:w60.cell? ⟨gb139,2,none⟩ = some (.int .i64 0):=(zce BK139.out 2).trans rfl
          have hcz73_3:w60.cell? ⟨gb139,3,none⟩ = some (.string (⟨#[]⟩:ByteArray)):=(zce BK139.out 3).trans rfl
          have hfz73_0:=zfz BK139.out 0
          have hfz73_1:=zfz BK139.out 1
          have hfz73_2:=zfz BK139.out 2
         ·have hfz73_3:=zfz BK139.out 3
          try go_wp2_with (first|(go_at_call 15;(with_reducible refine (val_Right.calls k2 t126 t127 t128 t129 true _ A45.out).mono ?_);rintro e w74 ⟨rfl,hb⟩;have n0_:=z_ (Kd.R_below (by (with_reducible repeat (first|apply Kd.R_alloc|apply Kd.R_drewN|apply Kd.R_drew));exact (Kd.R_mono (Kd.R_far (p:=⟨gb139,3,none⟩) (Kd.R_far (p:=⟨gb139,2,none⟩) (Kd.R_far (p:=⟨gb139,1,none⟩) (Kd.R_far (p:=⟨gb139,0,none⟩) (Kd.R_mono HO_16.out (fun k_ hk=>(⟨hk,hk.2.2.2.2⟩:_ ∧ k_ ≠ gb139))) (fun _ hk=>hk.2) (.int .i64 t134)) (fun _ hk=>hk.2) (.int .i64 t135)) (fun _ hk=>hk.2) (.int .i64 t136)) (fun _ hk=>hk.2) (.string t137)) (fun _ h_=>h_.1))) hb);have n1_:=z_ (Kd.R_below (by (with_reducible repeat (first|apply Kd.R_alloc|apply Kd.R_drewN|apply Kd.R_drew));exact (Kd.R_mono (Kd.R_far (p:=⟨gb139,3,none⟩) (Kd.R_far (p:=⟨gb139,2,none⟩) (Kd.R_far (p:=⟨gb139,1,none⟩) (Kd.R_far (p:=⟨gb139,0,none⟩) (Kd.R_types HO_17.out BK139.out (by decide)) (fun _ hk=>hk.2) (.int .i64 t134)) (fun _ hk=>hk.2) (.int .i64 t135)) (fun _ hk=>hk.2) (.int .i64 t136)) (fun _ hk=>hk.2) (.string t137)) (fun _ h_=>h_.1))) hb);have n2_:=z_ (zbb (g:=gb110) (o:=.cells #[.int .i64 t102, .int .i64 t103, .int .i64 t104, .string t105] 23 (0,0)) (by (with_reducible repeat first|apply zbN|apply zb1|apply zbA);refine zbf ?_ NB110_139.out _;(with_reducible repeat first|apply zbN|apply zb1|apply zbA);refine zbf ?_ NB110_139.out _;(with_reducible repeat first|apply zbN|apply zb1|apply zbA);refine zbf ?_ NB110_139.out _;(with_reducible repeat first|apply zbN|apply zb1|apply zbA);refine zbf ?_ NB110_139.out _;(with_reducible repeat first|apply zbN|apply zb1|apply zbA);exact BK110.out) hb);have n3_:=z_ (zbb (g:=gb111) (o:=.cells #[.int .i64 t106, .int .i64 t107, .int .i64 t108, .string t109] 23 (0,0)) (by (with_reducible repeat first|apply zbN|apply zb1|apply zbA);refine zbf ?_ NB111_139.out _;(with_reducible repeat first|apply zbN|apply zb1|apply zbA);refine zbf ?_ NB111_139.out _;(with_reducible repeat first|apply zbN|apply zb1|apply zbA);refine zbf ?_ NB111_139.out _;(with_reducible repeat first|apply zbN|apply zb1|apply zbA);refine zbf ?_ NB111_139.out _;(with_reducible repeat first|apply zbN|apply zb1|apply zbA);exact BK111.out) hb);have n4_:=z_ (zbb (g:=gb117) (o:=.cells #[.int .i64 t113, .int .i64 t114, .int .i64 t115, .string t116] 23 (0,0)) (by (with_reducible repeat first|apply zbN|apply zb1|apply zbA);refine zbf ?_ NB117_139.out _;(with_reducible repeat first|apply zbN|apply zb1|apply zbA);refine zbf ?_ NB117_139.out _;(with_reducible repeat first|apply zbN|apply zb1|apply zbA);refine zbf ?_ NB117_139.out _;(with_reducible repeat first|apply zbN|apply zb1|apply zbA);refine zbf ?_ NB117_139.out _;(with_reducible repeat first|apply zbN|apply zb1|apply zbA);exact BK117.out) hb);have n5_:=z_ (zbb (g:=gb131) (o:=.cells #[.int .i64 t126, .int .i64 t127, .int .i64 t128, .string t129] 23 (0,0)) (by (with_reducible repeat first|apply zbN|apply zb1|apply zbA);refine zbf ?_ NB131_139.out _;(with_reducible repeat first|apply zbN|apply zb1|apply zbA);refine zbf ?_ NB131_139.out _;(with_reducible repeat first|apply zbN|apply zb1|apply zbA);refine zbf ?_ NB131_139.out _;(with_reducible repeat first|apply zbN|apply zb1|apply zbA);refine zbf ?_ NB131_139.out _;(with_reducible repeat first|apply zbN|apply zb1|apply zbA);exact BK131.out) hb);have n6_:=z_ (zbb (g:=gb139) (o:=.cells #[.int .i64 t134, .int .i64 t135, .int .i64 t136, .string t137] 23 (0,0)) (by (with_reducible repeat first|apply zbN|apply zb1|apply zbA);refine zbp (cs:=#[.int .i64 t134, .int .i64 t135, .int .i64 t136, .string (⟨#[]⟩:ByteArray)]) ?_ 3 _ rfl;(with_reducible repeat first|apply zbN|apply zb1|apply zbA);refine zbp (cs:=#[.int .i64 t134, .int .i64 t135, .int .i64 0, .string (⟨#[]⟩:ByteArray)]) ?_ 2 _ rfl;(with_reducible repeat first|apply zbN|apply zb1|apply zbA);refine zbp (cs:=#[.int .i64 t134, .int .i64 0, .int .i64 0, .string (⟨#[]⟩:ByteArray)]) ?_ 1 _ rfl;(with_reducible repeat first|apply zbN|apply zb1|apply zbA);refine zbp (cs:=#[.int .i64 0, .int .i64 0, .int .i64 0, .string (⟨#[]⟩:ByteArray)]) ?_ 0 _ rfl;(with_reducible repeat first|apply zbN|apply zb1|apply zbA);exact BK139.out) hb);have n7_:=z_ (below_step (by repeat first|(with_reducible first|exact HB.out|apply zA|apply zN|apply z1|refine zS ?_ GE110.out|refine zS ?_ GE111.out|refine zS ?_ GE117.out|refine zS ?_ GE131.out|refine zS ?_ GE139.out)|exact HB.out) hb);clear HO_16;clear HO_17;clear BK110;clear BK111;clear BK117;clear BK131;clear BK139;clear HB;have HO_16:=n0_;have HO_17:=n1_;have BK110:=n2_;have BK111:=n3_;have BK117:=n4_;have BK131:=n5_;have BK139:=n6_;have HB:=n7_;clear n0_ n1_ n2_ n3_ n4_ n5_ n6_ n7_;(try clear hb);(try clear hb2);(try clear hk);(try clear hi)))
          go_roundg k2
          case measure=>have:=HK1.out;have:=HK2.out;omega
          case rel=>exact ⟨(wrap64 (x19_2 + 1)),(by first|rfl|(simp;done)|(simp [*];done)),H',⟨by have:=HK1.out;have:=HK2.out;omega⟩,⟨by (with_reducible repeat (first|apply Kd.R_alloc|apply Kd.R_drewN|apply Kd.R_drew));exact Kd.R_mono HO_16.out (fun _ hk=>⟨hk.1,⟨hk.2.1,hk.2.2.1⟩⟩)⟩,⟨by (with_reducible repeat (first|apply Kd.R_alloc|apply Kd.R_drewN|apply Kd.R_drew));exact HO_17.out⟩,⟨by (with_reducible repeat first|apply zbN|apply zb1|apply zbA);exact BK110.out⟩,⟨by (with_reducible repeat first|apply zbN|apply zb1|apply zbA);exact BK111.out⟩,⟨by (with_reducible repeat first|apply zbN|apply zb1|apply zbA);exact BK117.out⟩,⟨by repeat first|(with_reducible first|exact HB.out|apply zA|apply zN|apply z1|refine zS ?_ GE110.out|refine zS ?_ GE111.out|refine zS ?_ GE117.out|refine zS ?_ GE131.out|refine zS ?_ GE139.out)|exact HB.out⟩⟩
         ·have hfz73_3:=zfz BK139.out 3
          try go_wp2
          go_roundg k2
          case measure=>have:=HK1.out;have:=HK2.out;omega
          case rel=>exact ⟨(wrap64 (x19_2 + 1)),(by first|rfl|(simp;done)|(simp [*];done)),H',⟨by have:=HK1.out;have:=HK2.out;omega⟩,⟨by (with_reducible repeat (first|apply Kd.R_alloc|apply Kd.R_drewN|apply Kd.R_drew));exact Kd.R_mono (Kd.R_far (p:=⟨gb139,3,none⟩) (Kd.R_far (p:=⟨gb139,2,none⟩) (Kd.R_far (p:=⟨gb139,1,none⟩) (Kd.R_far (p:=⟨gb139,0,none⟩) (Kd.R_mono HO_16.out (fun k_ hk=>(⟨hk,hk.2.2.2.2⟩:_ ∧ k_ ≠ gb139))) (fun _ hk=>hk.2) (.int .i64 t134)) (fun _ hk=>hk.2) (.int .i64 t135)) (fun _ hk=>hk.2) (.int .i64 t136)) (fun _ hk=>hk.2) (.string t137)) (fun _ hk=>⟨hk.1.1,⟨hk.1.2.1,hk.1.2.2.1⟩⟩)⟩,⟨by (with_reducible repeat (first|apply Kd.R_alloc|apply Kd.R_drewN|apply Kd.R_drew));exact Kd.R_mono (Kd.R_far (p:=⟨gb139,3,none⟩) (Kd.R_far (p:=⟨gb139,2,none⟩) (Kd.R_far (p:=⟨gb139,1,none⟩) (Kd.R_far (p:=⟨gb139,0,none⟩) (Kd.R_types HO_17.out BK139.out (by decide)) (fun _ hk=>hk.2) (.int .i64 t134)) (fun _ hk=>hk.2) (.int .i64 t135)) (fun _ hk=>hk.2) (.int .i64 t136)) (fun _ hk=>hk.2) (.string t137)) (fun _ hk=>trivial)⟩,⟨by (with_reducible repeat first|apply zbN|apply zb1|apply zbA);refine zbf ?_ NB110_139.out _;(with_reducible repeat first|apply zbN|apply zb1|apply zbA);refine zbf ?_ NB110_139.out _;(with_reducible repeat first|apply zbN|apply zb1|apply zbA);refine zbf ?_ NB110_139.out _;(with_reducible repeat first|apply zbN|apply zb1|apply zbA);refine zbf ?_ NB110_139.out _;(with_reducible repeat first|apply zbN|apply zb1|apply zbA);exact BK110.out⟩,⟨by (with_reducible repeat first|apply zbN|apply zb1|apply zbA);refine zbf ?_ NB111_139.out _;(with_reducible repeat first|apply zbN|apply zb1|apply zbA);refine zbf ?_ NB111_139.out _;(with_reducible repeat first|apply zbN|apply zb1|apply zbA);refine zbf ?_ NB111_139.out _;(with_reducible repeat first|apply zbN|apply zb1|apply zbA);refine zbf ?_ NB111_139.out _;(with_reducible repeat first|apply zbN|apply zb1|apply zbA);exact BK111.out⟩,⟨by (with_reducible repeat first|apply zbN|apply zb1|apply zbA);refine zbf ?_ NB117_139.out _;(with_reducible repeat first|apply zbN|apply zb1|apply zbA);refine zbf ?_ NB117_139.out _;(with_reducible repeat first|apply zbN|apply zb1|apply zbA);refine zbf ?_ NB117_139.out _;(with_reducible repeat first|apply zbN|apply zb1|apply zbA);refine zbf ?_ NB117_139.out _;(with_reducible repeat first|apply zbN|apply zb1|apply zbA);exact BK117.out⟩,⟨by repeat first|(with_reducible first|exact HB.out|apply zA|apply zN|apply z1|refine zS ?_ GE110.out|refine zS ?_ GE111.out|refine zS ?_ GE117.out|refine zS ?_ GE131.out|refine zS ?_ GE139.out)|exact HB.out⟩⟩
        ·rw [if_neg c36] at H
         have c36b0:decide (x19_2 < (y118.length:Int)) = false:=decide_eq_false c36
         clear c36
         have H':=z_ H
         clear H
         obtain ⟨Ao102,co102,eo102⟩:=Kd.R_slice HO_16.out
         subst eo102
         go_wp2
         go_roundg k2
         case measure=>have:=HK1.out;have:=HK2.out;omega
         case rel=>exact ⟨(wrap64 (x18_1 + 1)),(by first|rfl|(simp;done)|(simp [*];done)),H',⟨by have:=HK1.out;have:=HK2.out;omega⟩,⟨by (with_reducible repeat (first|apply Kd.R_alloc|apply Kd.R_drewN|apply Kd.R_drew));exact HO_16.out⟩,⟨by (with_reducible repeat (first|apply Kd.R_alloc|apply Kd.R_drewN|apply Kd.R_drew));exact HO_17.out⟩,⟨by (with_reducible repeat first|apply zbN|apply zb1|apply zbA);exact BK110.out⟩,⟨by (with_reducible repeat first|apply zbN|apply zb1|apply zbA);exact BK111.out⟩,⟨by (with_reducible repeat first|apply zbN|apply zb1|apply zbA);exact BK117.out⟩,⟨by repeat first|(with_reducible first|exact HB.out|apply zA|apply zN|apply z1|refine zS ?_ GE110.out|refine zS ?_ GE111.out|refine zS ?_ GE117.out)|exact HB.out⟩⟩
     ·rw [if_neg c34] at H
      have c34b0:decide (x18_1 < (y121.length:Int)) = false:=decide_eq_false c34
      clear c34
      obtain rfl:=Option.some.inj H
      obtain ⟨Ao103,co103,eo103⟩:=Kd.R_slice HO_17.out
      subst eo103
      go_wp2
      go_ret
      exact ⟨by first|rfl|(simp [errW_none,errW_some] <;> rfl)|(simp [*,errW_none,errW_some] <;> rfl),by repeat first|(with_reducible first|exact HB.out|apply zA|apply zN|apply z1|refine zS ?_ GE110.out|refine zS ?_ GE111.out|refine zS ?_ GE117.out)|exact HB.out⟩
 ·replace c8:=Bool.eq_false_iff.mpr c8
  subst c8
  have H1:(none) = some r:=by rw [if_neg (show ¬ (false = true) by decide)] at H;exact H
  clear H
  have H:=H1
  clear H1
  exact absurd H (by simp)
def federationlaw1_ValReckons.Pure:Prop:=∀ (a0:Int) (a1:Int) (a2:Int) (a3:Int) (a4:Int) (a5:ByteArray),(Lit.int .i64 a0).wf = true → (Lit.int .i64 a1).wf = true → (Lit.int .i64 a2).wf = true → (Lit.int .i64 a3).wf = true → (Lit.int .i64 a4).wf = true → a5.size ≤ 140737488351232 → ∃ k,federationlaw1_ValReckons.f k a0 a1 a2 a3 a4 a5 = some true
theorem federationlaw1_ValReckons.walk (P:federationlaw1_ValReckons.Pure) (a0:Int) (a1:Int) (a2:Int) (a3:Int) (a4:Int) (a5:ByteArray) (w:World) (w0:(Lit.int .i64 a0).wf = true) (w1:(Lit.int .i64 a1).wf = true) (w2:(Lit.int .i64 a2).wf = true) (w3:(Lit.int .i64 a3).wf = true) (w4:(Lit.int .i64 a4).wf = true) (w5:a5.size ≤ 140737488351232) :
  Calls Try.prog 4 #[.int .i64 a0, .int .i64 a1, .int .i64 a2, .int .i64 a3, .int .i64 a4, .string a5] w fun e w'=>e = .returned (.bool true) ∧ Below w.heap.size w w':=by
 obtain ⟨k,h⟩:=P a0 a1 a2 a3 a4 a5 w0 w1 w2 w3 w4 w5
 refine (federationlaw1_ValReckons.calls k a0 a1 a2 a3 a4 a5 true w h).mono ?_
 rintro e w' ⟨rfl,hd⟩
 exact ⟨rfl,hd⟩
end Go.Proofs.Ytllkhdhanheieaa.R
