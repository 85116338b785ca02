-- Written by drive.py and pack.py (programs of this proof's own) through the kit's printer; not trusted: Lean checks it.
import Derived.Test.YtdlkibeljkapeaaGreatDoorCSqlBack6
namespace Go.Proofs.YtdlkibeljkapeaaGreatDoor.B
open Go.RowKit Go.Proofs.YtdlkibeljkapeaaGreatDoorW.PrintWords Go.Proofs.YtdlkibeljkapeaaGreatDoorW.PrintLast Go.Proofs.YtdlkibeljkapeaaGreatDoorW.PrintMore
attribute [local go_sem] max2_int min2_int max_two min_two max_three min_three max_four min_four
attribute [local go_sem high] own_gtr own_leq own_geq own_cell_set Option.map_some
set_option linter.unusedVariables false
set_option linter.unusedSimpArgs false
def federationlaw1_Make_p.f (k:Nat) (a0:Int) (a1:Int) (a2:ByteArray):Option (Int × Int × Int × ByteArray):=(federationlaw1_within.f a0 6).bind fun t102=>(if t102 = 1 then ((federationlaw1_within.f a1 2).bind fun t104=>(some (t102,t104,0,(⟨#[]⟩:ByteArray)))) else (if t102 = 2 then ((federationlaw1_within.f a1 100).bind fun t105=>((some (([a1,0,1,(-1),9223372036854775807,(-9223372036854775808),wrap64 (t105 - 50),7]:List Int):List Int)).bind fun y106=>((federationlaw1_within.f (wrap64 (Int.tdiv a0 6)) 8).bind fun t109=>(if 0 ≤ t109 then (if t109 < (y106.length:Int) then (some (t102,rd y106 t109,0,(⟨#[]⟩:ByteArray))) else (none)) else (none))))) else (if t102 = 3 then ((federationlaw1_within.f a1 2000).bind fun t111=>((federationlaw1_within.f a1 50).bind fun t112=>((some (([Int.tmod a1 1000000000000000,wrap64 (t111 - 1000),999999999999999,(-999999999999999),1,wrap64 ((wrap64 (t112 * 1000)) - 20000)]:List Int):List Int)).bind fun y113=>((federationlaw1_within.f (wrap64 (Int.tdiv a0 6)) 6).bind fun t116=>(if 0 ≤ t116 then (if t116 < (y113.length:Int) then ((federationlaw1_within.f (wrap64 (Int.tdiv a0 36)) 7).bind fun t118=>((federationref1_Norm.f k t102 (rd y113 t116) t118 (⟨#[]⟩:ByteArray)).bind fun bt119=>(some (bt119.1,bt119.2.1,bt119.2.2.1,bt119.2.2.2)))) else (none)) else (none)))))) else (if t102 = 4 then (none) else (if t102 = 5 then (if 0 ≤ (mn (a2.size:Int) 40) then (if (mn (a2.size:Int) 40) ≤ (a2.size:Int) then (some (t102,0,0,a2.extract 0 ((mn (a2.size:Int) 40):Int).toNat)) else (none)) else (none)) else (some (t102,0,0,(⟨#[]⟩:ByteArray))))))))
def federationlaw1_Make_p.T8:Bool × List (List Nat × List Nat):=(true,[([],[]),([0],[0]),([],[]),([2],[2]),([3],[3]),([],[]),([5,3],[5]),([6],[6]),([7],[7]),([1,4,8],[1,4,8]),([],[]),([10],[10]),([11,6],[11]),([9,12],[9,12]),([13],[13]),([],[]),([15],[15]),([16,12],[16]),([0,1,2,3,4,5,6,7,8,9,10,11,12,13,14],[]),([18,14,17,0,1,2,3,4,5,6,7,8,9,10,11,12,13,14],[14,18]),([0,1,2,3,4,5,6,7,8,9,10,11,12,13,14,15,16,17,18,19],[]),([20,17,19,0,1,2,3,4,5,6,7,8,9,10,11,12,13,14,15,16,17,18,19],[17,20])])
def federationlaw1_Make_p.B8:List Nat:=[0,1,0,4,12,0,44,108,236,511,0,1024,3180,8191,16383,0,32768,105580,32767,524287,1048575,2097151]
theorem federationlaw1_Make_p.tab8:rtab .any (opsOf Tryz.f22 8) = federationlaw1_Make_p.T8:=by kernel_rfl
theorem federationlaw1_Make_p.bits8:waitsOk federationlaw1_Make_p.T8.2 federationlaw1_Make_p.B8 = true:=by kernel_rfl
set_option maxHeartbeats 8000000 in
set_option maxRecDepth 100000 in
theorem federationlaw1_Make_p.calls (k:Nat) (a0:Int) (a1:Int) (a2:ByteArray) (r1:Int) (r2:Int) (r3:Int) (r4:ByteArray) (w:World) (h:federationlaw1_Make_p.f k a0 a1 a2 = some (r1,r2,r3,r4)) :
  Calls Tryz.prog 22 #[.int .i64 a0, .int .i64 a1, .string a2] w fun e w'=>e = .returned (.agg #[.int .i64 r1, .int .i64 r2, .int .i64 r3, .string r4]) ∧ Below w.heap.size w w':=by
 have hu28:=Tryz.underlying28
 have HB:=z_ (Below.refl w.heap.size w)
 have H:((federationlaw1_within.f a0 6).bind fun t102=>(if t102 = 1 then ((federationlaw1_within.f a1 2).bind fun t104=>(some (t102,t104,0,(⟨#[]⟩:ByteArray)))) else (if t102 = 2 then ((federationlaw1_within.f a1 100).bind fun t105=>((some (([a1,0,1,(-1),9223372036854775807,(-9223372036854775808),wrap64 (t105 - 50),7]:List Int):List Int)).bind fun y106=>((federationlaw1_within.f (wrap64 (Int.tdiv a0 6)) 8).bind fun t109=>(if 0 ≤ t109 then (if t109 < (y106.length:Int) then (some (t102,rd y106 t109,0,(⟨#[]⟩:ByteArray))) else (none)) else (none))))) else (if t102 = 3 then ((federationlaw1_within.f a1 2000).bind fun t111=>((federationlaw1_within.f a1 50).bind fun t112=>((some (([Int.tmod a1 1000000000000000,wrap64 (t111 - 1000),999999999999999,(-999999999999999),1,wrap64 ((wrap64 (t112 * 1000)) - 20000)]:List Int):List Int)).bind fun y113=>((federationlaw1_within.f (wrap64 (Int.tdiv a0 6)) 6).bind fun t116=>(if 0 ≤ t116 then (if t116 < (y113.length:Int) then ((federationlaw1_within.f (wrap64 (Int.tdiv a0 36)) 7).bind fun t118=>((federationref1_Norm.f k t102 (rd y113 t116) t118 (⟨#[]⟩:ByteArray)).bind fun bt119=>(some (bt119.1,bt119.2.1,bt119.2.2.1,bt119.2.2.2)))) else (none)) else (none)))))) else (if t102 = 4 then (none) else (if t102 = 5 then (if 0 ≤ (mn (a2.size:Int) 40) then (if (mn (a2.size:Int) 40) ≤ (a2.size:Int) then (some (t102,0,0,a2.extract 0 ((mn (a2.size:Int) 40):Int).toNat)) else (none)) else (none)) else (some (t102,0,0,(⟨#[]⟩:ByteArray))))))))) = some (r1,r2,r3,r4):=h
 clear h
 replace H:=Option.bind_eq_some_iff.mp H
 obtain ⟨t102,A40,H⟩:=H
 replace H:(if t102 = 1 then ((federationlaw1_within.f a1 2).bind fun t104=>(some (t102,t104,0,(⟨#[]⟩:ByteArray)))) else (if t102 = 2 then ((federationlaw1_within.f a1 100).bind fun t105=>((some (([a1,0,1,(-1),9223372036854775807,(-9223372036854775808),wrap64 (t105 - 50),7]:List Int):List Int)).bind fun y106=>((federationlaw1_within.f (wrap64 (Int.tdiv a0 6)) 8).bind fun t109=>(if 0 ≤ t109 then (if t109 < (y106.length:Int) then (some (t102,rd y106 t109,0,(⟨#[]⟩:ByteArray))) else (none)) else (none))))) else (if t102 = 3 then ((federationlaw1_within.f a1 2000).bind fun t111=>((federationlaw1_within.f a1 50).bind fun t112=>((some (([Int.tmod a1 1000000000000000,wrap64 (t111 - 1000),999999999999999,(-999999999999999),1,wrap64 ((wrap64 (t112 * 1000)) - 20000)]:List Int):List Int)).bind fun y113=>((federationlaw1_within.f (wrap64 (Int.tdiv a0 6)) 6).bind fun t116=>(if 0 ≤ t116 then (if t116 < (y113.length:Int) then ((federationlaw1_within.f (wrap64 (Int.tdiv a0 36)) 7).bind fun t118=>((federationref1_Norm.f k t102 (rd y113 t116) t118 (⟨#[]⟩:ByteArray)).bind fun bt119=>(some (bt119.1,bt119.2.1,bt119.2.2.1,bt119.2.2.2)))) else (none)) else (none)))))) else (if t102 = 4 then (none) else (if t102 = 5 then (if 0 ≤ (mn (a2.size:Int) 40) then (if (mn (a2.size:Int) 40) ≤ (a2.size:Int) then (some (t102,0,0,a2.extract 0 ((mn (a2.size:Int) 40):Int).toNat)) else (none)) else (none)) else (some (t102,0,0,(⟨#[]⟩:ByteArray)))))))) = some (r1,r2,r3,r4):=H
 have A4:=z_ A40
 clear A40
 by_cases c5:t102 = 1
 ·rw [if_pos c5] at H
  have c5b0:(t102 == 1) = true:=beq_iff_eq.mpr c5
  have c5b1:(t102 != 1) = false:=bne_eq_false_iff_eq.mpr c5
  clear c5
  replace H:=Option.bind_eq_some_iff.mp H
  obtain ⟨t104,A60,H⟩:=H
  replace H:(some (t102,t104,0,(⟨#[]⟩:ByteArray))) = some (r1,r2,r3,r4):=H
  have A6:=z_ A60
  clear A60
  simp only [Option.some.injEq,Prod.mk.injEq] at H
  obtain ⟨rfl,rfl,rfl,rfl⟩:=H
  go_enter Tryz.func22,Tryz.ntmps22
  go_wp2_with (first|((with_reducible refine gate_dst (N:=6) rfl ?_);refine box_event (by rfl) (N:=6) (by rfl) (cs:=#[.int .i64 0, .int .i64 0, .int .i64 0, .string (⟨#[]⟩:ByteArray)]) (t:=28) Da ?_;intro gb101 hg w7 hbox hb;have BK101:=z_ (hbox);have GW101:=z_ ((Dh:w.heap.size ≤ gb101));have GE101:=z_ ((Dh:w.heap.size ≤ gb101));replace HB:=z_ (below_step Fe hb);clear hb hbox hg)|((with_reducible refine gate_callee (f:=48) rfl ?_);refine goesL_ (some 11) rfl rfl Tryz.func48 (by kernel_rfl) rfl #[.int .i64 a0, .int .i64 6] rfl En ?_;(with_reducible refine (federationlaw1_within.calls a0 6 t102 _ A4.out).mono ?_);rintro e w' ⟨rfl,⟨nd,rfl⟩⟩;refine ⟨_,rfl,?_⟩;(try (rw [drewN_self w7];generalize hq_:World.drewN w7 _ = w7;have n0_:Aside0 (w7.heap[gb101]? = some (.cells #[.int .i64 0, .int .i64 0, .int .i64 0, .string (⟨#[]⟩:ByteArray)] 28 (0,0))):=⟨by rw [← hq_];exact Fv⟩;have n1_:Aside0 (Below w.heap.size w w7):=⟨by rw [← hq_];exact Fg⟩;clear BK101 HB hq_;have BK101:=n0_;have HB:=n1_;clear n0_ n1_));(try have hcu8_0:w7.cell? ⟨gb101,0,none⟩ = some (.int .i64 0):=(Ba BK101.out 0).trans rfl);(try have hcu8_1:w7.cell? ⟨gb101,1,none⟩ = some (.int .i64 0):=(Ba BK101.out 1).trans rfl);(try have hcu8_2:w7.cell? ⟨gb101,2,none⟩ = some (.int .i64 0):=(Ba BK101.out 2).trans rfl);(try have hcu8_3:w7.cell? ⟨gb101,3,none⟩ = some (.string (⟨#[]⟩:ByteArray)):=(Ba BK101.out 3).trans rfl);(try have hfu8_0:=B2 BK101.out 0);(try have hfu8_1:=B2 BK101.out 1);(try have hfu8_2:=B2 BK101.out 2);(try have hfu8_3:=B2 BK101.out 3))|((with_reducible refine gate_dst (N:=7) rfl ?_);refine box_event (by rfl) (N:=7) (by rfl) (cs:=#[.int .i64 0, .int .i64 0, .int .i64 0, .string (⟨#[]⟩:ByteArray)]) (t:=28) Da ?_;intro gb103 hg w9 hbox hb;have BK103:=z_ (hbox);have GW103:=z_ ((Do:w.heap.size ≤ gb103));have GE103:=z_ ((Do:w.heap.size ≤ gb103));replace HB:=z_ (below_step Fg hb);have NB101_103:=z_ ((Vd:gb101 ≠ gb103));have NB103_101:=z_ ((Vi:gb103 ≠ gb101));replace BK101:=z_ (zk BK101.out hb);clear hb hbox hg;have hnb10:=NB103_101.out;have hnc10:=NB101_103.out;obtain ⟨_,_,_,_,_,_,_,_⟩:=Bj BK103.out)|((with_reducible refine gate_callee (f:=48) rfl ?_);refine goesL_ (some 18) rfl rfl Tryz.func48 (by kernel_rfl) rfl #[.int .i64 a1, .int .i64 2] rfl En ?_;(with_reducible refine (federationlaw1_within.calls a1 2 t104 _ A6.out).mono ?_);rintro e w' ⟨rfl,⟨nd,rfl⟩⟩;refine ⟨_,rfl,?_⟩;obtain ⟨_,_,_,_,_,_,_,_⟩:=Bj BK101.out))
  refine bodyPost_ret (results_cell_row rfl _ _ gb101 28 #[.int .i64 t102, .int .i64 t104, .int .i64 0, .string (⟨#[]⟩:ByteArray)] (0,0) _ rfl (by (with_reducible repeat first|apply Ad|apply Ac|apply Ae);refine Az (cs:=#[.int .i64 t102, .int .i64 t104, .int .i64 0, .string (⟨#[]⟩:ByteArray)]) ?_ 3 _ rfl;(with_reducible repeat first|apply Ad|apply Ac|apply Ae);refine Az (cs:=#[.int .i64 t102, .int .i64 t104, .int .i64 0, .string (⟨#[]⟩:ByteArray)]) ?_ 2 _ rfl;(with_reducible repeat first|apply Ad|apply Ac|apply Ae);refine Az (cs:=#[.int .i64 t102, .int .i64 0, .int .i64 0, .string (⟨#[]⟩:ByteArray)]) ?_ 1 _ rfl;(with_reducible repeat first|apply Ad|apply Ac|apply Ae);refine Az (cs:=#[.int .i64 0, .int .i64 0, .int .i64 0, .string (⟨#[]⟩:ByteArray)]) ?_ 0 _ rfl;(with_reducible repeat first|apply Ad|apply Ac|apply Ae);refine Bd ?_ NB101_103.out _;(with_reducible repeat first|apply Ad|apply Ac|apply Ae);refine Bd ?_ NB101_103.out _;(with_reducible repeat first|apply Ad|apply Ac|apply Ae);refine Bd ?_ NB101_103.out _;(with_reducible repeat first|apply Ad|apply Ac|apply Ae);refine Bd ?_ NB101_103.out _;(with_reducible repeat first|apply Ad|apply Ac|apply Ae);refine Bd ?_ NB101_103.out _;(with_reducible repeat first|apply Ad|apply Ac|apply Ae);exact BK101.out) Tryz.underlying28 rfl (by kernel_rfl)) rfl ?_
  exact ⟨by first|rfl|(simp [errW_none,errW_some] <;> rfl)|(simp [*,errW_none,errW_some] <;> rfl),by repeat first|(with_reducible first|exact HB.out|apply zA|apply zN|apply z1|refine zS ?_ GE101.out|refine zS ?_ GE103.out)|exact HB.out⟩
 ·rw [if_neg c5] at H
  have c5b0:(t102 == 1) = false:=beq_eq_false_iff_ne.mpr c5
  have c5b1:(t102 != 1) = true:=bne_iff_ne.mpr c5
  by_cases c13:t102 = 2
  ·rw [if_pos c13] at H
   have c13b0:(t102 == 2) = true:=beq_iff_eq.mpr c13
   have c13b1:(t102 != 2) = false:=bne_eq_false_iff_eq.mpr c13
   clear c13
   replace H:=Option.bind_eq_some_iff.mp H
   obtain ⟨t105,A140,H⟩:=H
   replace H:((some (([a1,0,1,(-1),9223372036854775807,(-9223372036854775808),wrap64 (t105 - 50),7]:List Int):List Int)).bind fun y106=>((federationlaw1_within.f (wrap64 (Int.tdiv a0 6)) 8).bind fun t109=>(if 0 ≤ t109 then (if t109 < (y106.length:Int) then (some (t102,rd y106 t109,0,(⟨#[]⟩:ByteArray))) else (none)) else (none)))) = some (r1,r2,r3,r4):=H
   have A14:=z_ A140
   clear A140
   obtain ⟨y106,hy106⟩:∃ y_:List Int,y_ = (([a1,0,1,(-1),9223372036854775807,(-9223372036854775808),wrap64 (t105 - 50),7]:List Int)):=⟨_,rfl⟩
   replace H:((federationlaw1_within.f (wrap64 (Int.tdiv a0 6)) 8).bind fun t109=>(if 0 ≤ t109 then (if t109 < (y106.length:Int) then (some (t102,rd y106 t109,0,(⟨#[]⟩:ByteArray))) else (none)) else (none))) = some (r1,r2,r3,r4):=by first|(rw [hy106];with_reducible exact H)|(have H2_:=(Option.bind_some _ _).symm.trans H;rw [hy106];with_reducible exact H2_)|(have H2_:=(Option.bind_some _ _).symm.trans H;with_reducible exact H2_)|with_reducible exact H|(rw [hy106];exact H)|exact H
   have Ny106:=z_ hy106
   clear hy106
   replace H:=Option.bind_eq_some_iff.mp H
   obtain ⟨t109,A150,H⟩:=H
   replace H:(if 0 ≤ t109 then (if t109 < (y106.length:Int) then (some (t102,rd y106 t109,0,(⟨#[]⟩:ByteArray))) else (none)) else (none)) = some (r1,r2,r3,r4):=H
   have A15:=z_ A150
   clear A150
   by_cases c16:0 ≤ t109
   ·rw [if_pos c16] at H
    have c16b0:decide (0 ≤ t109) = true:=decide_eq_true c16
    clear c16
    by_cases c17:t109 < (y106.length:Int)
    ·rw [if_pos c17] at H
     have c17b0:decide (t109 < (y106.length:Int)) = true:=decide_eq_true c17
     clear c17
     simp only [Option.some.injEq,Prod.mk.injEq] at H
     obtain ⟨rfl,rfl,rfl,rfl⟩:=H
     go_enter Tryz.func22,Tryz.ntmps22
     go_wp2_with (first|((with_reducible refine gate_dst (N:=6) rfl ?_);refine box_event (by rfl) (N:=6) (by rfl) (cs:=#[.int .i64 0, .int .i64 0, .int .i64 0, .string (⟨#[]⟩:ByteArray)]) (t:=28) Da ?_;intro gb101 hg w18 hbox hb;have BK101:=z_ (hbox);have GW101:=z_ ((Dh:w.heap.size ≤ gb101));have GE101:=z_ ((Dh:w.heap.size ≤ gb101));replace HB:=z_ (below_step Fe hb);clear hb hbox hg)|((with_reducible refine gate_callee (f:=48) rfl ?_);refine goesL_ (some 11) rfl rfl Tryz.func48 (by kernel_rfl) rfl #[.int .i64 a0, .int .i64 6] rfl En ?_;(with_reducible refine (federationlaw1_within.calls a0 6 t102 _ A4.out).mono ?_);rintro e w' ⟨rfl,⟨nd,rfl⟩⟩;refine ⟨_,rfl,?_⟩;(try (rw [drewN_self w18];generalize hq_:World.drewN w18 _ = w18;have n0_:Aside0 (w18.heap[gb101]? = some (.cells #[.int .i64 0, .int .i64 0, .int .i64 0, .string (⟨#[]⟩:ByteArray)] 28 (0,0))):=⟨by rw [← hq_];exact Fv⟩;have n1_:Aside0 (Below w.heap.size w w18):=⟨by rw [← hq_];exact Fg⟩;clear BK101 HB hq_;have BK101:=n0_;have HB:=n1_;clear n0_ n1_));(try have hcu19_0:w18.cell? ⟨gb101,0,none⟩ = some (.int .i64 0):=(Ba BK101.out 0).trans rfl);(try have hcu19_1:w18.cell? ⟨gb101,1,none⟩ = some (.int .i64 0):=(Ba BK101.out 1).trans rfl);(try have hcu19_2:w18.cell? ⟨gb101,2,none⟩ = some (.int .i64 0):=(Ba BK101.out 2).trans rfl);(try have hcu19_3:w18.cell? ⟨gb101,3,none⟩ = some (.string (⟨#[]⟩:ByteArray)):=(Ba BK101.out 3).trans rfl);(try have hfu19_0:=B2 BK101.out 0);(try have hfu19_1:=B2 BK101.out 1);(try have hfu19_2:=B2 BK101.out 2);(try have hfu19_3:=B2 BK101.out 3))|((with_reducible refine gate_dst (N:=7) rfl ?_);refine box_event (by rfl) (N:=7) (by rfl) (cs:=#[.int .i64 0, .int .i64 0, .int .i64 0, .string (⟨#[]⟩:ByteArray)]) (t:=28) Da ?_;intro gb103 hg w20 hbox hb;have BK103:=z_ (hbox);have GW103:=z_ ((Do:w.heap.size ≤ gb103));have GE103:=z_ ((Do:w.heap.size ≤ gb103));replace HB:=z_ (below_step Fg hb);have NB101_103:=z_ ((Vd:gb101 ≠ gb103));have NB103_101:=z_ ((Vi:gb103 ≠ gb101));replace BK101:=z_ (zk BK101.out hb);clear hb hbox hg;have hnb21:=NB103_101.out;have hnc21:=NB101_103.out;obtain ⟨_,_,_,_,_,_,_,_⟩:=Bj BK103.out)|((with_reducible refine gate_callee (f:=48) rfl ?_);refine goesL_ (some 24) rfl rfl Tryz.func48 (by kernel_rfl) rfl #[.int .i64 a1, .int .i64 100] rfl En ?_;(with_reducible refine (federationlaw1_within.calls a1 100 t105 _ A14.out).mono ?_);rintro e w' ⟨rfl,⟨nd,rfl⟩⟩;refine ⟨_,rfl,?_⟩)|((with_reducible refine gate_dst (N:=26) rfl ?_);refine Kd.R_lit (Kd.int .i64) _ 3 ?hg (N:=26) ?hd (xs:=([a1,0,1,(-1),9223372036854775807,(-9223372036854775808),wrap64 (t105 - 50),7]:List Int)) (inner:=[.int .i64 a1, .int .i64 0, .int .i64 1, .int .i64 (-1), .int .i64 9223372036854775807, .int .i64 (-9223372036854775808), .int .i64 (wrap64 (t105 - 50)), .int .i64 7]) (ok:=fun _=>True) (okp:=fun _=>True) ?hr ?hp (fun _ hk=>hk) trivial (Below.refl _ _) (Nat.le_refl _) (by simp) ?_;(case hd=>rfl);(case hg=>rfl);(case hr=>first|(go_simp;done)|(go_simp;rfl));(case hp=>exact (Reps.one (show Kd.M (Kd.int .i64) _ _ _ a1 [.int .i64 a1] from rfl) (Reps.one (show Kd.M (Kd.int .i64) _ _ _ 0 [.int .i64 0] from rfl) (Reps.one (show Kd.M (Kd.int .i64) _ _ _ 1 [.int .i64 1] from rfl) (Reps.one (show Kd.M (Kd.int .i64) _ _ _ (-1) [.int .i64 (-1)] from rfl) (Reps.one (show Kd.M (Kd.int .i64) _ _ _ 9223372036854775807 [.int .i64 9223372036854775807] from rfl) (Reps.one (show Kd.M (Kd.int .i64) _ _ _ (-9223372036854775808) [.int .i64 (-9223372036854775808)] from rfl) (Reps.one (show Kd.M (Kd.int .i64) _ _ _ (wrap64 (t105 - 50)) [.int .i64 (wrap64 (t105 - 50))] from rfl) (Reps.one (show Kd.M (Kd.int .i64) _ _ _ 7 [.int .i64 7] from rfl) (Reps.none _ _))))))))));intro v107 w23 ho24 hb hg_ hnew_;clear hg_ hnew_;(first|rw [← Ny106.out] at ho24|(simp only [Int.reduceToNat] at ho24;rw [← Ny106.out] at ho24));have HO108:=z_ (Kd.R_lower ho24 (H4 Gk));replace BK101:=z_ (La (g:=gb101) (o:=.cells #[.int .i64 0, .int .i64 0, .int .i64 0, .string (⟨#[]⟩:ByteArray)] 28 (0,0)) (by (with_reducible repeat first|apply Ad|apply Ac|apply Ae);refine Bd ?_ NB101_103.out _;(with_reducible repeat first|apply Ad|apply Ac|apply Ae);refine Bd ?_ NB101_103.out _;(with_reducible repeat first|apply Ad|apply Ac|apply Ae);refine Bd ?_ NB101_103.out _;(with_reducible repeat first|apply Ad|apply Ac|apply Ae);refine Bd ?_ NB101_103.out _;(with_reducible repeat first|apply Ad|apply Ac|apply Ae);exact BK101.out) hb);replace BK103:=z_ (La (g:=gb103) (o:=.cells #[.int .i64 t102, .int .i64 0, .int .i64 0, .string (⟨#[]⟩:ByteArray)] 28 (0,0)) (by (with_reducible repeat first|apply Ad|apply Ac|apply Ae);refine Az (cs:=#[.int .i64 t102, .int .i64 0, .int .i64 0, .string (⟨#[]⟩:ByteArray)]) ?_ 3 _ rfl;(with_reducible repeat first|apply Ad|apply Ac|apply Ae);refine Az (cs:=#[.int .i64 t102, .int .i64 0, .int .i64 0, .string (⟨#[]⟩:ByteArray)]) ?_ 2 _ rfl;(with_reducible repeat first|apply Ad|apply Ac|apply Ae);refine Az (cs:=#[.int .i64 t102, .int .i64 0, .int .i64 0, .string (⟨#[]⟩:ByteArray)]) ?_ 1 _ rfl;(with_reducible repeat first|apply Ad|apply Ac|apply Ae);refine Az (cs:=#[.int .i64 0, .int .i64 0, .int .i64 0, .string (⟨#[]⟩:ByteArray)]) ?_ 0 _ rfl;(with_reducible repeat first|apply Ad|apply Ac|apply Ae);exact BK103.out) hb);replace HB:=z_ (below_step Gk hb);clear hb ho24)|((with_reducible refine gate_callee (f:=48) rfl ?_);refine goesL_ (some 29) rfl rfl Tryz.func48 (by kernel_rfl) rfl #[.int .i64 (wrap64 (Int.tdiv a0 6)), .int .i64 8] rfl En ?_;(with_reducible refine (federationlaw1_within.calls (wrap64 (Int.tdiv a0 6)) 8 t109 _ A15.out).mono ?_);rintro e w' ⟨rfl,⟨nd,rfl⟩⟩;refine ⟨_,rfl,?_⟩;(try (rw [drewN_self w23];generalize hq_:World.drewN w23 _ = w23;have n0_:Aside0 (Kd.R (Kd.int .i64) 3 w23 w.heap.size (fun _=>True) v107 y106):=⟨by rw [← hq_];exact (by (with_reducible repeat (first|apply Kd.R_alloc|apply Kd.R_drewN|apply Kd.R_drew));exact HO108.out)⟩;have n1_:Aside0 (w23.heap[gb101]? = some (.cells #[.int .i64 0, .int .i64 0, .int .i64 0, .string (⟨#[]⟩:ByteArray)] 28 (0,0))):=⟨by rw [← hq_];exact Fv⟩;have n2_:Aside0 (w23.heap[gb103]? = some (.cells #[.int .i64 t102, .int .i64 0, .int .i64 0, .string (⟨#[]⟩:ByteArray)] 28 (0,0))):=⟨by rw [← hq_];exact Jm⟩;have n3_:Aside0 (Below w.heap.size w w23):=⟨by rw [← hq_];exact Gk⟩;clear HO108 BK101 BK103 HB hq_;have HO108:=n0_;have BK101:=n1_;have BK103:=n2_;have HB:=n3_;clear n0_ n1_ n2_ n3_));(try have hcu25_0:w23.cell? ⟨gb101,0,none⟩ = some (.int .i64 0):=(Ba BK101.out 0).trans rfl);(try have hcu25_1:w23.cell? ⟨gb101,1,none⟩ = some (.int .i64 0):=(Ba BK101.out 1).trans rfl);(try have hcu25_2:w23.cell? ⟨gb101,2,none⟩ = some (.int .i64 0):=(Ba BK101.out 2).trans rfl);(try have hcu25_3:w23.cell? ⟨gb101,3,none⟩ = some (.string (⟨#[]⟩:ByteArray)):=(Ba BK101.out 3).trans rfl);(try have hfu25_0:=B2 BK101.out 0);(try have hfu25_1:=B2 BK101.out 1);(try have hfu25_2:=B2 BK101.out 2);(try have hfu25_3:=B2 BK101.out 3);(try have hcu26_0:w23.cell? ⟨gb103,0,none⟩ = some (.int .i64 t102):=(Ba BK103.out 0).trans rfl);(try have hcu26_1:w23.cell? ⟨gb103,1,none⟩ = some (.int .i64 0):=(Ba BK103.out 1).trans rfl);(try have hcu26_2:w23.cell? ⟨gb103,2,none⟩ = some (.int .i64 0):=(Ba BK103.out 2).trans rfl);(try have hcu26_3:w23.cell? ⟨gb103,3,none⟩ = some (.string (⟨#[]⟩:ByteArray)):=(Ba BK103.out 3).trans rfl);(try have hfu26_0:=B2 BK103.out 0);(try have hfu26_1:=B2 BK103.out 1);(try have hfu26_2:=B2 BK103.out 2);(try have hfu26_3:=B2 BK103.out 3);obtain ⟨Ao27,co27,eo27⟩:=Kd.R_slice HO108.out;subst eo27;have p110:0 ≤ (t109:Int):=of_decide_eq_true Di;have q110:t109 < (y106.length:Int):=of_decide_eq_true Di;obtain ⟨ad110,e110,hx110_0⟩:=Kd.at_int (Kd.R_reads' HO108.out).2.2 t109 p110 q110;cases e110;replace p110:=eq_true p110;replace q110:=eq_true q110;obtain ⟨_,_,_,_,_,_,_,_⟩:=Bj BK103.out;obtain ⟨_,_,_,_,_,_,_,_⟩:=Bj BK101.out))
     refine bodyPost_ret (results_cell_row rfl _ _ gb101 28 #[.int .i64 t102, .int .i64 (rd y106 t109), .int .i64 0, .string (⟨#[]⟩:ByteArray)] (0,0) _ rfl (by (with_reducible repeat first|apply Ad|apply Ac|apply Ae);refine Az (cs:=#[.int .i64 t102, .int .i64 (rd y106 t109), .int .i64 0, .string (⟨#[]⟩:ByteArray)]) ?_ 3 _ rfl;(with_reducible repeat first|apply Ad|apply Ac|apply Ae);refine Az (cs:=#[.int .i64 t102, .int .i64 (rd y106 t109), .int .i64 0, .string (⟨#[]⟩:ByteArray)]) ?_ 2 _ rfl;(with_reducible repeat first|apply Ad|apply Ac|apply Ae);refine Az (cs:=#[.int .i64 t102, .int .i64 0, .int .i64 0, .string (⟨#[]⟩:ByteArray)]) ?_ 1 _ rfl;(with_reducible repeat first|apply Ad|apply Ac|apply Ae);refine Az (cs:=#[.int .i64 0, .int .i64 0, .int .i64 0, .string (⟨#[]⟩:ByteArray)]) ?_ 0 _ rfl;(with_reducible repeat first|apply Ad|apply Ac|apply Ae);refine Bd ?_ NB101_103.out _;(with_reducible repeat first|apply Ad|apply Ac|apply Ae);exact BK101.out) Tryz.underlying28 rfl (by kernel_rfl)) rfl ?_
     exact ⟨by first|rfl|(simp [errW_none,errW_some] <;> rfl)|(simp [*,errW_none,errW_some] <;> rfl),by repeat first|(with_reducible first|exact HB.out|apply zA|apply zN|apply z1|refine zS ?_ GE101.out|refine zS ?_ GE103.out)|exact HB.out⟩
    ·rw [if_neg c17] at H
     exact absurd H (by simp)
   ·rw [if_neg c16] at H
    exact absurd H (by simp)
  ·rw [if_neg c13] at H
   have c13b0:(t102 == 2) = false:=beq_eq_false_iff_ne.mpr c13
   have c13b1:(t102 != 2) = true:=bne_iff_ne.mpr c13
   by_cases c30:t102 = 3
   ·rw [if_pos c30] at H
    have c30b0:(t102 == 3) = true:=beq_iff_eq.mpr c30
    have c30b1:(t102 != 3) = false:=bne_eq_false_iff_eq.mpr c30
    clear c30
    replace H:=Option.bind_eq_some_iff.mp H
    obtain ⟨t111,A310,H⟩:=H
    replace H:((federationlaw1_within.f a1 50).bind fun t112=>((some (([Int.tmod a1 1000000000000000,wrap64 (t111 - 1000),999999999999999,(-999999999999999),1,wrap64 ((wrap64 (t112 * 1000)) - 20000)]:List Int):List Int)).bind fun y113=>((federationlaw1_within.f (wrap64 (Int.tdiv a0 6)) 6).bind fun t116=>(if 0 ≤ t116 then (if t116 < (y113.length:Int) then ((federationlaw1_within.f (wrap64 (Int.tdiv a0 36)) 7).bind fun t118=>((federationref1_Norm.f k t102 (rd y113 t116) t118 (⟨#[]⟩:ByteArray)).bind fun bt119=>(some (bt119.1,bt119.2.1,bt119.2.2.1,bt119.2.2.2)))) else (none)) else (none))))) = some (r1,r2,r3,r4):=H
    have A31:=z_ A310
    clear A310
    replace H:=Option.bind_eq_some_iff.mp H
    obtain ⟨t112,A320,H⟩:=H
    replace H:((some (([Int.tmod a1 1000000000000000,wrap64 (t111 - 1000),999999999999999,(-999999999999999),1,wrap64 ((wrap64 (t112 * 1000)) - 20000)]:List Int):List Int)).bind fun y113=>((federationlaw1_within.f (wrap64 (Int.tdiv a0 6)) 6).bind fun t116=>(if 0 ≤ t116 then (if t116 < (y113.length:Int) then ((federationlaw1_within.f (wrap64 (Int.tdiv a0 36)) 7).bind fun t118=>((federationref1_Norm.f k t102 (rd y113 t116) t118 (⟨#[]⟩:ByteArray)).bind fun bt119=>(some (bt119.1,bt119.2.1,bt119.2.2.1,bt119.2.2.2)))) else (none)) else (none)))) = some (r1,r2,r3,r4):=H
    have A32:=z_ A320
    clear A320
    obtain ⟨y113,hy113⟩:∃ y_:List Int,y_ = (([Int.tmod a1 1000000000000000,wrap64 (t111 - 1000),999999999999999,(-999999999999999),1,wrap64 ((wrap64 (t112 * 1000)) - 20000)]:List Int)):=⟨_,rfl⟩
    replace H:((federationlaw1_within.f (wrap64 (Int.tdiv a0 6)) 6).bind fun t116=>(if 0 ≤ t116 then (if t116 < (y113.length:Int) then ((federationlaw1_within.f (wrap64 (Int.tdiv a0 36)) 7).bind fun t118=>((federationref1_Norm.f k t102 (rd y113 t116) t118 (⟨#[]⟩:ByteArray)).bind fun bt119=>(some (bt119.1,bt119.2.1,bt119.2.2.1,bt119.2.2.2)))) else (none)) else (none))) = some (r1,r2,r3,r4):=by first|(rw [hy113];with_reducible exact H)|(have H2_:=(Option.bind_some _ _).symm.trans H;rw [hy113];with_reducible exact H2_)|(have H2_:=(Option.bind_some _ _).symm.trans H;with_reducible exact H2_)|with_reducible exact H|(rw [hy113];exact H)|exact H
    have Ny113:=z_ hy113
    clear hy113
    replace H:=Option.bind_eq_some_iff.mp H
    obtain ⟨t116,A330,H⟩:=H
    replace H:(if 0 ≤ t116 then (if t116 < (y113.length:Int) then ((federationlaw1_within.f (wrap64 (Int.tdiv a0 36)) 7).bind fun t118=>((federationref1_Norm.f k t102 (rd y113 t116) t118 (⟨#[]⟩:ByteArray)).bind fun bt119=>(some (bt119.1,bt119.2.1,bt119.2.2.1,bt119.2.2.2)))) else (none)) else (none)) = some (r1,r2,r3,r4):=H
    have A33:=z_ A330
    clear A330
    by_cases c34:0 ≤ t116
    ·rw [if_pos c34] at H
     have c34b0:decide (0 ≤ t116) = true:=decide_eq_true c34
     clear c34
     by_cases c35:t116 < (y113.length:Int)
     ·rw [if_pos c35] at H
      have c35b0:decide (t116 < (y113.length:Int)) = true:=decide_eq_true c35
      clear c35
      replace H:=Option.bind_eq_some_iff.mp H
      obtain ⟨t118,A360,H⟩:=H
      replace H:((federationref1_Norm.f k t102 (rd y113 t116) t118 (⟨#[]⟩:ByteArray)).bind fun bt119=>(some (bt119.1,bt119.2.1,bt119.2.2.1,bt119.2.2.2))) = some (r1,r2,r3,r4):=H
      have A36:=z_ A360
      clear A360
      replace H:=Option.bind_eq_some_iff.mp H
      obtain ⟨⟨t119,t120,t121,t122⟩,A370,H⟩:=H
      replace H:(some (t119,t120,t121,t122)) = some (r1,r2,r3,r4):=H
      have A37:=z_ A370
      clear A370
      simp only [Option.some.injEq,Prod.mk.injEq] at H
      obtain ⟨rfl,rfl,rfl,rfl⟩:=H
      go_enter Tryz.func22,Tryz.ntmps22
      try go_wp2_with (first|((with_reducible refine gate_dst (N:=6) rfl ?_);refine box_event (by rfl) (N:=6) (by rfl) (cs:=#[.int .i64 0, .int .i64 0, .int .i64 0, .string (⟨#[]⟩:ByteArray)]) (t:=28) Da ?_;intro gb101 hg w38 hbox hb;have BK101:=z_ (hbox);have GW101:=z_ ((Dh:w.heap.size ≤ gb101));have GE101:=z_ ((Dh:w.heap.size ≤ gb101));replace HB:=z_ (below_step Fe hb);clear hb hbox hg)|((with_reducible refine gate_callee (f:=48) rfl ?_);refine goesL_ (some 11) rfl rfl Tryz.func48 (by kernel_rfl) rfl #[.int .i64 a0, .int .i64 6] rfl En ?_;(with_reducible refine (federationlaw1_within.calls a0 6 t102 _ A4.out).mono ?_);rintro e w' ⟨rfl,⟨nd,rfl⟩⟩;refine ⟨_,rfl,?_⟩;(try (rw [drewN_self w38];generalize hq_:World.drewN w38 _ = w38;have n0_:Aside0 (w38.heap[gb101]? = some (.cells #[.int .i64 0, .int .i64 0, .int .i64 0, .string (⟨#[]⟩:ByteArray)] 28 (0,0))):=⟨by rw [← hq_];exact Fv⟩;have n1_:Aside0 (Below w.heap.size w w38):=⟨by rw [← hq_];exact Fg⟩;clear BK101 HB hq_;have BK101:=n0_;have HB:=n1_;clear n0_ n1_));(try have hcu39_0:w38.cell? ⟨gb101,0,none⟩ = some (.int .i64 0):=(Ba BK101.out 0).trans rfl);(try have hcu39_1:w38.cell? ⟨gb101,1,none⟩ = some (.int .i64 0):=(Ba BK101.out 1).trans rfl);(try have hcu39_2:w38.cell? ⟨gb101,2,none⟩ = some (.int .i64 0):=(Ba BK101.out 2).trans rfl);(try have hcu39_3:w38.cell? ⟨gb101,3,none⟩ = some (.string (⟨#[]⟩:ByteArray)):=(Ba BK101.out 3).trans rfl);(try have hfu39_0:=B2 BK101.out 0);(try have hfu39_1:=B2 BK101.out 1);(try have hfu39_2:=B2 BK101.out 2);(try have hfu39_3:=B2 BK101.out 3))|((with_reducible refine gate_dst (N:=7) rfl ?_);refine box_event (by rfl) (N:=7) (by rfl) (cs:=#[.int .i64 0, .int .i64 0, .int .i64 0, .string (⟨#[]⟩:ByteArray)]) (t:=28) Da ?_;intro gb103 hg w40 hbox hb;have BK103:=z_ (hbox);have GW103:=z_ ((Do:w.heap.size ≤ gb103));have GE103:=z_ ((Do:w.heap.size ≤ gb103));replace HB:=z_ (below_step Fg hb);have NB101_103:=z_ ((Vd:gb101 ≠ gb103));have NB103_101:=z_ ((Vi:gb103 ≠ gb101));replace BK101:=z_ (zk BK101.out hb);clear hb hbox hg;have hnb41:=NB103_101.out;have hnc41:=NB101_103.out;obtain ⟨_,_,_,_,_,_,_,_⟩:=Bj BK103.out))
      have pi117:(0 ≤ (t116:Int)) = True:=eq_true (of_decide_eq_true Di)
      have qi117:(t116 < (y113.length:Int)) = True:=eq_true (of_decide_eq_true Di)
      have n0_:Aside0 (((((w40.setCell ⟨gb103,0,none⟩ (.int .i64 t102)).setCell ⟨gb103,1,none⟩ (.int .i64 0)).setCell ⟨gb103,2,none⟩ (.int .i64 0)).setCell ⟨gb103,3,none⟩ (.string (⟨#[]⟩:ByteArray))).heap[gb101]? = some (.cells #[.int .i64 0, .int .i64 0, .int .i64 0, .string (⟨#[]⟩:ByteArray)] 28 (0,0))):=⟨by (with_reducible repeat first|apply Ad|apply Ac|apply Ae);refine Bd ?_ NB101_103.out _;(with_reducible repeat first|apply Ad|apply Ac|apply Ae);refine Bd ?_ NB101_103.out _;(with_reducible repeat first|apply Ad|apply Ac|apply Ae);refine Bd ?_ NB101_103.out _;(with_reducible repeat first|apply Ad|apply Ac|apply Ae);refine Bd ?_ NB101_103.out _;(with_reducible repeat first|apply Ad|apply Ac|apply Ae);exact BK101.out⟩
      have n1_:Aside0 (((((w40.setCell ⟨gb103,0,none⟩ (.int .i64 t102)).setCell ⟨gb103,1,none⟩ (.int .i64 0)).setCell ⟨gb103,2,none⟩ (.int .i64 0)).setCell ⟨gb103,3,none⟩ (.string (⟨#[]⟩:ByteArray))).heap[gb103]? = some (.cells #[.int .i64 t102, .int .i64 0, .int .i64 0, .string (⟨#[]⟩:ByteArray)] 28 (0,0))):=⟨by (with_reducible repeat first|apply Ad|apply Ac|apply Ae);refine Az (cs:=#[.int .i64 t102, .int .i64 0, .int .i64 0, .string (⟨#[]⟩:ByteArray)]) ?_ 3 _ rfl;(with_reducible repeat first|apply Ad|apply Ac|apply Ae);refine Az (cs:=#[.int .i64 t102, .int .i64 0, .int .i64 0, .string (⟨#[]⟩:ByteArray)]) ?_ 2 _ rfl;(with_reducible repeat first|apply Ad|apply Ac|apply Ae);refine Az (cs:=#[.int .i64 t102, .int .i64 0, .int .i64 0, .string (⟨#[]⟩:ByteArray)]) ?_ 1 _ rfl;(with_reducible repeat first|apply Ad|apply Ac|apply Ae);refine Az (cs:=#[.int .i64 0, .int .i64 0, .int .i64 0, .string (⟨#[]⟩:ByteArray)]) ?_ 0 _ rfl;(with_reducible repeat first|apply Ad|apply Ac|apply Ae);exact BK103.out⟩
      have n2_:Aside0 (Below w.heap.size w ((((w40.setCell ⟨gb103,0,none⟩ (.int .i64 t102)).setCell ⟨gb103,1,none⟩ (.int .i64 0)).setCell ⟨gb103,2,none⟩ (.int .i64 0)).setCell ⟨gb103,3,none⟩ (.string (⟨#[]⟩:ByteArray)))):=⟨by repeat first|(with_reducible first|exact HB.out|apply zA|apply zN|apply z1|refine zS ?_ GE101.out|refine zS ?_ GE103.out)|exact HB.out⟩
      (try clear BK101)
      (try clear BK103)
      (try clear HB)
      generalize ((((w40.setCell ⟨gb103,0,none⟩ (.int .i64 t102)).setCell ⟨gb103,1,none⟩ (.int .i64 0)).setCell ⟨gb103,2,none⟩ (.int .i64 0)).setCell ⟨gb103,3,none⟩ (.string (⟨#[]⟩:ByteArray))) = w43 at n0_ n1_ n2_ ⊢
      have BK101:=n0_
      have BK103:=n1_
      have HB:=n2_
      clear n0_ n1_ n2_
      have n0_:=z_ (Ac BK101.out)
      have n1_:=z_ (Ac BK103.out)
      have n2_:=z_ (z1 HB.out)
      clear BK101
      clear BK103
      clear HB
      have BK101:=n0_
      have BK103:=n1_
      have HB:=n2_
      clear n0_ n1_ n2_
      refine start_ (n:=22) (S:=fun w'=>True) (ds:=[]) #[false,false,false,false,false,false,false,false,false,false,false,false,false,false,false,false,false,false,false,false,false,false] (by kernel_rfl) rfl rfl trivial (fun hHeld=>?_);refine with_tabW federationlaw1_Make_p.tab8 federationlaw1_Make_p.bits8 (fun HT_ HW_=>?_)
      generalize w43.drew = w44 at BK101 BK103 HB hHeld ⊢
      refine pure_ (i:=0) (N:=some 35) (v:=?_) (a':=?_) #[true,false,false,false,false,false,false,false,false,false,false,false,false,false,false,false,false,false,false,false,false,false] rfl rfl (any_of HT_.out (by kernel_rfl)) (fun _ _ _ h=>h) (Or.inl ⟨by rfl,?_⟩) ?_ ?_
      rotate_left
      ·intro w'
       go_simp
       with_reducible rfl
      rotate_left
      ·simp only [Act.put,List.setIfInBounds_toArray,List.set_cons_zero,List.set_cons_succ,i64_w,i32_w]
       rfl
      refine pure_ (i:=1) (N:=some 36) (v:=?_) (a':=?_) #[true,true,false,false,false,false,false,false,false,false,false,false,false,false,false,false,false,false,false,false,false,false] rfl rfl (any_of HT_.out (by kernel_rfl)) (fun _ _ _ h=>h) (Or.inl ⟨by rfl,?_⟩) ?_ ?_
      rotate_left
      ·intro w'
       go_simp
       with_reducible rfl
      rotate_left
      ·simp only [Act.put,List.setIfInBounds_toArray,List.set_cons_zero,List.set_cons_succ,i64_w,i32_w]
       rfl
      refine pure_ (i:=2) (N:=some 37) (v:=?_) (a':=?_) #[true,true,true,false,false,false,false,false,false,false,false,false,false,false,false,false,false,false,false,false,false,false] rfl rfl (any_of HT_.out (by kernel_rfl)) (fun _ _ _ h=>h) (Or.inl ⟨by rfl,?_⟩) ?_ ?_
      rotate_left
      ·intro w'
       go_simp
       with_reducible rfl
      rotate_left
      ·simp only [Act.put,List.setIfInBounds_toArray,List.set_cons_zero,List.set_cons_succ,i64_w,i32_w]
       rfl
      refine pure_ (i:=5) (N:=some 40) (v:=?_) (a':=?_) #[true,true,true,false,false,true,false,false,false,false,false,false,false,false,false,false,false,false,false,false,false,false] rfl rfl (any_of HT_.out (by kernel_rfl)) (fun _ _ _ h=>h) (Or.inl ⟨by rfl,?_⟩) ?_ ?_
      rotate_left
      ·intro w'
       go_simp
       with_reducible rfl
      rotate_left
      ·simp only [Act.put,List.setIfInBounds_toArray,List.set_cons_zero,List.set_cons_succ,i64_w,i32_w]
       rfl
      refine pure_ (i:=10) (N:=some 45) (v:=?_) (a':=?_) #[true,true,true,false,false,true,false,false,false,false,true,false,false,false,false,false,false,false,false,false,false,false] rfl rfl (any_of HT_.out (by kernel_rfl)) (fun _ _ _ h=>h) (Or.inl ⟨by rfl,?_⟩) ?_ ?_
      rotate_left
      ·intro w'
       go_simp
       with_reducible rfl
      rotate_left
      ·simp only [Act.put,List.setIfInBounds_toArray,List.set_cons_zero,List.set_cons_succ,i64_w,i32_w]
       rfl
      refine pure_ (i:=11) (N:=some 46) (v:=?_) (a':=?_) #[true,true,true,false,false,true,false,false,false,false,true,true,false,false,false,false,false,false,false,false,false,false] rfl rfl (any_of HT_.out (by kernel_rfl)) (fun _ _ _ h=>h) (Or.inl ⟨by rfl,?_⟩) ?_ ?_
      rotate_left
      ·intro w'
       go_simp
       with_reducible rfl
      rotate_left
      ·simp only [Act.put,List.setIfInBounds_toArray,List.set_cons_zero,List.set_cons_succ,i64_w,i32_w]
       rfl
      refine pure_ (i:=15) (N:=some 50) (v:=?_) (a':=?_) #[true,true,true,false,false,true,false,false,false,false,true,true,false,false,false,true,false,false,false,false,false,false] rfl rfl (any_of HT_.out (by kernel_rfl)) (fun _ _ _ h=>h) (Or.inl ⟨by rfl,?_⟩) ?_ ?_
      rotate_left
      ·intro w'
       go_simp
       with_reducible rfl
      rotate_left
      ·simp only [Act.put,List.setIfInBounds_toArray,List.set_cons_zero,List.set_cons_succ,i64_w,i32_w]
       rfl
      refine pure_ (i:=16) (N:=some 51) (v:=?_) (a':=?_) #[true,true,true,false,false,true,false,false,false,false,true,true,false,false,false,true,true,false,false,false,false,false] rfl rfl (any_of HT_.out (by kernel_rfl)) (fun _ _ _ h=>h) (Or.inl ⟨by rfl,?_⟩) ?_ ?_
      rotate_left
      ·intro w'
       go_simp
       with_reducible rfl
      rotate_left
      ·simp only [Act.put,List.setIfInBounds_toArray,List.set_cons_zero,List.set_cons_succ,i64_w,i32_w]
       rfl
      refine one_ (i:=3) (N:=some 38) #[true,true,true,true,false,true,false,false,false,false,true,true,false,false,false,true,true,false,false,false,false,false] rfl rfl (one_of HT_.out (by kernel_rfl)) (by decide) (fun K hK=>?_)
      refine goes_ Tryz.func48 (by kernel_rfl) rfl #[.int .i64 a1, .int .i64 2000] (by rfl) rfl rfl En ?_
      with_reducible refine (federationlaw1_within.calls a1 2000 t111 _ A31.out).mono ?_
      rintro e w' ⟨rfl,⟨nd,rfl⟩⟩
      refine ⟨_,rfl,?_⟩
      refine hK.out _ _ trivial (fun hHeld=>?_)
      clear hK K
      refine norm_ (a':=?_) ?_ ?_
      rotate_left
      ·show Act.put _ (some 38) _ = _
       simp only [Act.put,List.setIfInBounds_toArray,List.set_cons_zero,List.set_cons_succ,i64_w,i32_w]
       rfl
      refine pure_ (i:=4) (N:=some 39) (v:=?_) (a':=?_) #[true,true,true,true,true,true,false,false,false,false,true,true,false,false,false,true,true,false,false,false,false,false] rfl rfl (any_of HT_.out (by kernel_rfl)) (fun _ _ _ h=>h) (Or.inl ⟨by rfl,?_⟩) ?_ ?_
      rotate_left
      ·intro w'
       go_simp
       with_reducible rfl
      rotate_left
      ·simp only [Act.put,List.setIfInBounds_toArray,List.set_cons_zero,List.set_cons_succ,i64_w,i32_w]
       rfl
      refine one_ (i:=6) (N:=some 41) #[true,true,true,true,true,true,true,false,false,false,true,true,false,false,false,true,true,false,false,false,false,false] rfl rfl (one_of HT_.out (by kernel_rfl)) (by decide) (fun K hK=>?_)
      refine goes_ Tryz.func48 (by kernel_rfl) rfl #[.int .i64 a1, .int .i64 50] (by rfl) rfl rfl En ?_
      with_reducible refine (federationlaw1_within.calls a1 50 t112 _ A32.out).mono ?_
      rintro e w' ⟨rfl,⟨nd,rfl⟩⟩
      refine ⟨_,rfl,?_⟩
      refine hK.out _ _ trivial (fun hHeld=>?_)
      clear hK K
      refine norm_ (a':=?_) ?_ ?_
      rotate_left
      ·show Act.put _ (some 41) _ = _
       simp only [Act.put,List.setIfInBounds_toArray,List.set_cons_zero,List.set_cons_succ,i64_w,i32_w]
       rfl
      refine pure_ (i:=7) (N:=some 42) (v:=?_) (a':=?_) #[true,true,true,true,true,true,true,true,false,false,true,true,false,false,false,true,true,false,false,false,false,false] rfl rfl (any_of HT_.out (by kernel_rfl)) (fun _ _ _ h=>h) (Or.inl ⟨by rfl,?_⟩) ?_ ?_
      rotate_left
      ·intro w'
       go_simp
       with_reducible rfl
      rotate_left
      ·simp only [Act.put,List.setIfInBounds_toArray,List.set_cons_zero,List.set_cons_succ,i64_w,i32_w]
       rfl
      refine pure_ (i:=8) (N:=some 43) (v:=?_) (a':=?_) #[true,true,true,true,true,true,true,true,true,false,true,true,false,false,false,true,true,false,false,false,false,false] rfl rfl (any_of HT_.out (by kernel_rfl)) (fun _ _ _ h=>h) (Or.inl ⟨by rfl,?_⟩) ?_ ?_
      rotate_left
      ·intro w'
       go_simp
       with_reducible rfl
      rotate_left
      ·simp only [Act.put,List.setIfInBounds_toArray,List.set_cons_zero,List.set_cons_succ,i64_w,i32_w]
       rfl
      refine join_ (σ:=Value × Addr) 3 #[true,true,true,true,true,true,true,true,true,true,true,true,true,true,true,true,true,true,true,false,false,false] (fun s_=>[(44,s_.1),(47, .int .i64 t116),(49, .int .i64 (rd y113 t116)),(52, .int .i64 t118),(48, .pointer (some (s_.2.add (t116).toNat))),(53, .pointer (some ⟨gb103,1,none⟩))]) (fun s_ w'=>(Kd.R (Kd.int .i64) 3 w' w.heap.size (fun _=>True) s_.1 y113) ∧ (∃ c_,(s_.1:Value) = .slice (some s_.2) y113.length c_) ∧ (w'.heap[gb101]? = some (.cells #[.int .i64 0, .int .i64 0, .int .i64 0, .string (⟨#[]⟩:ByteArray)] 28 (0,0))) ∧ (w'.heap[gb103]? = some (.cells #[.int .i64 t102, .int .i64 0, .int .i64 0, .string (⟨#[]⟩:ByteArray)] 28 (0,0))) ∧ (Below w.heap.size w w')) ?_ ?_
      rotate_left
      ·intro hJ9_12_14_17
       refine join_ (σ:=Value × Addr) 4 #[true,true,true,true,true,true,true,true,true,true,true,true,true,true,true,true,true,false,true,false,false,false] (fun s_=>[(44,s_.1),(47, .int .i64 t116),(49, .int .i64 (rd y113 t116)),(48, .pointer (some (s_.2.add (t116).toNat))),(53, .pointer (some ⟨gb103,1,none⟩))]) (fun s_ w'=>(Kd.R (Kd.int .i64) 3 w' w.heap.size (fun _=>True) s_.1 y113) ∧ (∃ c_,(s_.1:Value) = .slice (some s_.2) y113.length c_) ∧ (w'.heap[gb101]? = some (.cells #[.int .i64 0, .int .i64 0, .int .i64 0, .string (⟨#[]⟩:ByteArray)] 28 (0,0))) ∧ (w'.heap[gb103]? = some (.cells #[.int .i64 t102, .int .i64 0, .int .i64 0, .string (⟨#[]⟩:ByteArray)] 28 (0,0))) ∧ (Below w.heap.size w w')) ?_ ?_
       rotate_left
       ·intro hJ9_12_14
        refine join_ (σ:=Value × Addr) 5 #[true,true,true,true,true,true,true,true,true,true,true,true,true,true,false,true,true,true,false,false,false,false] (fun s_=>[(44,s_.1),(47, .int .i64 t116),(52, .int .i64 t118),(48, .pointer (some (s_.2.add (t116).toNat)))]) (fun s_ w'=>(Kd.R (Kd.int .i64) 3 w' w.heap.size (fun _=>True) s_.1 y113) ∧ (∃ c_,(s_.1:Value) = .slice (some s_.2) y113.length c_) ∧ (w'.heap[gb101]? = some (.cells #[.int .i64 0, .int .i64 0, .int .i64 0, .string (⟨#[]⟩:ByteArray)] 28 (0,0))) ∧ (w'.heap[gb103]? = some (.cells #[.int .i64 t102, .int .i64 0, .int .i64 0, .string (⟨#[]⟩:ByteArray)] 28 (0,0))) ∧ (Below w.heap.size w w')) ?_ ?_
        rotate_left
        ·intro hJ9_12_17
         refine join_ (σ:=Value × Addr) 6 #[true,true,true,true,true,true,true,true,true,true,true,true,true,true,false,true,true,false,false,false,false,false] (fun s_=>[(44,s_.1),(47, .int .i64 t116),(48, .pointer (some (s_.2.add (t116).toNat)))]) (fun s_ w'=>(Kd.R (Kd.int .i64) 3 w' w.heap.size (fun _=>True) s_.1 y113) ∧ (∃ c_,(s_.1:Value) = .slice (some s_.2) y113.length c_) ∧ (w'.heap[gb101]? = some (.cells #[.int .i64 0, .int .i64 0, .int .i64 0, .string (⟨#[]⟩:ByteArray)] 28 (0,0))) ∧ (w'.heap[gb103]? = some (.cells #[.int .i64 t102, .int .i64 0, .int .i64 0, .string (⟨#[]⟩:ByteArray)] 28 (0,0))) ∧ (Below w.heap.size w w')) ?_ ?_
         rotate_left
         ·intro hJ9_12
          refine join_ (σ:=Unit) 7 #[true,true,true,true,true,true,true,true,true,false,true,true,true,false,false,true,true,true,false,false,false,false] (fun s_=>[(47, .int .i64 t116),(52, .int .i64 t118)]) (fun s_ w'=>(w'.heap[gb101]? = some (.cells #[.int .i64 0, .int .i64 0, .int .i64 0, .string (⟨#[]⟩:ByteArray)] 28 (0,0))) ∧ (w'.heap[gb103]? = some (.cells #[.int .i64 t102, .int .i64 0, .int .i64 0, .string (⟨#[]⟩:ByteArray)] 28 (0,0))) ∧ (Below w.heap.size w w')) ?_ ?_
          rotate_left
          ·intro hJ12_17
           refine join_ (σ:=Value × Addr) 8 #[true,true,true,true,true,true,true,true,true,true,true,true,false,false,false,true,true,false,false,false,false,false] (fun s_=>[(44,s_.1)]) (fun s_ w'=>(Kd.R (Kd.int .i64) 3 w' w.heap.size (fun _=>True) s_.1 y113) ∧ (∃ c_,(s_.1:Value) = .slice (some s_.2) y113.length c_) ∧ (w'.heap[gb101]? = some (.cells #[.int .i64 0, .int .i64 0, .int .i64 0, .string (⟨#[]⟩:ByteArray)] 28 (0,0))) ∧ (w'.heap[gb103]? = some (.cells #[.int .i64 t102, .int .i64 0, .int .i64 0, .string (⟨#[]⟩:ByteArray)] 28 (0,0))) ∧ (Below w.heap.size w w')) ?_ ?_
           rotate_left
           ·intro hJ9
            refine join_ (σ:=Unit) 8 #[true,true,true,true,true,true,true,true,true,false,true,true,true,false,false,true,true,false,false,false,false,false] (fun s_=>[(47, .int .i64 t116)]) (fun s_ w'=>(w'.heap[gb101]? = some (.cells #[.int .i64 0, .int .i64 0, .int .i64 0, .string (⟨#[]⟩:ByteArray)] 28 (0,0))) ∧ (w'.heap[gb103]? = some (.cells #[.int .i64 t102, .int .i64 0, .int .i64 0, .string (⟨#[]⟩:ByteArray)] 28 (0,0))) ∧ (Below w.heap.size w w')) ?_ ?_
            rotate_left
            ·intro hJ12
             refine two_ (i:=9) (j:=12) (Ni:=some 44) (Nj:=some 47) #[true,true,true,true,true,true,true,true,true,true,true,true,false,false,false,true,true,false,false,false,false,false] #[true,true,true,true,true,true,true,true,true,false,true,true,true,false,false,true,true,false,false,false,false,false] rfl rfl rfl rfl (two_of HT_.out (by kernel_rfl)) (by decide) (by decide) (fun K hK=>?_) (fun K hK=>?_)
             ·skip
              refine Kd.R_lit_step (Kd.int .i64) _ 3 ?hg (N:=44) ?hd (xs:=([Int.tmod a1 1000000000000000,wrap64 (t111 - 1000),999999999999999,(-999999999999999),1,wrap64 ((wrap64 (t112 * 1000)) - 20000)]:List Int)) (inner:=[.int .i64 (Int.tmod a1 1000000000000000), .int .i64 (wrap64 (t111 - 1000)), .int .i64 999999999999999, .int .i64 (-999999999999999), .int .i64 1, .int .i64 (wrap64 ((wrap64 (t112 * 1000)) - 20000))]) (ok:=fun _=>True) (okp:=fun _=>True) ?hr ?hp (fun _ hk=>hk) trivial (Below.refl _ _) (Nat.le_refl _) (by simp) ?_;(case hd=>rfl);(case hg=>rfl);(case hr=>first|(go_simp;done)|(go_simp;rfl));(case hp=>exact (Reps.one (show Kd.M (Kd.int .i64) _ _ _ (Int.tmod a1 1000000000000000) [.int .i64 (Int.tmod a1 1000000000000000)] from rfl) (Reps.one (show Kd.M (Kd.int .i64) _ _ _ (wrap64 (t111 - 1000)) [.int .i64 (wrap64 (t111 - 1000))] from rfl) (Reps.one (show Kd.M (Kd.int .i64) _ _ _ 999999999999999 [.int .i64 999999999999999] from rfl) (Reps.one (show Kd.M (Kd.int .i64) _ _ _ (-999999999999999) [.int .i64 (-999999999999999)] from rfl) (Reps.one (show Kd.M (Kd.int .i64) _ _ _ 1 [.int .i64 1] from rfl) (Reps.one (show Kd.M (Kd.int .i64) _ _ _ (wrap64 ((wrap64 (t112 * 1000)) - 20000)) [.int .i64 (wrap64 ((wrap64 (t112 * 1000)) - 20000))] from rfl) (Reps.none _ _))))))))
              intro v114 w45 ho46 hb hg_ hnew_
              clear hg_ hnew_
              (first|rw [← Ny113.out] at ho46|(simp only [Int.reduceToNat] at ho46;rw [← Ny113.out] at ho46))
              have n0_:=z_ (Kd.R_lower ho46 (H4 Gk))
              have n1_:=z_ (zk BK101.out hb)
              have n2_:=z_ (zk BK103.out hb)
              have n3_:=z_ (below_step Gk hb)
              clear BK101
              clear BK103
              clear HB
              have HO115:=n0_
              have BK101:=n1_
              have BK103:=n2_
              have HB:=n3_
              clear n0_ n1_ n2_ n3_
              clear hb ho46
              obtain ⟨Ao47,co47,eo47⟩:=Kd.R_slice HO115.out
              subst eo47
              obtain ⟨ado47,fo47,_⟩:=Kd.at_int (Kd.R_reads' HO115.out).2.2 0 (by decide) (by rw [Ny113.out];simp)
              cases fo47
              refine hK.out _ _ trivial (fun hHeld=>?_)
              clear hK K
              refine norm_ (a':=?_) ?_ ?_
              rotate_left
              ·show Act.put _ (some 44) _ = _
               simp only [Act.put,List.setIfInBounds_toArray,List.set_cons_zero,List.set_cons_succ,i64_w,i32_w]
               rfl
              exact norm_ K9 (hJ9 (.slice (some ado47) y113.length co47,ado47) _ ⟨N9,⟨_,rfl⟩,Fv,Jm,Gk⟩)
             ·skip
              refine goes_ Tryz.func48 (by kernel_rfl) rfl #[.int .i64 (wrap64 (Int.tdiv a0 6)), .int .i64 6] (by rfl) rfl rfl En ?_
              with_reducible refine (federationlaw1_within.calls (wrap64 (Int.tdiv a0 6)) 6 t116 _ A33.out).mono ?_
              rintro e w' ⟨rfl,⟨nd,rfl⟩⟩
              refine ⟨_,rfl,?_⟩
              refine hK.out _ _ trivial (fun hHeld=>?_)
              clear hK K
              refine norm_ (a':=?_) ?_ ?_
              rotate_left
              ·show Act.put _ (some 47) _ = _
               simp only [Act.put,List.setIfInBounds_toArray,List.set_cons_zero,List.set_cons_succ,i64_w,i32_w]
               rfl
              exact norm_ K9 (hJ12 () _ ⟨Fv,Jm,Gk⟩)
            ·skip
             rintro _ w45 ⟨h0_,h1_,h2_⟩
             have n0_:Aside0 (w45.heap[gb101]? = some (.cells #[.int .i64 0, .int .i64 0, .int .i64 0, .string (⟨#[]⟩:ByteArray)] 28 (0,0))):=⟨h0_⟩
             have n1_:Aside0 (w45.heap[gb103]? = some (.cells #[.int .i64 t102, .int .i64 0, .int .i64 0, .string (⟨#[]⟩:ByteArray)] 28 (0,0))):=⟨h1_⟩
             have n2_:Aside0 (Below w.heap.size w w45):=⟨h2_⟩
             clear BK101
             clear BK103
             clear HB
             clear h0_ h1_ h2_
             have BK101:=n0_
             have BK103:=n1_
             have HB:=n2_
             clear n0_ n1_ n2_
             have hHeld:=trivial
             refine norm_ (a':=?_) ?_ ?_
             rotate_left
             ·simp only [putAll,Act.put,List.setIfInBounds_toArray,List.set_cons_zero,List.set_cons_succ]
              rfl
             refine two_ (i:=9) (j:=17) (Ni:=some 44) (Nj:=some 52) #[true,true,true,true,true,true,true,true,true,true,true,true,true,false,false,true,true,false,false,false,false,false] #[true,true,true,true,true,true,true,true,true,false,true,true,true,false,false,true,true,true,false,false,false,false] rfl rfl rfl rfl (two_of HT_.out (by kernel_rfl)) (by decide) (by decide) (fun K hK=>?_) (fun K hK=>?_)
             ·skip
              refine Kd.R_lit_step (Kd.int .i64) _ 3 ?hg (N:=44) ?hd (xs:=([Int.tmod a1 1000000000000000,wrap64 (t111 - 1000),999999999999999,(-999999999999999),1,wrap64 ((wrap64 (t112 * 1000)) - 20000)]:List Int)) (inner:=[.int .i64 (Int.tmod a1 1000000000000000), .int .i64 (wrap64 (t111 - 1000)), .int .i64 999999999999999, .int .i64 (-999999999999999), .int .i64 1, .int .i64 (wrap64 ((wrap64 (t112 * 1000)) - 20000))]) (ok:=fun _=>True) (okp:=fun _=>True) ?hr ?hp (fun _ hk=>hk) trivial (Below.refl _ _) (Nat.le_refl _) (by simp) ?_;(case hd=>rfl);(case hg=>rfl);(case hr=>first|(go_simp;done)|(go_simp;rfl));(case hp=>exact (Reps.one (show Kd.M (Kd.int .i64) _ _ _ (Int.tmod a1 1000000000000000) [.int .i64 (Int.tmod a1 1000000000000000)] from rfl) (Reps.one (show Kd.M (Kd.int .i64) _ _ _ (wrap64 (t111 - 1000)) [.int .i64 (wrap64 (t111 - 1000))] from rfl) (Reps.one (show Kd.M (Kd.int .i64) _ _ _ 999999999999999 [.int .i64 999999999999999] from rfl) (Reps.one (show Kd.M (Kd.int .i64) _ _ _ (-999999999999999) [.int .i64 (-999999999999999)] from rfl) (Reps.one (show Kd.M (Kd.int .i64) _ _ _ 1 [.int .i64 1] from rfl) (Reps.one (show Kd.M (Kd.int .i64) _ _ _ (wrap64 ((wrap64 (t112 * 1000)) - 20000)) [.int .i64 (wrap64 ((wrap64 (t112 * 1000)) - 20000))] from rfl) (Reps.none _ _))))))))
              intro v114 w46 ho47 hb hg_ hnew_
              clear hg_ hnew_
              (first|rw [← Ny113.out] at ho47|(simp only [Int.reduceToNat] at ho47;rw [← Ny113.out] at ho47))
              have n0_:=z_ (Kd.R_lower ho47 (H4 Gk))
              have n1_:=z_ (zk BK101.out hb)
              have n2_:=z_ (zk BK103.out hb)
              have n3_:=z_ (below_step Gk hb)
              clear BK101
              clear BK103
              clear HB
              have HO115:=n0_
              have BK101:=n1_
              have BK103:=n2_
              have HB:=n3_
              clear n0_ n1_ n2_ n3_
              clear hb ho47
              obtain ⟨Ao48,co48,eo48⟩:=Kd.R_slice HO115.out
              subst eo48
              obtain ⟨ado48,fo48,_⟩:=Kd.at_int (Kd.R_reads' HO115.out).2.2 0 (by decide) (by rw [Ny113.out];simp)
              cases fo48
              refine hK.out _ _ trivial (fun hHeld=>?_)
              clear hK K
              refine norm_ (a':=?_) ?_ ?_
              rotate_left
              ·show Act.put _ (some 44) _ = _
               simp only [Act.put,List.setIfInBounds_toArray,List.set_cons_zero,List.set_cons_succ,i64_w,i32_w]
               rfl
              refine pure_ (i:=13) (N:=some 48) (v:=?_) (a':=?_) #[true,true,true,true,true,true,true,true,true,true,true,true,true,true,false,true,true,false,false,false,false,false] rfl rfl (any_of HT_.out (by kernel_rfl)) (fun _ _ _ h=>h) (Or.inl ⟨by rfl,?_⟩) ?_ ?_
              rotate_left
              ·intro w'
               go_simp
               with_reducible rfl
              rotate_left
              ·simp only [Act.put,List.setIfInBounds_toArray,List.set_cons_zero,List.set_cons_succ,i64_w,i32_w]
               rfl
              exact norm_ K9 (hJ9_12 (.slice (some ado48) y113.length co48,ado48) _ ⟨N9,⟨_,rfl⟩,Fv,Jm,Gk⟩)
             ·skip
              refine goes_ Tryz.func48 (by kernel_rfl) rfl #[.int .i64 (wrap64 (Int.tdiv a0 36)), .int .i64 7] (by rfl) rfl rfl En ?_
              with_reducible refine (federationlaw1_within.calls (wrap64 (Int.tdiv a0 36)) 7 t118 _ A36.out).mono ?_
              rintro e w' ⟨rfl,⟨nd,rfl⟩⟩
              refine ⟨_,rfl,?_⟩
              refine hK.out _ _ trivial (fun hHeld=>?_)
              clear hK K
              refine norm_ (a':=?_) ?_ ?_
              rotate_left
              ·show Act.put _ (some 52) _ = _
               simp only [Act.put,List.setIfInBounds_toArray,List.set_cons_zero,List.set_cons_succ,i64_w,i32_w]
               rfl
              exact norm_ K9 (hJ12_17 () _ ⟨Fv,Jm,Gk⟩)
           ·skip
            rintro ⟨v114,adz_v114⟩ w48 ⟨h0_,h1_,h2_,h3_,h4_⟩
            have n0_:Aside0 (Kd.R (Kd.int .i64) 3 w48 w.heap.size (fun _=>True) v114 y113):=⟨h0_⟩
            have n1_:Aside0 (∃ c_,(v114:Value) = .slice (some adz_v114) y113.length c_):=⟨h1_⟩
            have n2_:Aside0 (w48.heap[gb101]? = some (.cells #[.int .i64 0, .int .i64 0, .int .i64 0, .string (⟨#[]⟩:ByteArray)] 28 (0,0))):=⟨h2_⟩
            have n3_:Aside0 (w48.heap[gb103]? = some (.cells #[.int .i64 t102, .int .i64 0, .int .i64 0, .string (⟨#[]⟩:ByteArray)] 28 (0,0))):=⟨h3_⟩
            have n4_:Aside0 (Below w.heap.size w w48):=⟨h4_⟩
            clear BK101
            clear BK103
            clear HB
            clear h0_ h1_ h2_ h3_ h4_
            have HO115:=n0_
            have HA_HO115:=n1_
            have BK101:=n2_
            have BK103:=n3_
            have HB:=n4_
            clear n0_ n1_ n2_ n3_ n4_
            have hHeld:=trivial
            obtain ⟨co49,eo49⟩:=HA_HO115.out
            clear HA_HO115
            subst eo49
            refine norm_ (a':=?_) ?_ ?_
            rotate_left
            ·simp only [putAll,Act.put,List.setIfInBounds_toArray,List.set_cons_zero,List.set_cons_succ]
             rfl
            refine one_ (i:=12) (N:=some 47) #[true,true,true,true,true,true,true,true,true,true,true,true,true,false,false,true,true,false,false,false,false,false] rfl rfl (one_of HT_.out (by kernel_rfl)) (by decide) (fun K hK=>?_)
            refine goes_ Tryz.func48 (by kernel_rfl) rfl #[.int .i64 (wrap64 (Int.tdiv a0 6)), .int .i64 6] (by rfl) rfl rfl En ?_
            with_reducible refine (federationlaw1_within.calls (wrap64 (Int.tdiv a0 6)) 6 t116 _ A33.out).mono ?_
            rintro e w' ⟨rfl,⟨nd,rfl⟩⟩
            refine ⟨_,rfl,?_⟩
            refine hK.out _ _ trivial (fun hHeld=>?_)
            clear hK K
            refine norm_ (a':=?_) ?_ ?_
            rotate_left
            ·show Act.put _ (some 47) _ = _
             simp only [Act.put,List.setIfInBounds_toArray,List.set_cons_zero,List.set_cons_succ,i64_w,i32_w]
             rfl
            refine pure_ (i:=13) (N:=some 48) (v:=?_) (a':=?_) #[true,true,true,true,true,true,true,true,true,true,true,true,true,true,false,true,true,false,false,false,false,false] rfl rfl (any_of HT_.out (by kernel_rfl)) (fun _ _ _ h=>h) (Or.inl ⟨by rfl,?_⟩) ?_ ?_
            rotate_left
            ·intro w'
             go_simp
             with_reducible rfl
            rotate_left
            ·simp only [Act.put,List.setIfInBounds_toArray,List.set_cons_zero,List.set_cons_succ,i64_w,i32_w]
             rfl
            exact norm_ K9 (hJ9_12 (.slice (some adz_v114) y113.length co49,adz_v114) _ ⟨N9,⟨_,rfl⟩,Fv,Jm,Gk⟩)
          ·skip
           rintro _ w45 ⟨h0_,h1_,h2_⟩
           have n0_:Aside0 (w45.heap[gb101]? = some (.cells #[.int .i64 0, .int .i64 0, .int .i64 0, .string (⟨#[]⟩:ByteArray)] 28 (0,0))):=⟨h0_⟩
           have n1_:Aside0 (w45.heap[gb103]? = some (.cells #[.int .i64 t102, .int .i64 0, .int .i64 0, .string (⟨#[]⟩:ByteArray)] 28 (0,0))):=⟨h1_⟩
           have n2_:Aside0 (Below w.heap.size w w45):=⟨h2_⟩
           clear BK101
           clear BK103
           clear HB
           clear h0_ h1_ h2_
           have BK101:=n0_
           have BK103:=n1_
           have HB:=n2_
           clear n0_ n1_ n2_
           have hHeld:=trivial
           refine norm_ (a':=?_) ?_ ?_
           rotate_left
           ·simp only [putAll,Act.put,List.setIfInBounds_toArray,List.set_cons_zero,List.set_cons_succ]
            rfl
           refine one_ (i:=9) (N:=some 44) #[true,true,true,true,true,true,true,true,true,true,true,true,true,false,false,true,true,true,false,false,false,false] rfl rfl (one_of HT_.out (by kernel_rfl)) (by decide) (fun K hK=>?_)
           refine Kd.R_lit_step (Kd.int .i64) _ 3 ?hg (N:=44) ?hd (xs:=([Int.tmod a1 1000000000000000,wrap64 (t111 - 1000),999999999999999,(-999999999999999),1,wrap64 ((wrap64 (t112 * 1000)) - 20000)]:List Int)) (inner:=[.int .i64 (Int.tmod a1 1000000000000000), .int .i64 (wrap64 (t111 - 1000)), .int .i64 999999999999999, .int .i64 (-999999999999999), .int .i64 1, .int .i64 (wrap64 ((wrap64 (t112 * 1000)) - 20000))]) (ok:=fun _=>True) (okp:=fun _=>True) ?hr ?hp (fun _ hk=>hk) trivial (Below.refl _ _) (Nat.le_refl _) (by simp) ?_;(case hd=>rfl);(case hg=>rfl);(case hr=>first|(go_simp;done)|(go_simp;rfl));(case hp=>exact (Reps.one (show Kd.M (Kd.int .i64) _ _ _ (Int.tmod a1 1000000000000000) [.int .i64 (Int.tmod a1 1000000000000000)] from rfl) (Reps.one (show Kd.M (Kd.int .i64) _ _ _ (wrap64 (t111 - 1000)) [.int .i64 (wrap64 (t111 - 1000))] from rfl) (Reps.one (show Kd.M (Kd.int .i64) _ _ _ 999999999999999 [.int .i64 999999999999999] from rfl) (Reps.one (show Kd.M (Kd.int .i64) _ _ _ (-999999999999999) [.int .i64 (-999999999999999)] from rfl) (Reps.one (show Kd.M (Kd.int .i64) _ _ _ 1 [.int .i64 1] from rfl) (Reps.one (show Kd.M (Kd.int .i64) _ _ _ (wrap64 ((wrap64 (t112 * 1000)) - 20000)) [.int .i64 (wrap64 ((wrap64 (t112 * 1000)) - 20000))] from rfl) (Reps.none _ _))))))))
           intro v114 w46 ho47 hb hg_ hnew_
           clear hg_ hnew_
           (first|rw [← Ny113.out] at ho47|(simp only [Int.reduceToNat] at ho47;rw [← Ny113.out] at ho47))
           have n0_:=z_ (Kd.R_lower ho47 (H4 Gk))
           have n1_:=z_ (zk BK101.out hb)
           have n2_:=z_ (zk BK103.out hb)
           have n3_:=z_ (below_step Gk hb)
           clear BK101
           clear BK103
           clear HB
           have HO115:=n0_
           have BK101:=n1_
           have BK103:=n2_
           have HB:=n3_
           clear n0_ n1_ n2_ n3_
           clear hb ho47
           obtain ⟨Ao48,co48,eo48⟩:=Kd.R_slice HO115.out
           subst eo48
           obtain ⟨ado48,fo48,_⟩:=Kd.at_int (Kd.R_reads' HO115.out).2.2 0 (by decide) (by rw [Ny113.out];simp)
           cases fo48
           refine hK.out _ _ trivial (fun hHeld=>?_)
           clear hK K
           refine norm_ (a':=?_) ?_ ?_
           rotate_left
           ·show Act.put _ (some 44) _ = _
            simp only [Act.put,List.setIfInBounds_toArray,List.set_cons_zero,List.set_cons_succ,i64_w,i32_w]
            rfl
           refine pure_ (i:=13) (N:=some 48) (v:=?_) (a':=?_) #[true,true,true,true,true,true,true,true,true,true,true,true,true,true,false,true,true,true,false,false,false,false] rfl rfl (any_of HT_.out (by kernel_rfl)) (fun _ _ _ h=>h) (Or.inl ⟨by rfl,?_⟩) ?_ ?_
           rotate_left
           ·intro w'
            go_simp
            with_reducible rfl
           rotate_left
           ·simp only [Act.put,List.setIfInBounds_toArray,List.set_cons_zero,List.set_cons_succ,i64_w,i32_w]
            rfl
           exact norm_ K9 (hJ9_12_17 (.slice (some ado48) y113.length co48,ado48) _ ⟨N9,⟨_,rfl⟩,Fv,Jm,Gk⟩)
         ·skip
          rintro ⟨v114,adz_v114⟩ w48 ⟨h0_,h1_,h2_,h3_,h4_⟩
          have n0_:Aside0 (Kd.R (Kd.int .i64) 3 w48 w.heap.size (fun _=>True) v114 y113):=⟨h0_⟩
          have n1_:Aside0 (∃ c_,(v114:Value) = .slice (some adz_v114) y113.length c_):=⟨h1_⟩
          have n2_:Aside0 (w48.heap[gb101]? = some (.cells #[.int .i64 0, .int .i64 0, .int .i64 0, .string (⟨#[]⟩:ByteArray)] 28 (0,0))):=⟨h2_⟩
          have n3_:Aside0 (w48.heap[gb103]? = some (.cells #[.int .i64 t102, .int .i64 0, .int .i64 0, .string (⟨#[]⟩:ByteArray)] 28 (0,0))):=⟨h3_⟩
          have n4_:Aside0 (Below w.heap.size w w48):=⟨h4_⟩
          clear BK101
          clear BK103
          clear HB
          clear h0_ h1_ h2_ h3_ h4_
          have HO115:=n0_
          have HA_HO115:=n1_
          have BK101:=n2_
          have BK103:=n3_
          have HB:=n4_
          clear n0_ n1_ n2_ n3_ n4_
          have hHeld:=trivial
          obtain ⟨co49,eo49⟩:=HA_HO115.out
          clear HA_HO115
          subst eo49
          refine norm_ (a':=?_) ?_ ?_
          rotate_left
          ·simp only [putAll,Act.put,List.setIfInBounds_toArray,List.set_cons_zero,List.set_cons_succ]
           rfl
          refine two_ (i:=14) (j:=17) (Ni:=some 49) (Nj:=some 52) #[true,true,true,true,true,true,true,true,true,true,true,true,true,true,true,true,true,false,false,false,false,false] #[true,true,true,true,true,true,true,true,true,true,true,true,true,true,false,true,true,true,false,false,false,false] rfl rfl rfl rfl (two_of HT_.out (by kernel_rfl)) (by decide) (by decide) (fun K hK=>?_) (fun K hK=>?_)
          ·skip
           (have p117:0 ≤ (t116:Int):=of_decide_eq_true Di;have q117:t116 < (y113.length:Int):=of_decide_eq_true Di;obtain ⟨ad117,e117,hx117_0⟩:=Kd.at_int (Kd.R_reads' HO115.out).2.2 t116 p117 q117;obtain rfl:adz_v114 = ad117:=(by injection e117))
           refine value_ (w1:=?_) (v:=?_) (by rfl) rfl ?_ ?_
           rotate_left 2
           ·go_simp
            constructor
            ·rfl
            ·rfl
           clear hx117_0
           refine hK.out _ _ trivial (fun hHeld=>?_)
           clear hK K
           refine norm_ (a':=?_) ?_ ?_
           rotate_left
           ·show Act.put _ (some 49) _ = _
            simp only [Act.put,List.setIfInBounds_toArray,List.set_cons_zero,List.set_cons_succ,i64_w,i32_w]
            rfl
           refine pure_ (i:=18) (N:=some 53) (v:=?_) (a':=?_) #[true,true,true,true,true,true,true,true,true,true,true,true,true,true,true,true,true,false,true,false,false,false] rfl rfl (any_of HT_.out (by kernel_rfl)) (fun _ _ _ h=>h) (Or.inl ⟨by rfl,?_⟩) ?_ ?_
           rotate_left
           ·intro w'
            go_simp
            with_reducible rfl
           rotate_left
           ·simp only [Act.put,List.setIfInBounds_toArray,List.set_cons_zero,List.set_cons_succ,i64_w,i32_w]
            rfl
           exact norm_ K9 (hJ9_12_14 (.slice (some adz_v114) y113.length co49,adz_v114) _ ⟨N9,⟨_,rfl⟩,Fv,Jm,Gk⟩)
          ·skip
           refine goes_ Tryz.func48 (by kernel_rfl) rfl #[.int .i64 (wrap64 (Int.tdiv a0 36)), .int .i64 7] (by rfl) rfl rfl En ?_
           with_reducible refine (federationlaw1_within.calls (wrap64 (Int.tdiv a0 36)) 7 t118 _ A36.out).mono ?_
           rintro e w' ⟨rfl,⟨nd,rfl⟩⟩
           refine ⟨_,rfl,?_⟩
           refine hK.out _ _ trivial (fun hHeld=>?_)
           clear hK K
           refine norm_ (a':=?_) ?_ ?_
           rotate_left
           ·show Act.put _ (some 52) _ = _
            simp only [Act.put,List.setIfInBounds_toArray,List.set_cons_zero,List.set_cons_succ,i64_w,i32_w]
            rfl
           exact norm_ K9 (hJ9_12_17 (.slice (some adz_v114) y113.length co49,adz_v114) _ ⟨N9,⟨_,rfl⟩,Fv,Jm,Gk⟩)
        ·skip
         rintro ⟨v114,adz_v114⟩ w48 ⟨h0_,h1_,h2_,h3_,h4_⟩
         have n0_:Aside0 (Kd.R (Kd.int .i64) 3 w48 w.heap.size (fun _=>True) v114 y113):=⟨h0_⟩
         have n1_:Aside0 (∃ c_,(v114:Value) = .slice (some adz_v114) y113.length c_):=⟨h1_⟩
         have n2_:Aside0 (w48.heap[gb101]? = some (.cells #[.int .i64 0, .int .i64 0, .int .i64 0, .string (⟨#[]⟩:ByteArray)] 28 (0,0))):=⟨h2_⟩
         have n3_:Aside0 (w48.heap[gb103]? = some (.cells #[.int .i64 t102, .int .i64 0, .int .i64 0, .string (⟨#[]⟩:ByteArray)] 28 (0,0))):=⟨h3_⟩
         have n4_:Aside0 (Below w.heap.size w w48):=⟨h4_⟩
         clear BK101
         clear BK103
         clear HB
         clear h0_ h1_ h2_ h3_ h4_
         have HO115:=n0_
         have HA_HO115:=n1_
         have BK101:=n2_
         have BK103:=n3_
         have HB:=n4_
         clear n0_ n1_ n2_ n3_ n4_
         have hHeld:=trivial
         obtain ⟨co49,eo49⟩:=HA_HO115.out
         clear HA_HO115
         subst eo49
         refine norm_ (a':=?_) ?_ ?_
         rotate_left
         ·simp only [putAll,Act.put,List.setIfInBounds_toArray,List.set_cons_zero,List.set_cons_succ]
          rfl
         refine one_ (i:=14) (N:=some 49) #[true,true,true,true,true,true,true,true,true,true,true,true,true,true,true,true,true,true,false,false,false,false] rfl rfl (one_of HT_.out (by kernel_rfl)) (by decide) (fun K hK=>?_)
         (have p117:0 ≤ (t116:Int):=of_decide_eq_true Di;have q117:t116 < (y113.length:Int):=of_decide_eq_true Di;obtain ⟨ad117,e117,hx117_0⟩:=Kd.at_int (Kd.R_reads' HO115.out).2.2 t116 p117 q117;obtain rfl:adz_v114 = ad117:=(by injection e117))
         refine value_ (w1:=?_) (v:=?_) (by rfl) rfl ?_ ?_
         rotate_left 2
         ·go_simp
          constructor
          ·rfl
          ·rfl
         clear hx117_0
         refine hK.out _ _ trivial (fun hHeld=>?_)
         clear hK K
         refine norm_ (a':=?_) ?_ ?_
         rotate_left
         ·show Act.put _ (some 49) _ = _
          simp only [Act.put,List.setIfInBounds_toArray,List.set_cons_zero,List.set_cons_succ,i64_w,i32_w]
          rfl
         refine pure_ (i:=18) (N:=some 53) (v:=?_) (a':=?_) #[true,true,true,true,true,true,true,true,true,true,true,true,true,true,true,true,true,true,true,false,false,false] rfl rfl (any_of HT_.out (by kernel_rfl)) (fun _ _ _ h=>h) (Or.inl ⟨by rfl,?_⟩) ?_ ?_
         rotate_left
         ·intro w'
          go_simp
          with_reducible rfl
         rotate_left
         ·simp only [Act.put,List.setIfInBounds_toArray,List.set_cons_zero,List.set_cons_succ,i64_w,i32_w]
          rfl
         exact norm_ K9 (hJ9_12_14_17 (.slice (some adz_v114) y113.length co49,adz_v114) _ ⟨N9,⟨_,rfl⟩,Fv,Jm,Gk⟩)
       ·skip
        rintro ⟨v114,adz_v114⟩ w48 ⟨h0_,h1_,h2_,h3_,h4_⟩
        have n0_:Aside0 (Kd.R (Kd.int .i64) 3 w48 w.heap.size (fun _=>True) v114 y113):=⟨h0_⟩
        have n1_:Aside0 (∃ c_,(v114:Value) = .slice (some adz_v114) y113.length c_):=⟨h1_⟩
        have n2_:Aside0 (w48.heap[gb101]? = some (.cells #[.int .i64 0, .int .i64 0, .int .i64 0, .string (⟨#[]⟩:ByteArray)] 28 (0,0))):=⟨h2_⟩
        have n3_:Aside0 (w48.heap[gb103]? = some (.cells #[.int .i64 t102, .int .i64 0, .int .i64 0, .string (⟨#[]⟩:ByteArray)] 28 (0,0))):=⟨h3_⟩
        have n4_:Aside0 (Below w.heap.size w w48):=⟨h4_⟩
        clear BK101
        clear BK103
        clear HB
        clear h0_ h1_ h2_ h3_ h4_
        have HO115:=n0_
        have HA_HO115:=n1_
        have BK101:=n2_
        have BK103:=n3_
        have HB:=n4_
        clear n0_ n1_ n2_ n3_ n4_
        have hHeld:=trivial
        obtain ⟨co49,eo49⟩:=HA_HO115.out
        clear HA_HO115
        subst eo49
        refine norm_ (a':=?_) ?_ ?_
        rotate_left
        ·simp only [putAll,Act.put,List.setIfInBounds_toArray,List.set_cons_zero,List.set_cons_succ]
         rfl
        refine one_ (i:=17) (N:=some 52) #[true,true,true,true,true,true,true,true,true,true,true,true,true,true,true,true,true,true,true,false,false,false] rfl rfl (one_of HT_.out (by kernel_rfl)) (by decide) (fun K hK=>?_)
        refine goes_ Tryz.func48 (by kernel_rfl) rfl #[.int .i64 (wrap64 (Int.tdiv a0 36)), .int .i64 7] (by rfl) rfl rfl En ?_
        with_reducible refine (federationlaw1_within.calls (wrap64 (Int.tdiv a0 36)) 7 t118 _ A36.out).mono ?_
        rintro e w' ⟨rfl,⟨nd,rfl⟩⟩
        refine ⟨_,rfl,?_⟩
        refine hK.out _ _ trivial (fun hHeld=>?_)
        clear hK K
        refine norm_ (a':=?_) ?_ ?_
        rotate_left
        ·show Act.put _ (some 52) _ = _
         simp only [Act.put,List.setIfInBounds_toArray,List.set_cons_zero,List.set_cons_succ,i64_w,i32_w]
         rfl
        exact norm_ K9 (hJ9_12_14_17 (.slice (some adz_v114) y113.length co49,adz_v114) _ ⟨N9,⟨_,rfl⟩,Fv,Jm,Gk⟩)
      rintro ⟨v114,adz_v114⟩ w48 ⟨h0_,h1_,h2_,h3_,h4_⟩
      have n0_:Aside0 (Kd.R (Kd.int .i64) 3 w48 w.heap.size (fun _=>True) v114 y113):=⟨h0_⟩
      have n1_:Aside0 (∃ c_,(v114:Value) = .slice (some adz_v114) y113.length c_):=⟨h1_⟩
      have n2_:Aside0 (w48.heap[gb101]? = some (.cells #[.int .i64 0, .int .i64 0, .int .i64 0, .string (⟨#[]⟩:ByteArray)] 28 (0,0))):=⟨h2_⟩
      have n3_:Aside0 (w48.heap[gb103]? = some (.cells #[.int .i64 t102, .int .i64 0, .int .i64 0, .string (⟨#[]⟩:ByteArray)] 28 (0,0))):=⟨h3_⟩
      have n4_:Aside0 (Below w.heap.size w w48):=⟨h4_⟩
      clear BK101
      clear BK103
      clear HB
      clear h0_ h1_ h2_ h3_ h4_
      have HO115:=n0_
      have HA_HO115:=n1_
      have BK101:=n2_
      have BK103:=n3_
      have HB:=n4_
      clear n0_ n1_ n2_ n3_ n4_
      have hHeld:=trivial
      obtain ⟨co49,eo49⟩:=HA_HO115.out
      clear HA_HO115
      subst eo49
      refine norm_ (a':=?_) ?_ ?_
      rotate_left
      ·simp only [putAll,Act.put,List.setIfInBounds_toArray,List.set_cons_zero,List.set_cons_succ]
       rfl
      refine one_ (i:=19) (N:=none) #[true,true,true,true,true,true,true,true,true,true,true,true,true,true,true,true,true,true,true,true,false,false] rfl rfl (one_of HT_.out (by kernel_rfl)) (by decide) (fun K hK=>?_)
      have hs50:w48.cell? ⟨gb103,1,none⟩ = some (.int .i64 0):=(Ba BK103.out 1).trans rfl
      have hfs50:=B2 BK103.out 1
      have hns50_0:=NB101_103.out
      have hms50_0:=NB103_101.out
      refine skip_ (w1:=?_) (by rfl) rfl ?_ ?_
      rotate_left
      ·go_simp
       rfl
      refine hK.out _ _ trivial (fun hHeld=>?_)
      clear hK K
      refine pure_ (i:=20) (N:=some 54) (v:=?_) (a':=?_) #[true,true,true,true,true,true,true,true,true,true,true,true,true,true,true,true,true,true,true,true,true,false] rfl rfl (any_of HT_.out (by kernel_rfl)) (fun _ _ _ h=>h) (Or.inl ⟨by rfl,?_⟩) ?_ ?_
      rotate_left
      ·intro w'
       go_simp
       with_reducible rfl
      rotate_left
      ·simp only [Act.put,List.setIfInBounds_toArray,List.set_cons_zero,List.set_cons_succ,i64_w,i32_w]
       rfl
      refine one_ (i:=21) (N:=none) #[true,true,true,true,true,true,true,true,true,true,true,true,true,true,true,true,true,true,true,true,true,true] rfl rfl (one_of HT_.out (by kernel_rfl)) (by decide) (fun K hK=>?_)
      have hs51:w48.cell? ⟨gb103,2,none⟩ = some (.int .i64 0):=(Ba BK103.out 2).trans rfl
      have hfs51:=B2 BK103.out 2
      have hns51_0:=NB101_103.out
      have hms51_0:=NB103_101.out
      refine skip_ (w1:=?_) (by rfl) rfl ?_ ?_
      rotate_left
      ·go_simp
       rfl
      refine hK.out _ _ trivial (fun hHeld=>?_)
      clear hK K
      refine done_ (done_of HT_.out (by kernel_rfl)) ?_
      obtain ⟨_,_,_,_,_,_,_,_⟩:=Bj BK103.out
      try go_wp2_with (first|((with_reducible refine gate_callee (f:=49) rfl ?_);refine goesL_ (some 56) rfl rfl Tryz.func49 (by kernel_rfl) rfl #[.agg #[.int .i64 t102, .int .i64 (rd y113 t116), .int .i64 t118, .string (⟨#[]⟩:ByteArray)]] rfl En ?_;(with_reducible refine (federationref1_Norm.calls k t102 (rd y113 t116) t118 (⟨#[]⟩:ByteArray) t119 t120 t121 t122 _ A37.out).mono ?_);rintro e w53 ⟨rfl,hb⟩;refine ⟨_,rfl,?_⟩;replace HO115:=z_ (Kd.R_below (by (with_reducible repeat (first|apply Kd.R_alloc|apply Kd.R_drewN|apply Kd.R_drew));exact (Kd.R_mono (Kd.R_far (p:=⟨gb103,2,none⟩) (Kd.R_far (p:=⟨gb103,1,none⟩) (Kd.R_types HO115.out BK103.out (by decide)) (fun _ hk=>hk.2) (.int .i64 (rd y113 t116))) (fun _ hk=>hk.2) (.int .i64 t118)) (fun _ h_=>h_.1))) hb);replace BK101:=z_ (La (g:=gb101) (o:=.cells #[.int .i64 0, .int .i64 0, .int .i64 0, .string (⟨#[]⟩:ByteArray)] 28 (0,0)) (by (with_reducible repeat first|apply Ad|apply Ac|apply Ae);refine Bd ?_ NB101_103.out _;(with_reducible repeat first|apply Ad|apply Ac|apply Ae);refine Bd ?_ NB101_103.out _;(with_reducible repeat first|apply Ad|apply Ac|apply Ae);exact BK101.out) hb);replace BK103:=z_ (La (g:=gb103) (o:=.cells #[.int .i64 t102, .int .i64 (rd y113 t116), .int .i64 t118, .string (⟨#[]⟩:ByteArray)] 28 (0,0)) (by (with_reducible repeat first|apply Ad|apply Ac|apply Ae);refine Az (cs:=#[.int .i64 t102, .int .i64 (rd y113 t116), .int .i64 0, .string (⟨#[]⟩:ByteArray)]) ?_ 2 _ rfl;(with_reducible repeat first|apply Ad|apply Ac|apply Ae);refine Az (cs:=#[.int .i64 t102, .int .i64 0, .int .i64 0, .string (⟨#[]⟩:ByteArray)]) ?_ 1 _ rfl;(with_reducible repeat first|apply Ad|apply Ac|apply Ae);exact BK103.out) hb);replace HB:=z_ (below_step Gk hb);(try clear hb);(try clear hb2);(try clear hk);(try clear hi);obtain ⟨_,_,_,_,_,_,_,_⟩:=Bj BK103.out;obtain ⟨_,_,_,_,_,_,_,_⟩:=Bj BK101.out))
      refine bodyPost_ret (results_cell_row rfl _ _ gb101 28 #[.int .i64 t119, .int .i64 t120, .int .i64 t121, .string t122] (0,0) _ rfl (by (with_reducible repeat first|apply Ad|apply Ac|apply Ae);refine Az (cs:=#[.int .i64 t119, .int .i64 t120, .int .i64 t121, .string (⟨#[]⟩:ByteArray)]) ?_ 3 _ rfl;(with_reducible repeat first|apply Ad|apply Ac|apply Ae);refine Az (cs:=#[.int .i64 t119, .int .i64 t120, .int .i64 0, .string (⟨#[]⟩:ByteArray)]) ?_ 2 _ rfl;(with_reducible repeat first|apply Ad|apply Ac|apply Ae);refine Az (cs:=#[.int .i64 t119, .int .i64 0, .int .i64 0, .string (⟨#[]⟩:ByteArray)]) ?_ 1 _ rfl;(with_reducible repeat first|apply Ad|apply Ac|apply Ae);refine Az (cs:=#[.int .i64 0, .int .i64 0, .int .i64 0, .string (⟨#[]⟩:ByteArray)]) ?_ 0 _ rfl;(with_reducible repeat first|apply Ad|apply Ac|apply Ae);refine Bd ?_ NB101_103.out _;(with_reducible repeat first|apply Ad|apply Ac|apply Ae);refine Bd ?_ NB101_103.out _;(with_reducible repeat first|apply Ad|apply Ac|apply Ae);refine Bd ?_ NB101_103.out _;(with_reducible repeat first|apply Ad|apply Ac|apply Ae);refine Bd ?_ NB101_103.out _;(with_reducible repeat first|apply Ad|apply Ac|apply Ae);exact BK101.out) Tryz.underlying28 rfl (by kernel_rfl)) rfl ?_
      exact ⟨by first|rfl|(simp [errW_none,errW_some] <;> rfl)|(simp [*,errW_none,errW_some] <;> rfl),by repeat first|(with_reducible first|exact HB.out|apply zA|apply zN|apply z1|refine zS ?_ GE101.out|refine zS ?_ GE103.out)|exact HB.out⟩
     ·rw [if_neg c35] at H
      exact absurd H (by simp)
    ·rw [if_neg c34] at H
     exact absurd H (by simp)
   ·rw [if_neg c30] at H
    have c30b0:(t102 == 3) = false:=beq_eq_false_iff_ne.mpr c30
    have c30b1:(t102 != 3) = true:=bne_iff_ne.mpr c30
    by_cases c56:t102 = 4
    ·rw [if_pos c56] at H
     exact absurd H (by simp)
    ·rw [if_neg c56] at H
     have c56b0:(t102 == 4) = false:=beq_eq_false_iff_ne.mpr c56
     have c56b1:(t102 != 4) = true:=bne_iff_ne.mpr c56
     by_cases c57:t102 = 5
     ·rw [if_pos c57] at H
      have c57b0:(t102 == 5) = true:=beq_iff_eq.mpr c57
      have c57b1:(t102 != 5) = false:=bne_eq_false_iff_eq.mpr c57
      clear c57
      obtain ⟨ji58,hji58⟩:∃ j_:Int,(mn (a2.size:Int) 40) = j_:=⟨_,rfl⟩
      replace H:(if 0 ≤ (ji58) then (if (ji58) ≤ (a2.size:Int) then (some (t102,0,0,a2.extract 0 ((ji58):Int).toNat)) else (none)) else (none)) = some (r1,r2,r3,r4):=by first|(rw [hji58] at H;exact H)|(simp only [hji58] at H ⊢;exact H)
      (try rw [hji58] at A4)
      (try (have hji58h:ji58 ≤ 40:=by (rw [← hji58];unfold mn;(repeat' split) <;> omega)))
      (try (have hji58g:ji58 ≤ 64:=by omega))
      (try (have hji58l:0 ≤ ji58:=by (rw [← hji58];unfold mn;(repeat' split) <;> omega)))
      (try (have hji58m:0 ≤ ji58:=by omega))
      have hji58_:(if 40 < (a2.size:Int) then 40 else (a2.size:Int)) = ji58:=hji58
      by_cases c59:0 ≤ (ji58)
      ·rw [if_pos c59] at H
       have c59b0:=eq_true c59
       have c59b1:decide (0 ≤ (ji58)) = true:=decide_eq_true c59
       clear c59
       by_cases c60:(ji58) ≤ (a2.size:Int)
       ·rw [if_pos c60] at H
        have c60b0:=eq_true c60
        have c60b1:decide ((ji58) ≤ (a2.size:Int)) = true:=decide_eq_true c60
        clear c60
        simp only [Option.some.injEq,Prod.mk.injEq] at H
        obtain ⟨rfl,rfl,rfl,rfl⟩:=H
        go_enter Tryz.func22,Tryz.ntmps22
        go_wp2_with (first|((with_reducible refine gate_dst (N:=6) rfl ?_);refine box_event (by rfl) (N:=6) (by rfl) (cs:=#[.int .i64 0, .int .i64 0, .int .i64 0, .string (⟨#[]⟩:ByteArray)]) (t:=28) Da ?_;intro gb101 hg w61 hbox hb;have BK101:=z_ (hbox);have GW101:=z_ ((Dh:w.heap.size ≤ gb101));have GE101:=z_ ((Dh:w.heap.size ≤ gb101));replace HB:=z_ (below_step Fe hb);clear hb hbox hg)|((with_reducible refine gate_callee (f:=48) rfl ?_);refine goesL_ (some 11) rfl rfl Tryz.func48 (by kernel_rfl) rfl #[.int .i64 a0, .int .i64 6] rfl En ?_;(with_reducible refine (federationlaw1_within.calls a0 6 t102 _ A4.out).mono ?_);rintro e w' ⟨rfl,⟨nd,rfl⟩⟩;refine ⟨_,rfl,?_⟩;(try (rw [drewN_self w61];generalize hq_:World.drewN w61 _ = w61;have n0_:Aside0 (w61.heap[gb101]? = some (.cells #[.int .i64 0, .int .i64 0, .int .i64 0, .string (⟨#[]⟩:ByteArray)] 28 (0,0))):=⟨by rw [← hq_];exact Fv⟩;have n1_:Aside0 (Below w.heap.size w w61):=⟨by rw [← hq_];exact Fg⟩;clear BK101 HB hq_;have BK101:=n0_;have HB:=n1_;clear n0_ n1_));(try have hcu62_0:w61.cell? ⟨gb101,0,none⟩ = some (.int .i64 0):=(Ba BK101.out 0).trans rfl);(try have hcu62_1:w61.cell? ⟨gb101,1,none⟩ = some (.int .i64 0):=(Ba BK101.out 1).trans rfl);(try have hcu62_2:w61.cell? ⟨gb101,2,none⟩ = some (.int .i64 0):=(Ba BK101.out 2).trans rfl);(try have hcu62_3:w61.cell? ⟨gb101,3,none⟩ = some (.string (⟨#[]⟩:ByteArray)):=(Ba BK101.out 3).trans rfl);(try have hfu62_0:=B2 BK101.out 0);(try have hfu62_1:=B2 BK101.out 1);(try have hfu62_2:=B2 BK101.out 2);(try have hfu62_3:=B2 BK101.out 3))|((with_reducible refine gate_dst (N:=7) rfl ?_);refine box_event (by rfl) (N:=7) (by rfl) (cs:=#[.int .i64 0, .int .i64 0, .int .i64 0, .string (⟨#[]⟩:ByteArray)]) (t:=28) Da ?_;intro gb103 hg w63 hbox hb;have BK103:=z_ (hbox);have GW103:=z_ ((Do:w.heap.size ≤ gb103));have GE103:=z_ ((Do:w.heap.size ≤ gb103));replace HB:=z_ (below_step Fg hb);have NB101_103:=z_ ((Vd:gb101 ≠ gb103));have NB103_101:=z_ ((Vi:gb103 ≠ gb101));replace BK101:=z_ (zk BK101.out hb);clear hb hbox hg;have hnb64:=NB103_101.out;have hnc64:=NB101_103.out;obtain ⟨_,_,_,_,_,_,_,_⟩:=Bj BK103.out;obtain ⟨_,_,_,_,_,_,_,_⟩:=Bj BK101.out))
        refine bodyPost_ret (results_cell_row rfl _ _ gb101 28 #[.int .i64 t102, .int .i64 0, .int .i64 0, .string (a2.extract 0 ((ji58):Int).toNat)] (0,0) _ rfl (by (with_reducible repeat first|apply Ad|apply Ac|apply Ae);refine Az (cs:=#[.int .i64 t102, .int .i64 0, .int .i64 0, .string (⟨#[]⟩:ByteArray)]) ?_ 3 _ rfl;(with_reducible repeat first|apply Ad|apply Ac|apply Ae);refine Az (cs:=#[.int .i64 t102, .int .i64 0, .int .i64 0, .string (⟨#[]⟩:ByteArray)]) ?_ 2 _ rfl;(with_reducible repeat first|apply Ad|apply Ac|apply Ae);refine Az (cs:=#[.int .i64 t102, .int .i64 0, .int .i64 0, .string (⟨#[]⟩:ByteArray)]) ?_ 1 _ rfl;(with_reducible repeat first|apply Ad|apply Ac|apply Ae);refine Az (cs:=#[.int .i64 0, .int .i64 0, .int .i64 0, .string (⟨#[]⟩:ByteArray)]) ?_ 0 _ rfl;(with_reducible repeat first|apply Ad|apply Ac|apply Ae);refine Bd ?_ NB101_103.out _;(with_reducible repeat first|apply Ad|apply Ac|apply Ae);refine Bd ?_ NB101_103.out _;(with_reducible repeat first|apply Ad|apply Ac|apply Ae);refine Bd ?_ NB101_103.out _;(with_reducible repeat first|apply Ad|apply Ac|apply Ae);refine Bd ?_ NB101_103.out _;(with_reducible repeat first|apply Ad|apply Ac|apply Ae);refine Bd ?_ NB101_103.out _;(with_reducible repeat first|apply Ad|apply Ac|apply Ae);exact BK101.out) Tryz.underlying28 rfl (by kernel_rfl)) rfl ?_
        exact ⟨by first|rfl|(simp [errW_none,errW_some] <;> rfl)|(simp only [← hji58];first|rfl|(simp [errW_none,errW_some] <;> rfl))|(simp [*,errW_none,errW_some] <;> rfl),by repeat first|(with_reducible first|exact HB.out|apply zA|apply zN|apply z1|refine zS ?_ GE101.out|refine zS ?_ GE103.out)|exact HB.out⟩
       ·rw [if_neg c60] at H
        exact absurd H (by simp)
      ·rw [if_neg c59] at H
       exact absurd H (by simp)
     ·rw [if_neg c57] at H
      have c57b0:(t102 == 5) = false:=beq_eq_false_iff_ne.mpr c57
      have c57b1:(t102 != 5) = true:=bne_iff_ne.mpr c57
      simp only [Option.some.injEq,Prod.mk.injEq] at H
      obtain ⟨rfl,rfl,rfl,rfl⟩:=H
      go_enter Tryz.func22,Tryz.ntmps22
      go_wp2_with (first|((with_reducible refine gate_dst (N:=6) rfl ?_);refine box_event (by rfl) (N:=6) (by rfl) (cs:=#[.int .i64 0, .int .i64 0, .int .i64 0, .string (⟨#[]⟩:ByteArray)]) (t:=28) Da ?_;intro gb101 hg w67 hbox hb;have BK101:=z_ (hbox);have GW101:=z_ ((Dh:w.heap.size ≤ gb101));have GE101:=z_ ((Dh:w.heap.size ≤ gb101));replace HB:=z_ (below_step Fe hb);clear hb hbox hg)|((with_reducible refine gate_callee (f:=48) rfl ?_);refine goesL_ (some 11) rfl rfl Tryz.func48 (by kernel_rfl) rfl #[.int .i64 a0, .int .i64 6] rfl En ?_;(with_reducible refine (federationlaw1_within.calls a0 6 t102 _ A4.out).mono ?_);rintro e w' ⟨rfl,⟨nd,rfl⟩⟩;refine ⟨_,rfl,?_⟩;(try (rw [drewN_self w67];generalize hq_:World.drewN w67 _ = w67;have n0_:Aside0 (w67.heap[gb101]? = some (.cells #[.int .i64 0, .int .i64 0, .int .i64 0, .string (⟨#[]⟩:ByteArray)] 28 (0,0))):=⟨by rw [← hq_];exact Fv⟩;have n1_:Aside0 (Below w.heap.size w w67):=⟨by rw [← hq_];exact Fg⟩;clear BK101 HB hq_;have BK101:=n0_;have HB:=n1_;clear n0_ n1_));(try have hcu68_0:w67.cell? ⟨gb101,0,none⟩ = some (.int .i64 0):=(Ba BK101.out 0).trans rfl);(try have hcu68_1:w67.cell? ⟨gb101,1,none⟩ = some (.int .i64 0):=(Ba BK101.out 1).trans rfl);(try have hcu68_2:w67.cell? ⟨gb101,2,none⟩ = some (.int .i64 0):=(Ba BK101.out 2).trans rfl);(try have hcu68_3:w67.cell? ⟨gb101,3,none⟩ = some (.string (⟨#[]⟩:ByteArray)):=(Ba BK101.out 3).trans rfl);(try have hfu68_0:=B2 BK101.out 0);(try have hfu68_1:=B2 BK101.out 1);(try have hfu68_2:=B2 BK101.out 2);(try have hfu68_3:=B2 BK101.out 3))|((with_reducible refine gate_dst (N:=7) rfl ?_);refine box_event (by rfl) (N:=7) (by rfl) (cs:=#[.int .i64 0, .int .i64 0, .int .i64 0, .string (⟨#[]⟩:ByteArray)]) (t:=28) Da ?_;intro gb103 hg w69 hbox hb;have BK103:=z_ (hbox);have GW103:=z_ ((Do:w.heap.size ≤ gb103));have GE103:=z_ ((Do:w.heap.size ≤ gb103));replace HB:=z_ (below_step Fg hb);have NB101_103:=z_ ((Vd:gb101 ≠ gb103));have NB103_101:=z_ ((Vi:gb103 ≠ gb101));replace BK101:=z_ (zk BK101.out hb);clear hb hbox hg;have hnb70:=NB103_101.out;have hnc70:=NB101_103.out;obtain ⟨_,_,_,_,_,_,_,_⟩:=Bj BK103.out;obtain ⟨_,_,_,_,_,_,_,_⟩:=Bj BK101.out))
      refine bodyPost_ret (results_cell_row rfl _ _ gb101 28 #[.int .i64 t102, .int .i64 0, .int .i64 0, .string (⟨#[]⟩:ByteArray)] (0,0) _ rfl (by (with_reducible repeat first|apply Ad|apply Ac|apply Ae);refine Az (cs:=#[.int .i64 t102, .int .i64 0, .int .i64 0, .string (⟨#[]⟩:ByteArray)]) ?_ 3 _ rfl;(with_reducible repeat first|apply Ad|apply Ac|apply Ae);refine Az (cs:=#[.int .i64 t102, .int .i64 0, .int .i64 0, .string (⟨#[]⟩:ByteArray)]) ?_ 2 _ rfl;(with_reducible repeat first|apply Ad|apply Ac|apply Ae);refine Az (cs:=#[.int .i64 t102, .int .i64 0, .int .i64 0, .string (⟨#[]⟩:ByteArray)]) ?_ 1 _ rfl;(with_reducible repeat first|apply Ad|apply Ac|apply Ae);refine Az (cs:=#[.int .i64 0, .int .i64 0, .int .i64 0, .string (⟨#[]⟩:ByteArray)]) ?_ 0 _ rfl;(with_reducible repeat first|apply Ad|apply Ac|apply Ae);refine Bd ?_ NB101_103.out _;(with_reducible repeat first|apply Ad|apply Ac|apply Ae);refine Bd ?_ NB101_103.out _;(with_reducible repeat first|apply Ad|apply Ac|apply Ae);refine Bd ?_ NB101_103.out _;(with_reducible repeat first|apply Ad|apply Ac|apply Ae);refine Bd ?_ NB101_103.out _;(with_reducible repeat first|apply Ad|apply Ac|apply Ae);exact BK101.out) Tryz.underlying28 rfl (by kernel_rfl)) rfl ?_
      exact ⟨by first|rfl|(simp [errW_none,errW_some] <;> rfl)|(simp [*,errW_none,errW_some] <;> rfl),by repeat first|(with_reducible first|exact HB.out|apply zA|apply zN|apply z1|refine zS ?_ GE101.out|refine zS ?_ GE103.out)|exact HB.out⟩
def conv8 (x:Int):Int:=32 + x % 95
def conv8L (s:ByteArray):List Int:=s.data.toList.map fun b=>conv8 (b.toNat:Int)
def origL (s:ByteArray):List Int:=s.data.toList.map fun b=>(b.toNat:Int)
def mkText (s:ByteArray):ByteArray:=strOfNums ((conv8L s).take 40)
def BufAt (w:World) (G:Nat) (l:List Int):Prop:=∃ cur:Array Value,∃ m:Nat,w.heap[G]? = some (.cells cur 5 (m,m + 1)) ∧ l.length ≤ m ∧ m = cur.size ∧ ∀ j,j < l.length → cur[j]? = some (.int .u8 (l.getD j 0))
theorem BufAt.cell {w:World} {G:Nat} {l:List Int} (h:BufAt w G l) (j:Nat) (hj:j < l.length):w.cell? ⟨G,j,none⟩ = some (.int .u8 (l.getD j 0)):=by
 obtain ⟨cur,m,h1,h2,h3,h4⟩:=h
 simp [World.cell?,h1,h4 j hj]
theorem BufAt.frozen {w:World} {G:Nat} {l:List Int} (h:BufAt w G l) (j:Nat) (hj:j < l.length):w.frozen? ⟨G,j,none⟩ = false:=by
 obtain ⟨cur,m,h1,h2,h3,h4⟩:=h
 simp [World.frozen?,h1];omega
theorem BufAt.set {w:World} {G:Nat} {l:List Int} (h:BufAt w G l) (j:Nat) (x:Int):BufAt (w.setCell ⟨G,j,none⟩ (.int .u8 x)) G (l.set j x):=by
 obtain ⟨cur,m,h1,h2,h3,h4⟩:=h
 refine ⟨cur.setIfInBounds j (.int .u8 x),m,?_,by simpa using h2,by simpa using h3,?_⟩
 ·simp [World.setCell,Array.getElem?_modify,h1]
 ·intro i hi
  rw [List.length_set] at hi
  rw [Array.getElem?_setIfInBounds]
  by_cases e:j = i
  ·subst e
   rw [if_pos rfl,if_pos (by omega)]
   simp [List.getD,hi]
  ·rw [if_neg e,h4 i hi]
   simp [List.getD,List.getElem?_set_ne e]
theorem BufAt.drewN {w:World} {G:Nat} {l:List Int} (h:BufAt w G l) (n:Nat):BufAt (w.drewN n) G l:=by
 obtain ⟨cur,m,h1,h⟩:=h
 exact ⟨cur,m,by simpa using h1,h⟩
theorem BufAt.lt {w:World} {G:Nat} {l:List Int} (h:BufAt w G l):G < w.heap.size:=by
 obtain ⟨cur,m,h1,h⟩:=h
 exact (Array.getElem?_eq_some_iff.1 h1).1
theorem BufAt.init (w:World) (s:ByteArray):BufAt (Lib.bytesWorld w 5 s) w.heap.size (origL s):=by
 have hl:(origL s).length = s.size:=by simp [origL]
 refine ⟨_,_,Lib.bytesWorld_at_new w 5 s,?_,rfl,?_⟩
 ·rw [hl]
  simp [Lib.bytesCells]
 ·intro j hj
  rw [hl] at hj
  have hj':j < s.data.size:=hj
  simp [Lib.bytesCells,Array.getElem?_append,hj,hj',origL,List.getD]
theorem below_bytesWorld {base:Nat} {w0 w:World} (h:Below base w0 w) (hb:base ≤ w.heap.size) (e:TypeId) (s:ByteArray):Below base w0 (Lib.bytesWorld w e s):=by
 refine h.trans ⟨?_,?_,?_,?_,?_⟩
 ·simp [Lib.bytesWorld,World.freeze,World.alloc,World.drew,-World.alloc_eq,-World.drew_eq]
 ·simp [Lib.bytesWorld,World.freeze,World.alloc,World.drew,-World.alloc_eq,-World.drew_eq]
 ·simp [Lib.bytesWorld,World.freeze,World.alloc,World.drew,-World.alloc_eq,-World.drew_eq]
 ·rw [Lib.bytesWorld_size];omega
 ·intro k hk;exact Lib.bytesWorld_at_old w e s k (by omega)
theorem wrapInt_byte {x:Int} (h0:0 ≤ x) (h1:x < 256):federationlaw1_within.f x 95 = some (x % 95):=by
 unfold federationlaw1_within.f
 rw [if_neg (by omega),Int.tmod_eq_emod_of_nonneg h0,if_neg (by omega)]
theorem origL_length (s:ByteArray):(origL s).length = s.size:=by simp [origL]
theorem conv8L_length (s:ByteArray):(conv8L s).length = s.size:=by simp [conv8L]
def midL (s:ByteArray) (k:Nat):List Int:=(conv8L s).take k ++ (origL s).drop k
theorem midL_length (s:ByteArray) (k:Nat) (h:k ≤ s.size):(midL s k).length = s.size:=by
 simp [midL,origL_length,conv8L_length];omega
theorem midL_zero (s:ByteArray):midL s 0 = origL s:=by simp [midL]
theorem midL_all (s:ByteArray):midL s s.size = conv8L s:=by
 unfold midL
 rw [List.take_of_length_le (by rw [conv8L_length];exact Nat.le_refl _),List.drop_of_length_le (by rw [origL_length];exact Nat.le_refl _),List.append_nil]
theorem midL_at (s:ByteArray) (k:Nat) (h:k < s.size):(midL s k).getD k 0 = (s.data[k]'h).toNat:=by
 have h':k < s.data.size:=h
 have e:((conv8L s).take k).length = k:=by rw [List.length_take,conv8L_length];omega
 unfold midL List.getD
 rw [List.getElem?_append_right (by omega),e,Nat.sub_self,List.getElem?_drop]
 simp only [origL,Nat.add_zero,List.getElem?_map,Array.getElem?_toList,Array.getElem?_eq_getElem h']
 rfl
theorem heap_new {w:World} (o:Obj) {n:Nat} (h:n = w.heap.size):(w.alloc o).heap[n]? = some o:=by subst h;simp [World.alloc,-World.alloc_eq]
theorem midL_succ (s:ByteArray) (k:Nat) (h:k < s.size):midL s (k + 1) = (midL s k).set k (conv8 ((s.data[k]'h).toNat:Int)):=by
 have h':k < s.data.size:=h
 apply List.ext_getElem?
 intro i
 unfold midL
 rw [List.getElem?_set]
 by_cases e:k = i
 ·subst e
  rw [if_pos rfl,if_pos (by rw [show (conv8L s).take k ++ (origL s).drop k = midL s k from rfl,midL_length s k (by omega)];exact h)]
  rw [List.getElem?_append_left (by simp [conv8L];omega)]
  simp only [conv8L,List.getElem?_take_of_lt (show k < k + 1 by omega),List.getElem?_map,Array.getElem?_toList,Array.getElem?_eq_getElem h']
  rfl
 ·rw [if_neg e]
  by_cases e2:i < k
  ·rw [List.getElem?_append_left (by simp [conv8L];omega),List.getElem?_append_left (by simp [conv8L];omega)]
   rw [List.getElem?_take_of_lt (by omega),List.getElem?_take_of_lt (by omega)]
  ·rw [List.getElem?_append_right (by simp [conv8L];omega),List.getElem?_append_right (by simp [conv8L];omega)]
   simp only [List.length_take,conv8L_length,List.getElem?_drop]
   congr 1
   omega
set_option maxHeartbeats 1000000 in
theorem Make_text (a0 a1:Int) (s:ByteArray) (w:World) (hk:federationlaw1_within.f a0 6 = some 4) (hs:s.size ≤ 140737488351232) :
  Calls Tryz.prog 22 #[.int .i64 a0, .int .i64 a1, .string s] w fun e w'=>e = .returned (.agg #[.int .i64 4, .int .i64 0, .int .i64 0, .string (mkText s)]) ∧ Below w.heap.size w w':=by
 have HK:=z_ hk
 clear hk
 have hcv:=fun w=>Lib.run_convert_string_bytes (P:=Tryz.prog) w 9 62 5 s Tryz.underlying9 Tryz.underlying62 Tryz.underlying5
 go_enter Tryz.func22,Tryz.ntmps22
 go_wp2_with (first|(go_at_call 48;(with_reducible refine (federationlaw1_within.calls a0 6 4 _ HK.out).mono ?_);rintro e w' ⟨rfl,⟨nd,rfl⟩⟩))
 clear hcv
 generalize hW:Lib.bytesWorld _ _ _ = W1
 have hcp:=fun W:World=>grownCap_ge W s.size 0 5
 have hcm:=fun W:World=>grownCap_le_maxLen W s.size 0 5 (by unfold maxLen;omega)
 generalize hG:grownCap _ _ _ _ = cp
 replace hcp:=hG ▸ hcp _
 replace hcm:=hG ▸ hcm _
 clear hG
 have HB:Aside0 (Below w.heap.size w W1):=⟨by subst hW;exact below_bytesWorld (zA (zN (zA (Below.refl _ _) _) _) _) (by simp;omega) _ _⟩
 have HR:Aside0 (BufAt W1 (w.heap.size + 1 + 1) (midL s 0)):=⟨by subst hW;rw [midL_zero];have:=BufAt.init (((w.alloc (Obj.cells #[Value.int IntKind.i64 0,Value.int IntKind.i64 0,Value.int IntKind.i64 0,Value.string { data:=#[] }] 28)).drewN nd).alloc (Obj.cells #[Value.int IntKind.i64 4,Value.int IntKind.i64 0,Value.int IntKind.i64 0,Value.string { data:=#[] }] 28)) s;simpa using this⟩
 have HV:Aside0 (W1.heap[w.heap.size + 1]? = some (Obj.cells #[Value.int IntKind.i64 4,Value.int IntKind.i64 0,Value.int IntKind.i64 0,Value.string { data:=#[] }] 28 (0,0))):=⟨by subst hW;rw [Lib.bytesWorld_at_old _ _ _ _ (by simp)];exact heap_new _ (by simp)⟩
 have H0:Aside0 (W1.heap[w.heap.size]? = some (Obj.cells #[Value.int IntKind.i64 0,Value.int IntKind.i64 0,Value.int IntKind.i64 0,Value.string { data:=#[] }] 28 (0,0))):=⟨by subst hW;rw [Lib.bytesWorld_at_old _ _ _ _ (by simp;omega)];exact Ae (Ad (heap_new _ rfl) _) _⟩
 clear hW
 unfold maxLen at hcm
 go_loopw [9] (fun i wr=>∃ k:Nat,k ≤ s.size ∧ i = .int .i64 k ∧ Aside0 (Below w.heap.size w wr) ∧ Aside0 (BufAt wr (w.heap.size + 1 + 1) (midL s k)) ∧ Aside0 (wr.heap[w.heap.size + 1]? = some (Obj.cells #[Value.int IntKind.i64 4,Value.int IntKind.i64 0,Value.int IntKind.i64 0,Value.string { data:=#[] }] 28 (0,0))) ∧ Aside0 (wr.heap[w.heap.size]? = some (Obj.cells #[Value.int IntKind.i64 0,Value.int IntKind.i64 0,Value.int IntKind.i64 0,Value.string { data:=#[] }] 28 (0,0)))) (fun i _=>s.size - (intOf i).toNat)
 case atStart=>exact ⟨0,Nat.zero_le _,rfl,HB,HR,HV,H0⟩
 case round =>
  clear HB HR HV H0
  obtain ⟨k,hk,rfl,HB,HR,HV,H0⟩:=hrel
  by_cases hlt:k < s.size
  ·have hc:wr.cell? ⟨w.heap.size + 1 + 1,k,none⟩ = some (.int .u8 ((s.data[k]'hlt).toNat:Int)):=by rw [← midL_at s k hlt];exact HR.out.cell k (by rw [midL_length s k hk];exact hlt)
   have hf:wr.frozen? ⟨w.heap.size + 1 + 1,k,none⟩ = false:=HR.out.frozen k (by rw [midL_length s k hk];exact hlt)
   have hx:=UInt8.toNat_lt (s.data[k]'hlt)
   have HX:Aside0 (BufAt (wr.setCell ⟨w.heap.size + 1 + 1,k,none⟩ (.int .u8 (conv8 ((s.data[k]'hlt).toNat:Int)))) (w.heap.size + 1 + 1) (midL s (k + 1))):=⟨by rw [midL_succ s k hlt];exact HR.out.set k _⟩
   have HC:=z_ (show conv8 ((s.data[k]'hlt).toNat:Int) = 32 + ((s.data[k]'hlt).toNat:Int) % 95 from rfl)
   generalize (s.data[k]'hlt).toNat = x at *
   have hw:Aside0 (federationlaw1_within.f (x:Int) 95 = some ((x:Int) % 95)):=⟨wrapInt_byte (by omega) (by omega)⟩
   go_wp2_with (first|(go_at_call 48;(with_reducible refine (federationlaw1_within.calls (x:Int) 95 ((x:Int) % 95) _ hw.out).mono ?_);rintro e w' ⟨rfl,⟨nd,rfl⟩⟩))
   go_roundw
   case rel =>
    refine ⟨k + 1,by omega,by go_num,?_,?_,?_,?_⟩
    ·exact ⟨zS (zN HB.out _) (by omega)⟩
    ·have h:=HX.out
     rw [HC.out] at h
     first|exact ⟨h⟩|exact ⟨h.drewN _⟩
    ·exact ⟨Bd (Ad HV.out _) (by simp) _⟩
    ·exact ⟨Bd (Ad H0.out _) (by simp;omega) _⟩
   case measure=>simp [intOf];omega
  ·obtain rfl:k = s.size:=by omega
   have h1:(s.size:Int) ≤ (cp:Int):=by omega
   have hv0:=fun i=>Ba HV.out i
   have hv1:=B2 HV.out
   have hz0:=fun i=>Ba H0.out i
   have hz1:=B2 H0.out
   have hm:mkText s = strOfNums ((conv8L s).take (min s.size 40)):=by
    unfold mkText
    by_cases h:s.size ≤ 40
    ·rw [Nat.min_eq_left h,List.take_of_length_le (by rw [conv8L_length];exact h),List.take_of_length_le (by rw [conv8L_length];exact Nat.le_refl _)]
    ·rw [Nat.min_eq_right (by omega)]
   have hrd:∀ i,i < s.size → wr.cell? ⟨w.heap.size + 1 + 1,0 + i,none⟩ = some (.int .u8 ((conv8L s).getD i 0)):=fun i hi=>by
    have:=HR.out.cell i (by rw [midL_length s _ (Nat.le_refl _)];exact hi)
    rw [midL_all] at this
    rw [Nat.zero_add,this]
   have HM:=z_ hm
   clear hm
   by_cases h40:40 < s.size
   ·have h2:(40:Int) ≤ (cp:Int):=by omega
    have h3:(40:Int) < (s.size:Int):=by omega
    have hcv:=run_convert_bytes_arg (P:=Tryz.prog) wr 62 5 Tryz.underlying62 Tryz.underlying5 (w.heap.size + 1 + 1) 0 40 cp ((conv8L s).take 40) (by simp [conv8L_length];omega) (fun i hi=>by
     rw [hrd i (by omega)]
     simp [List.getD,List.getElem?_take_of_lt hi]) 9 Tryz.underlying9
    clear hrd
    go_wp2_with fail
    rw [HM.out,Nat.min_eq_right (by omega)]
    refine bodyPost_ret (results_cell_row rfl _ _ w.heap.size 28 #[.int .i64 4, .int .i64 0, .int .i64 0, .string (strOfNums ((conv8L s).take 40))] (0,0) _ rfl Alj Tryz.underlying28 rfl (by kernel_rfl)) rfl ⟨rfl,?_⟩
    repeat (first|exact HB.out|refine zS ?_ (by simp;done)|refine zS ?_ (by omega))
   ·have h2:(s.size:Int) ≤ (cp:Int):=by omega
    have h3:¬ (40:Int) < (s.size:Int):=by omega
    have hcv:=run_convert_bytes_arg (P:=Tryz.prog) wr 62 5 Tryz.underlying62 Tryz.underlying5 (w.heap.size + 1 + 1) 0 s.size cp (conv8L s) (by simp [conv8L_length]) hrd 9 Tryz.underlying9
    clear hrd
    go_wp2_with fail
    rw [HM.out,Nat.min_eq_left (by omega),List.take_of_length_le (by rw [conv8L_length];exact Nat.le_refl _)]
    refine bodyPost_ret (results_cell_row rfl _ _ w.heap.size 28 #[.int .i64 4, .int .i64 0, .int .i64 0, .string (strOfNums (conv8L s))] (0,0) _ rfl Alj Tryz.underlying28 rfl (by kernel_rfl)) rfl ⟨rfl,?_⟩
    repeat (first|exact HB.out|refine zS ?_ (by simp;done)|refine zS ?_ (by omega))
def federationlaw1_Make.f (k:Nat) (a0 a1:Int) (a2:ByteArray):Option (Int × Int × Int × ByteArray) :=
 if federationlaw1_within.f a0 6 = some 4 then (if a2.size ≤ 140737488351232 then some (4,0,0,mkText a2) else none) else federationlaw1_Make_p.f k a0 a1 a2
theorem federationlaw1_Make.calls (k:Nat) (a0:Int) (a1:Int) (a2:ByteArray) (r1:Int) (r2:Int) (r3:Int) (r4:ByteArray) (w:World) (h:federationlaw1_Make.f k a0 a1 a2 = some (r1,r2,r3,r4)) :
  Calls Tryz.prog 22 #[.int .i64 a0, .int .i64 a1, .string a2] w fun e w'=>e = .returned (.agg #[.int .i64 r1, .int .i64 r2, .int .i64 r3, .string r4]) ∧ Below w.heap.size w w':=by
 unfold federationlaw1_Make.f at h
 by_cases hk:federationlaw1_within.f a0 6 = some 4
 ·rw [if_pos hk] at h
  by_cases hs:a2.size ≤ 140737488351232
  ·rw [if_pos hs] at h
   simp only [Option.some.injEq,Prod.mk.injEq] at h
   obtain ⟨rfl,rfl,rfl,rfl⟩:=h
   exact Make_text a0 a1 a2 w hk hs
  ·rw [if_neg hs] at h
   exact absurd h (by simp)
 ·rw [if_neg hk] at h
  exact federationlaw1_Make_p.calls k a0 a1 a2 r1 r2 r3 r4 w h
end Go.Proofs.YtdlkibeljkapeaaGreatDoor.B
namespace Go.Proofs.YtdlkibeljkapeaaGreatDoor.B
open Go.RowKit Go.Proofs.YtdlkibeljkapeaaGreatDoorW.PrintWords Go.Proofs.YtdlkibeljkapeaaGreatDoorW.PrintLast Go.Proofs.YtdlkibeljkapeaaGreatDoorW.PrintMore
attribute [local go_sem] max2_int min2_int max_two min_two max_three min_three max_four min_four
attribute [local go_sem high] own_gtr own_leq own_geq own_cell_set Option.map_some
set_option linter.unusedVariables false
set_option linter.unusedSimpArgs false
theorem wrap64_of {x:Int} (h0 : -9223372036854775808≤x) (h1:x≤9223372036854775807):wrap64 x=x:=by
 unfold wrap64;omega
def p10 (n:Nat):Int:=(10:Int) ^ n
def red:Int→Nat→Int × Nat
 | n,0=>(n,0)
 | n,s+1=>if n % 10=0 then red (n / 10) s else (n,s+1)
theorem red_zero:∀ s,red 0 s=(0,0)
 | 0=>rfl
 | s+1=>by simp only [red];rw [if_pos (by decide)];exact red_zero s
theorem red_scale:∀ (s:Nat) (n:Int),(red n s).2≤s
 | 0,_=>Nat.le_refl _
 | s+1,n=>by
  simp only [red]
  split
  ·exact Nat.le_succ_of_le (red_scale s _)
  ·exact Nat.le_refl _
theorem red_done:∀ (s:Nat) (n:Int),(red n s).2=0∨(red n s).1 % 10≠0
 | 0,_=>Or.inl rfl
 | s+1,n=>by
  simp only [red]
  split
  ·exact red_done s _
  ·rename_i h;exact Or.inr h
theorem red_abs:∀ (s:Nat) (n:Int),(red n s).1.natAbs≤n.natAbs
 | 0,_=>Nat.le_refl _
 | s+1,n=>by
  simp only [red]
  split
  ·exact Nat.le_trans (red_abs s _) (by omega)
  ·exact Nat.le_refl _
theorem tmod10 (n:Int):(Int.tmod n 10=0)↔n % 10=0:=by
 constructor
 ·intro h;have:=Int.dvd_of_tmod_eq_zero h;omega
 ·intro h;exact Int.tmod_eq_zero_of_dvd (by omega)
theorem tdiv10 (n:Int) (h:n % 10=0):Int.tdiv n 10=n / 10:=by
 rw [Int.tdiv_eq_ediv];split<;>omega
theorem ref_Norm_l0 (st:ByteArray):∀ (s k:Nat) (n:Int),s < k→s≤9223372036854775807→-9223372036854775808≤n→n≤9223372036854775807→federationref1_Norm.l0 k 3 n (s:Int) st=some (3,(red n s).1,((red n s).2:Int),st)
 | 0,k,n,hk,_,_,_=>by
  obtain ⟨k,rfl⟩:∃ m,k=m+1:=⟨k - 1,by omega⟩
  simp only [federationref1_Norm.l0];rw [if_pos trivial,if_neg (by omega)];rfl
 | s+1,k,n,hk,hs,h0,h1=>by
  obtain ⟨k,rfl⟩:∃ m,k=m+1:=⟨k - 1,by omega⟩
  simp only [federationref1_Norm.l0];rw [if_pos trivial,if_pos (by omega)]
  simp only [red]
  by_cases h:n % 10=0
  ·rw [if_pos ((tmod10 n).2 h),if_pos h,tdiv10 n h,wrap64_of (by omega) (by omega),wrap64_of (by omega) (by omega),show ((s+1:Nat):Int) - 1=(s:Int) by omega]
   exact ref_Norm_l0 st s k (n / 10) (by omega) (by omega) (by omega) (by omega)
  ·rw [if_neg (fun e=>h ((tmod10 n).1 e)),if_neg h]
theorem ref_Norm_eq (k s:Nat) (n:Int) (st:ByteArray) (hk:s+2 < k) (hs:s≤9223372036854775807) (h0 : -9223372036854775808≤n) (h1:n≤9223372036854775807):federationref1_Norm.f k 3 n (s:Int) st=some (3,(red n s).1,((red n s).2:Int),st):=by
 obtain ⟨k,rfl⟩:∃ m,k=m+2:=⟨k - 2,by omega⟩
 unfold federationref1_Norm.f
 rw [if_pos rfl]
 simp only [federationref1_Norm.j0,federationref1_Norm.j1]
 by_cases h:n=0
 ·subst h
  rw [red_zero]
  by_cases hs0:(s:Int) > 0
  ·rw [if_pos hs0]
   simp only [beq_self_eq_true,if_true]
   exact ref_Norm_l0 st 0 k 0 (by omega) (by omega) (by omega) (by omega)
  ·rw [if_neg hs0,show (s:Int)=((0:Nat):Int) by omega]
   simp only [Bool.false_eq_true,if_false]
   exact ref_Norm_l0 st 0 k 0 (by omega) (by omega) (by omega) (by omega)
 ·have hl:=ref_Norm_l0 st s k n (by omega) hs h0 h1
  by_cases hs0:(s:Int) > 0
  ·rw [if_pos hs0,if_neg (by simpa using h)];exact hl
  ·rw [if_neg hs0];simp only [Bool.false_eq_true,if_false];exact hl
end Go.Proofs.YtdlkibeljkapeaaGreatDoor.B
namespace Go.Proofs.YtdlkibeljkapeaaGreatDoor.B
open Go.RowKit Go.Proofs.YtdlkibeljkapeaaGreatDoorW.PrintWords Go.Proofs.YtdlkibeljkapeaaGreatDoorW.PrintLast Go.Proofs.YtdlkibeljkapeaaGreatDoorW.PrintMore
attribute [local go_sem] max2_int min2_int max_two min_two max_three min_three max_four min_four
attribute [local go_sem high] own_gtr own_leq own_geq own_cell_set Option.map_some
set_option linter.unusedVariables false
set_option linter.unusedSimpArgs false
def val_printable.l0:Nat → ByteArray → Int → Option (Bool)
 | 0,_,_=>none
 | k + 1,x0,x3=>if x3 < (x0.size:Int) then (if 0 ≤ x3 then (if (bt x0 x3) < 32 then (some false) else (if (bt x0 x3) > 126 then (some false) else (val_printable.l0 k x0 (wrap64 (x3 + 1))))) else (none)) else (some true)
def val_printable.f (k:Nat) (a0:ByteArray):Option (Bool):=val_printable.l0 k a0 0
set_option maxHeartbeats 8000000 in
set_option maxRecDepth 100000 in
theorem val_printable.calls (k:Nat) (a0:ByteArray) (r:Bool) (w:World) (h:val_printable.f k a0 = some r) :
  Calls Tryz.prog 167 #[.string a0] w fun e w'=>e = .returned (.bool r) ∧ Drawn0 w w':=by
 have H:(val_printable.l0 k a0 0) = some r:=h
 clear h
 have H':=z_ H
 clear H
 go_enter Tryz.func167,Tryz.ntmps167
 go_wp2
 go_loopg [3] k (fun kq v3 w'=>∃ (x3_1:Int),v3 = .int .i64 x3_1 ∧ Aside0 (val_printable.l0 kq a0 x3_1 = some r) ∧ Aside0 (kq ≤ k) ∧ Drawn0 w w')
 case atStart=>exact ⟨(0),Hv,H',⟨Nat.le_refl _⟩,by repeat (first|exact Drawn0.refl _|apply Drawn0.step)⟩
 case round =>
  clear H'
  try clear c1
  obtain ⟨x3_1,rfl,HA,HK1,⟨m1,rfl⟩⟩:=hrel
  cases gk with
  | zero=>exact absurd HA.out (by simp [val_printable.l0])
  | succ k1 =>
   have H:=HA.out
   clear HA
   simp only [val_printable.l0] at H
   by_cases c2:x3_1 < (a0.size:Int)
   ·rw [if_pos c2] at H
    have c2b0:decide (x3_1 < (a0.size:Int)) = true:=decide_eq_true c2
    clear c2
    by_cases c3:0 ≤ x3_1
    ·rw [if_pos c3] at H
     have c3b0:decide (0 ≤ x3_1) = true:=decide_eq_true c3
     clear c3
     by_cases c5:(bt a0 x3_1) < 32
     ·rw [if_pos c5] at H
      have c5b0:decide ((bt a0 x3_1) < 32) = true:=decide_eq_true c5
      clear c5
      obtain rfl:=Option.some.inj H
      have p4:0 ≤ (x3_1:Int):=of_decide_eq_true Di
      have q4:x3_1 < (a0.size:Int):=of_decide_eq_true Di
      have hx4:=bt_at a0 x3_1
      replace p4:=eq_true p4
      replace q4:=eq_true q4
      go_wp2
      go_ret
      exact ⟨by first|rfl|(simp;done)|(simp [*];done),by repeat (first|exact Drawn0.refl _|apply Drawn0.step)⟩
     ·rw [if_neg c5] at H
      have c5b0:decide ((bt a0 x3_1) < 32) = false:=decide_eq_false c5
      clear c5
      by_cases c7:(bt a0 x3_1) > 126
      ·rw [if_pos c7] at H
       have c7b0:decide (126 < (bt a0 x3_1)) = true:=decide_eq_true c7
       clear c7
       obtain rfl:=Option.some.inj H
       have p4:0 ≤ (x3_1:Int):=of_decide_eq_true Di
       have q4:x3_1 < (a0.size:Int):=of_decide_eq_true Di
       have hx4:=bt_at a0 x3_1
       replace p4:=eq_true p4
       replace q4:=eq_true q4
       have p6:0 ≤ (x3_1:Int):=of_decide_eq_true Di
       have q6:x3_1 < (a0.size:Int):=of_decide_eq_true Di
       have hx6:=bt_at a0 x3_1
       replace p6:=eq_true p6
       replace q6:=eq_true q6
       go_wp2
       go_ret
       exact ⟨by first|rfl|(simp;done)|(simp [*];done),by repeat (first|exact Drawn0.refl _|apply Drawn0.step)⟩
      ·rw [if_neg c7] at H
       have c7b0:decide (126 < (bt a0 x3_1)) = false:=decide_eq_false c7
       clear c7
       have H':=z_ H
       clear H
       have p4:0 ≤ (x3_1:Int):=of_decide_eq_true Di
       have q4:x3_1 < (a0.size:Int):=of_decide_eq_true Di
       have hx4:=bt_at a0 x3_1
       replace p4:=eq_true p4
       replace q4:=eq_true q4
       have p6:0 ≤ (x3_1:Int):=of_decide_eq_true Di
       have q6:x3_1 < (a0.size:Int):=of_decide_eq_true Di
       have hx6:=bt_at a0 x3_1
       replace p6:=eq_true p6
       replace q6:=eq_true q6
       go_wp2
       go_roundg k1
       case measure=>have:=HK1.out;omega
       case rel=>exact ⟨(wrap64 (x3_1 + 1)),Hv,H',⟨by have:=HK1.out;omega⟩,by repeat (first|exact Drawn0.refl _|apply Drawn0.step)⟩
    ·rw [if_neg c3] at H
     exact absurd H (by simp)
   ·rw [if_neg c2] at H
    have c2b0:decide (x3_1 < (a0.size:Int)) = false:=decide_eq_false c2
    clear c2
    obtain rfl:=Option.some.inj H
    go_wp2
    go_ret
    exact ⟨by first|rfl|(simp;done)|(simp [*];done),by repeat (first|exact Drawn0.refl _|apply Drawn0.step)⟩
end Go.Proofs.YtdlkibeljkapeaaGreatDoor.B
namespace Go.Proofs.YtdlkibeljkapeaaGreatDoor.B
open Go.RowKit Go.Proofs.YtdlkibeljkapeaaGreatDoorW.PrintWords Go.Proofs.YtdlkibeljkapeaaGreatDoorW.PrintLast Go.Proofs.YtdlkibeljkapeaaGreatDoorW.PrintMore
attribute [local go_sem] max2_int min2_int max_two min_two max_three min_three max_four min_four
attribute [local go_sem high] own_gtr own_leq own_geq own_cell_set Option.map_some
set_option linter.unusedVariables false
set_option linter.unusedSimpArgs false
theorem eqA28 (d:Nat) (w:World) (x0 y0:Int) (x1 y1:Int) (x2 y2:Int) (x3 y3:ByteArray) :
  (Op.equalIn (d + 2) 28 (.agg #[.int .i64 x0, .int .i64 x1, .int .i64 x2, .string x3]) (.agg #[.int .i64 y0, .int .i64 y1, .int .i64 y2, .string y3])).run Tryz.prog w = .ok (x0 == y0 && (x1 == y1 && (x2 == y2 && (x3.toList == y3.toList)))) w:=by
 refine eqA_of Tryz.underlying28 (by kernel_rfl) ?_
 refine eqf_cons (by rfl) (by go_simp;rfl) (by go_simp;rfl) (by go_simp) ?_
 refine eqf_cons (by rfl) (by go_simp;rfl) (by go_simp;rfl) (by go_simp) ?_
 refine eqf_cons (by rfl) (by go_simp;rfl) (by go_simp;rfl) (by go_simp) ?_
 exact eqf_last (by rfl) (by go_simp;rfl) (by go_simp;rfl) (by go_simp)
end Go.Proofs.YtdlkibeljkapeaaGreatDoor.B
