-- Written by drive.py and pack.py (programs of this proof's own) through the kit's printer; not trusted: Lean checks it.
import Derived.Test.YtllkhdhanheieaaCValReckons1
import Derived.Test.YtllkhdhanheieaaCValReckons9
import Derived.Test.YtllkhdhanheieaaCValReckons11
namespace Go.Proofs.Ytllkhdhanheieaa.R
open Go.RowKit Go.Proofs.YtllkhdhanheieaaW.PrintWords Go.Proofs.YtllkhdhanheieaaW.PrintLast Go.Proofs.YtllkhdhanheieaaW.PrintMore
attribute [local go_sem] max2_int min2_int max_two min_two max_three min_three max_four min_four
attribute [local go_sem high] own_gtr own_leq own_geq own_cell_set Option.map_some fld23_1
set_option linter.unusedVariables false
set_option linter.unusedSimpArgs false
mutual
def federationref1_Reckon.j0:Nat → Int → Int → Int → Int → ByteArray → Int → Int → Int → ByteArray → Option (Int × Int × Int × ByteArray × Int)
 | 0,_,_,_,_,_,_,_,_,_=>none
 | k + 1,x0,x102000,x102001,x102002,x102003,x103000,x103001,x103002,x103003=>if x0 = 6 then ((federationref1_number.f x102000 x102001 x102002 x102003).bind fun t104=>(if t104 = true then ((federationref1_number.f x103000 x103001 x103002 x103003).bind fun t105=>(federationref1_Reckon.j1 k x0 (!t105) x102000 x102001 x102002 x102003 x103000 x103001 x103002 x103003)) else (federationref1_Reckon.j1 k x0 true x102000 x102001 x102002 x102003 x103000 x103001 x103002 x103003))) else (if x0 = 7 then ((federationref1_number.f x102000 x102001 x102002 x102003).bind fun t106=>(if t106 = true then ((federationref1_number.f x103000 x103001 x103002 x103003).bind fun t107=>(federationref1_Reckon.j1 k x0 (!t107) x102000 x102001 x102002 x102003 x103000 x103001 x103002 x103003)) else (federationref1_Reckon.j1 k x0 true x102000 x102001 x102002 x102003 x103000 x103001 x103002 x103003))) else (if x0 = 8 then ((federationref1_number.f x102000 x102001 x102002 x102003).bind fun t108=>(if t108 = true then ((federationref1_number.f x103000 x103001 x103002 x103003).bind fun t109=>(federationref1_Reckon.j1 k x0 (!t109) x102000 x102001 x102002 x102003 x103000 x103001 x103002 x103003)) else (federationref1_Reckon.j1 k x0 true x102000 x102001 x102002 x102003 x103000 x103001 x103002 x103003))) else (federationref1_Reckon.j1 k x0 true x102000 x102001 x102002 x102003 x103000 x103001 x103002 x103003)))
def federationref1_Reckon.j1:Nat → Int → Bool → Int → Int → Int → ByteArray → Int → Int → Int → ByteArray → Option (Int × Int × Int × ByteArray × Int)
 | 0,_,_,_,_,_,_,_,_,_,_=>none
 | k + 1,x0,x22,x102000,x102001,x102002,x102003,x103000,x103001,x103002,x103003=>if x22 = true then (some (0,0,0,(⟨#[]⟩:ByteArray),5)) else (if x102000 = 0 then (federationref1_Reckon.j2 k x0 true x102000 x102001 x102002 x102003 x103000 x103001 x103002 x103003) else (federationref1_Reckon.j2 k x0 (x103000 == 0) x102000 x102001 x102002 x102003 x103000 x103001 x103002 x103003))
def federationref1_Reckon.j2:Nat → Int → Bool → Int → Int → Int → ByteArray → Int → Int → Int → ByteArray → Option (Int × Int × Int × ByteArray × Int)
 | 0,_,_,_,_,_,_,_,_,_,_=>none
 | k + 1,x0,x44,x102000,x102001,x102002,x102003,x103000,x103001,x103002,x103003=>if x44 = true then (some (0,0,0,(⟨#[]⟩:ByteArray),0)) else (if x102000 = x103000 then (if x102000 = 2 then ((federationref1_ints.f x0 x102001 x103001).bind fun bt110=>(some (bt110.1,bt110.2.1,bt110.2.2.1,bt110.2.2.2.1,bt110.2.2.2.2))) else ((federationref1_decs.f k x0 x102000 x102001 x102002 x102003 x103000 x103001 x103002 x103003).bind fun bt115=>(some (bt115.1,bt115.2.1,bt115.2.2.1,bt115.2.2.2.1,bt115.2.2.2.2)))) else (some (0,0,0,(⟨#[]⟩:ByteArray),5)))
end
def federationref1_Reckon.f (k:Nat) (a0:Int) (a1_0:Int) (a1_1:Int) (a1_2:Int) (a1_3:ByteArray) (a2_0:Int) (a2_1:Int) (a2_2:Int) (a2_3:ByteArray):Option (Int × Int × Int × ByteArray × Int):=if a0 = 4 then (if a1_0 = 2 then (federationref1_Reckon.j0 k 8 a1_0 0 0 (⟨#[]⟩:ByteArray) a1_0 a1_1 a1_2 a1_3) else (if a1_0 = 3 then (federationref1_Reckon.j0 k 8 a1_0 0 0 (⟨#[]⟩:ByteArray) a1_0 a1_1 a1_2 a1_3) else (federationref1_Reckon.j0 k 8 a1_0 a1_1 a1_2 a1_3 a1_0 a1_1 a1_2 a1_3))) else (federationref1_Reckon.j0 k a0 a1_0 a1_1 a1_2 a1_3 a2_0 a2_1 a2_2 a2_3)
set_option maxHeartbeats 8000000 in
set_option maxRecDepth 100000 in
theorem federationref1_Reckon.calls (k:Nat) (a0:Int) (a1_0:Int) (a1_1:Int) (a1_2:Int) (a1_3:ByteArray) (a2_0:Int) (a2_1:Int) (a2_2:Int) (a2_3:ByteArray) (r1:Int) (r2:Int) (r3:Int) (r4:ByteArray) (r5:Int) (w:World) (h:federationref1_Reckon.f k a0 a1_0 a1_1 a1_2 a1_3 a2_0 a2_1 a2_2 a2_3 = some (r1,r2,r3,r4,r5)) :
  Calls Try.prog 21 #[.int .i64 a0, .agg #[.int .i64 a1_0, .int .i64 a1_1, .int .i64 a1_2, .string a1_3], .agg #[.int .i64 a2_0, .int .i64 a2_1, .int .i64 a2_2, .string a2_3]] w fun e w'=>e = .returned (.tuple #[.agg #[.int .i64 r1, .int .i64 r2, .int .i64 r3, .string r4], .int .i64 r5]) ∧ Below w.heap.size w w':=by
 have hu23:=Try.underlying23
 have HB:=z_ (Below.refl w.heap.size w)
 have H:(if a0 = 4 then (if a1_0 = 2 then (federationref1_Reckon.j0 k 8 a1_0 0 0 (⟨#[]⟩:ByteArray) a1_0 a1_1 a1_2 a1_3) else (if a1_0 = 3 then (federationref1_Reckon.j0 k 8 a1_0 0 0 (⟨#[]⟩:ByteArray) a1_0 a1_1 a1_2 a1_3) else (federationref1_Reckon.j0 k 8 a1_0 a1_1 a1_2 a1_3 a1_0 a1_1 a1_2 a1_3))) else (federationref1_Reckon.j0 k a0 a1_0 a1_1 a1_2 a1_3 a2_0 a2_1 a2_2 a2_3)) = some (r1,r2,r3,r4,r5):=h
 clear h
 have HC4:=z_ H
 clear H
 go_enter Try.func21,Try.ntmps21
 go_upto_if 9 with (first|((with_reducible refine gate_dst (N:=4) rfl ?_);refine box_event ?hg (N:=4) ?hd (cs:=#[.int .i64 a1_0, .int .i64 a1_1, .int .i64 a1_2, .string a1_3]) (t:=23) ?hr ?_;(case hd=>rfl);(case hg=>rfl);(case hr=>first|(go_simp;done)|(go_simp;rfl));intro gb101 hg w5 hbox hb;have n0_:=z_ (below_step (by repeat first|(with_reducible first|exact HB.out|apply zA|apply zN|apply z1)|exact HB.out) hb);have n1_:=z_ (hbox);have n2_:=z_ ((by rw [hg];exact (zBs (by repeat first|(with_reducible first|exact HB.out|apply zA|apply zN|apply z1)|exact HB.out)):w.heap.size ≤ gb101));have n3_:=z_ ((by rw [hg];exact (zBs (by repeat first|(with_reducible first|exact HB.out|apply zA|apply zN|apply z1)|exact HB.out)):w.heap.size ≤ gb101));clear HB;have HB:=n0_;have BK101:=n1_;have GW101:=n2_;have GE101:=n3_;clear n0_ n1_ n2_ n3_;clear hb hbox hg)|((with_reducible refine gate_dst (N:=5) rfl ?_);refine box_event ?hg (N:=5) ?hd (cs:=#[.int .i64 a2_0, .int .i64 a2_1, .int .i64 a2_2, .string a2_3]) (t:=23) ?hr ?_;(case hd=>rfl);(case hg=>rfl);(case hr=>first|(go_simp;done)|(go_simp;rfl));intro gb102 hg w6 hbox hb;have n0_:=z_ (zbb (g:=gb101) (o:=.cells #[.int .i64 a1_0, .int .i64 a1_1, .int .i64 a1_2, .string a1_3] 23 (0,0)) (by (with_reducible repeat first|apply zbN|apply zb1|apply zbA);exact BK101.out) hb);have n1_:=z_ (below_step (by repeat first|(with_reducible first|exact HB.out|apply zA|apply zN|apply z1|refine zS ?_ GE101.out)|exact HB.out) hb);have n2_:=z_ (hbox);have n3_:=z_ ((by rw [hg];exact (zBs (by repeat first|(with_reducible first|exact HB.out|apply zA|apply zN|apply z1|refine zS ?_ GE101.out)|exact HB.out)):w.heap.size ≤ gb102));have n4_:=z_ ((by rw [hg];exact (zBs (by repeat first|(with_reducible first|exact HB.out|apply zA|apply zN|apply z1|refine zS ?_ GE101.out)|exact HB.out)):w.heap.size ≤ gb102));have n5_:=z_ ((by rw [hg];exact Nat.ne_of_lt (blk_lt (g:=gb101) (o:=.cells #[.int .i64 a1_0, .int .i64 a1_1, .int .i64 a1_2, .string a1_3] 23 (0,0)) (by (with_reducible repeat first|apply zbN|apply zb1|apply zbA);exact BK101.out)):gb101 ≠ gb102));have n6_:=z_ ((by rw [hg];exact Nat.ne_of_gt (blk_lt (g:=gb101) (o:=.cells #[.int .i64 a1_0, .int .i64 a1_1, .int .i64 a1_2, .string a1_3] 23 (0,0)) (by (with_reducible repeat first|apply zbN|apply zb1|apply zbA);exact BK101.out)):gb102 ≠ gb101));clear BK101;clear HB;have BK101:=n0_;have HB:=n1_;have BK102:=n2_;have GW102:=n3_;have GE102:=n4_;have NB101_102:=n5_;have NB102_101:=n6_;clear n0_ n1_ n2_ n3_ n4_ n5_ n6_;clear hb hbox hg)|((with_reducible refine gate_dst (N:=6) rfl ?_);refine box_event ?hg (N:=6) ?hd (cs:=#[.int .i64 0, .int .i64 0, .int .i64 0, .string (⟨#[]⟩:ByteArray)]) (t:=23) ?hr ?_;(case hd=>rfl);(case hg=>rfl);(case hr=>first|(go_simp;done)|(go_simp;rfl));intro gb103 hg w7 hbox hb;have n0_:=z_ (zbb (g:=gb101) (o:=.cells #[.int .i64 a1_0, .int .i64 a1_1, .int .i64 a1_2, .string a1_3] 23 (0,0)) (by (with_reducible repeat first|apply zbN|apply zb1|apply zbA);exact BK101.out) hb);have n1_:=z_ (zbb (g:=gb102) (o:=.cells #[.int .i64 a2_0, .int .i64 a2_1, .int .i64 a2_2, .string a2_3] 23 (0,0)) (by (with_reducible repeat first|apply zbN|apply zb1|apply zbA);exact BK102.out) hb);have n2_:=z_ (below_step (by repeat first|(with_reducible first|exact HB.out|apply zA|apply zN|apply z1|refine zS ?_ GE101.out|refine zS ?_ GE102.out)|exact HB.out) hb);have n3_:=z_ (hbox);have n4_:=z_ ((by rw [hg];exact (zBs (by repeat first|(with_reducible first|exact HB.out|apply zA|apply zN|apply z1|refine zS ?_ GE101.out|refine zS ?_ GE102.out)|exact HB.out)):w.heap.size ≤ gb103));have n5_:=z_ ((by rw [hg];exact (zBs (by repeat first|(with_reducible first|exact HB.out|apply zA|apply zN|apply z1|refine zS ?_ GE101.out|refine zS ?_ GE102.out)|exact HB.out)):w.heap.size ≤ gb103));have n6_:=z_ ((by rw [hg];exact Nat.ne_of_lt (blk_lt (g:=gb101) (o:=.cells #[.int .i64 a1_0, .int .i64 a1_1, .int .i64 a1_2, .string a1_3] 23 (0,0)) (by (with_reducible repeat first|apply zbN|apply zb1|apply zbA);exact BK101.out)):gb101 ≠ gb103));have n7_:=z_ ((by rw [hg];exact Nat.ne_of_gt (blk_lt (g:=gb101) (o:=.cells #[.int .i64 a1_0, .int .i64 a1_1, .int .i64 a1_2, .string a1_3] 23 (0,0)) (by (with_reducible repeat first|apply zbN|apply zb1|apply zbA);exact BK101.out)):gb103 ≠ gb101));have n8_:=z_ ((by rw [hg];exact Nat.ne_of_lt (blk_lt (g:=gb102) (o:=.cells #[.int .i64 a2_0, .int .i64 a2_1, .int .i64 a2_2, .string a2_3] 23 (0,0)) (by (with_reducible repeat first|apply zbN|apply zb1|apply zbA);exact BK102.out)):gb102 ≠ gb103));have n9_:=z_ ((by rw [hg];exact Nat.ne_of_gt (blk_lt (g:=gb102) (o:=.cells #[.int .i64 a2_0, .int .i64 a2_1, .int .i64 a2_2, .string a2_3] 23 (0,0)) (by (with_reducible repeat first|apply zbN|apply zb1|apply zbA);exact BK102.out)):gb103 ≠ gb102));clear BK101;clear BK102;clear HB;have BK101:=n0_;have BK102:=n1_;have HB:=n2_;have BK103:=n3_;have GW103:=n4_;have GE103:=n5_;have NB101_103:=n6_;have NB103_101:=n7_;have NB102_103:=n8_;have NB103_102:=n9_;clear n0_ n1_ n2_ n3_ n4_ n5_ n6_ n7_ n8_ n9_;clear hb hbox hg))
 (try simp only [Act.put,List.setIfInBounds_toArray,List.set_cons_zero,List.set_cons_succ])
 go_cut [0] (fun v0 wc=>∃ (kq:Nat) (x0_3:Int) (x102000_3:Int) (x102001_3:Int) (x102002_3:Int) (x102003_3:ByteArray) (x103000_3:Int) (x103001_3:Int) (x103002_3:Int) (x103003_3:ByteArray),v0 = .int .i64 x0_3 ∧ Aside0 (federationref1_Reckon.j0 kq x0_3 x102000_3 x102001_3 x102002_3 x102003_3 x103000_3 x103001_3 x103002_3 x103003_3 = some (r1,r2,r3,r4,r5)) ∧ Aside0 (kq ≤ k) ∧ Aside0 (wc.heap[gb101]? = some (.cells #[.int .i64 x102000_3, .int .i64 x102001_3, .int .i64 x102002_3, .string x102003_3] 23 (0,0))) ∧ Aside0 (wc.heap[gb102]? = some (.cells #[.int .i64 x103000_3, .int .i64 x103001_3, .int .i64 x103002_3, .string x103003_3] 23 (0,0))) ∧ Aside0 (wc.heap[gb103]? = some (.cells #[.int .i64 0, .int .i64 0, .int .i64 0, .string (⟨#[]⟩:ByteArray)] 23 (0,0))) ∧ Aside0 (Below w.heap.size w wc))
 case first =>
  have H:=HC4.out
  clear HC4
  by_cases c8:a0 = 4
  ·rw [if_pos c8] at H
   have c8b0:(a0 == 4) = true:=beq_iff_eq.mpr c8
   have c8b1:(a0 != 4) = false:=bne_eq_false_iff_eq.mpr c8
   clear c8
   (first|rw [c8b0]|(simp only [i64_w,i32_w];rw [c8b0])|skip)
   by_cases c9:a1_0 = 2
   ·rw [if_pos c9] at H
    have c9b0:(a1_0 == 2) = true:=beq_iff_eq.mpr c9
    have c9b1:(a1_0 != 2) = false:=bne_eq_false_iff_eq.mpr c9
    clear c9
    have H':=z_ H
    clear H
    have hnb10:=NB101_102.out
    have hnc10:=NB102_101.out
    have hnb11:=NB101_103.out
    have hnc11:=NB103_101.out
    have hcz12_0:w7.cell? ⟨gb101,0,none⟩ = some (.int .i64 a1_0):=(zce BK101.out 0).trans rfl
    have hcz12_1:w7.cell? ⟨gb101,1,none⟩ = some (.int .i64 a1_1):=(zce BK101.out 1).trans rfl
    have hcz12_2:w7.cell? ⟨gb101,2,none⟩ = some (.int .i64 a1_2):=(zce BK101.out 2).trans rfl
    have hcz12_3:w7.cell? ⟨gb101,3,none⟩ = some (.string a1_3):=(zce BK101.out 3).trans rfl
    have hfz12_0:=zfz BK101.out 0
    have hfz12_1:=zfz BK101.out 1
    have hfz12_2:=zfz BK101.out 2
    have hfz12_3:=zfz BK101.out 3
    have hnb13:=NB102_103.out
    have hnc13:=NB103_102.out
    have hcz14_0:w7.cell? ⟨gb102,0,none⟩ = some (.int .i64 a2_0):=(zce BK102.out 0).trans rfl
    have hcz14_1:w7.cell? ⟨gb102,1,none⟩ = some (.int .i64 a2_1):=(zce BK102.out 1).trans rfl
    have hcz14_2:w7.cell? ⟨gb102,2,none⟩ = some (.int .i64 a2_2):=(zce BK102.out 2).trans rfl
    have hcz14_3:w7.cell? ⟨gb102,3,none⟩ = some (.string a2_3):=(zce BK102.out 3).trans rfl
    have hfz14_0:=zfz BK102.out 0
    have hfz14_1:=zfz BK102.out 1
    have hfz14_2:=zfz BK102.out 2
    have hfz14_3:=zfz BK102.out 3
    go_wp2
    go_meet
    case rel=>exact ⟨_,(8),(a1_0),(0),(0),((⟨#[]⟩:ByteArray)),(a1_0),(a1_1),(a1_2),(a1_3),(by first|rfl|(simp;done)|(simp [*];done)),H',⟨by first|omega|exact Nat.le_refl _⟩,⟨by (with_reducible repeat first|apply zbN|apply zb1|apply zbA);refine zbp (cs:=#[.int .i64 a1_0, .int .i64 0, .int .i64 0, .string a1_3]) ?_ 3 _ rfl;(with_reducible repeat first|apply zbN|apply zb1|apply zbA);refine zbp (cs:=#[.int .i64 a1_0, .int .i64 0, .int .i64 a1_2, .string a1_3]) ?_ 2 _ rfl;(with_reducible repeat first|apply zbN|apply zb1|apply zbA);refine zbp (cs:=#[.int .i64 a1_0, .int .i64 a1_1, .int .i64 a1_2, .string a1_3]) ?_ 1 _ rfl;(with_reducible repeat first|apply zbN|apply zb1|apply zbA);refine zbp (cs:=#[.int .i64 a1_0, .int .i64 a1_1, .int .i64 a1_2, .string a1_3]) ?_ 0 _ rfl;(with_reducible repeat first|apply zbN|apply zb1|apply zbA);refine zbf ?_ NB101_102.out _;(with_reducible repeat first|apply zbN|apply zb1|apply zbA);refine zbf ?_ NB101_102.out _;(with_reducible repeat first|apply zbN|apply zb1|apply zbA);refine zbf ?_ NB101_102.out _;(with_reducible repeat first|apply zbN|apply zb1|apply zbA);refine zbf ?_ NB101_102.out _;(with_reducible repeat first|apply zbN|apply zb1|apply zbA);exact BK101.out⟩,⟨by (with_reducible repeat first|apply zbN|apply zb1|apply zbA);refine zbf ?_ NB102_101.out _;(with_reducible repeat first|apply zbN|apply zb1|apply zbA);refine zbf ?_ NB102_101.out _;(with_reducible repeat first|apply zbN|apply zb1|apply zbA);refine zbf ?_ NB102_101.out _;(with_reducible repeat first|apply zbN|apply zb1|apply zbA);refine zbf ?_ NB102_101.out _;(with_reducible repeat first|apply zbN|apply zb1|apply zbA);refine zbp (cs:=#[.int .i64 a1_0, .int .i64 a1_1, .int .i64 a1_2, .string a2_3]) ?_ 3 _ rfl;(with_reducible repeat first|apply zbN|apply zb1|apply zbA);refine zbp (cs:=#[.int .i64 a1_0, .int .i64 a1_1, .int .i64 a2_2, .string a2_3]) ?_ 2 _ rfl;(with_reducible repeat first|apply zbN|apply zb1|apply zbA);refine zbp (cs:=#[.int .i64 a1_0, .int .i64 a2_1, .int .i64 a2_2, .string a2_3]) ?_ 1 _ rfl;(with_reducible repeat first|apply zbN|apply zb1|apply zbA);refine zbp (cs:=#[.int .i64 a2_0, .int .i64 a2_1, .int .i64 a2_2, .string a2_3]) ?_ 0 _ rfl;(with_reducible repeat first|apply zbN|apply zb1|apply zbA);exact BK102.out⟩,⟨by (with_reducible repeat first|apply zbN|apply zb1|apply zbA);refine zbf ?_ NB103_101.out _;(with_reducible repeat first|apply zbN|apply zb1|apply zbA);refine zbf ?_ NB103_101.out _;(with_reducible repeat first|apply zbN|apply zb1|apply zbA);refine zbf ?_ NB103_101.out _;(with_reducible repeat first|apply zbN|apply zb1|apply zbA);refine zbf ?_ NB103_101.out _;(with_reducible repeat first|apply zbN|apply zb1|apply zbA);refine zbf ?_ NB103_102.out _;(with_reducible repeat first|apply zbN|apply zb1|apply zbA);refine zbf ?_ NB103_102.out _;(with_reducible repeat first|apply zbN|apply zb1|apply zbA);refine zbf ?_ NB103_102.out _;(with_reducible repeat first|apply zbN|apply zb1|apply zbA);refine zbf ?_ NB103_102.out _;(with_reducible repeat first|apply zbN|apply zb1|apply zbA);exact BK103.out⟩,⟨by repeat first|(with_reducible first|exact HB.out|apply zA|apply zN|apply z1|refine zS ?_ GE101.out|refine zS ?_ GE102.out|refine zS ?_ GE103.out)|exact HB.out⟩⟩
   ·rw [if_neg c9] at H
    have c9b0:(a1_0 == 2) = false:=beq_eq_false_iff_ne.mpr c9
    have c9b1:(a1_0 != 2) = true:=bne_iff_ne.mpr c9
    by_cases c15:a1_0 = 3
    ·rw [if_pos c15] at H
     have c15b0:(a1_0 == 3) = true:=beq_iff_eq.mpr c15
     have c15b1:(a1_0 != 3) = false:=bne_eq_false_iff_eq.mpr c15
     clear c15
     have H':=z_ H
     clear H
     have hnb16:=NB101_102.out
     have hnc16:=NB102_101.out
     have hnb17:=NB101_103.out
     have hnc17:=NB103_101.out
     have hcz18_0:w7.cell? ⟨gb101,0,none⟩ = some (.int .i64 a1_0):=(zce BK101.out 0).trans rfl
     have hcz18_1:w7.cell? ⟨gb101,1,none⟩ = some (.int .i64 a1_1):=(zce BK101.out 1).trans rfl
     have hcz18_2:w7.cell? ⟨gb101,2,none⟩ = some (.int .i64 a1_2):=(zce BK101.out 2).trans rfl
     have hcz18_3:w7.cell? ⟨gb101,3,none⟩ = some (.string a1_3):=(zce BK101.out 3).trans rfl
     have hfz18_0:=zfz BK101.out 0
     have hfz18_1:=zfz BK101.out 1
     have hfz18_2:=zfz BK101.out 2
     have hfz18_3:=zfz BK101.out 3
     have hnb19:=NB102_103.out
     have hnc19:=NB103_102.out
     have hcz20_0:w7.cell? ⟨gb102,0,none⟩ = some (.int .i64 a2_0):=(zce BK102.out 0).trans rfl
     have hcz20_1:w7.cell? ⟨gb102,1,none⟩ = some (.int .i64 a2_1):=(zce BK102.out 1).trans rfl
     have hcz20_2:w7.cell? ⟨gb102,2,none⟩ = some (.int .i64 a2_2):=(zce BK102.out 2).trans rfl
     have hcz20_3:w7.cell? ⟨gb102,3,none⟩ = some (.string a2_3):=(zce BK102.out 3).trans rfl
     have hfz20_0:=zfz BK102.out 0
     have hfz20_1:=zfz BK102.out 1
     have hfz20_2:=zfz BK102.out 2
     have hfz20_3:=zfz BK102.out 3
     go_wp2
     go_meet
     case rel=>exact ⟨_,(8),(a1_0),(0),(0),((⟨#[]⟩:ByteArray)),(a1_0),(a1_1),(a1_2),(a1_3),(by first|rfl|(simp;done)|(simp [*];done)),H',⟨by first|omega|exact Nat.le_refl _⟩,⟨by (with_reducible repeat first|apply zbN|apply zb1|apply zbA);refine zbp (cs:=#[.int .i64 a1_0, .int .i64 0, .int .i64 0, .string a1_3]) ?_ 3 _ rfl;(with_reducible repeat first|apply zbN|apply zb1|apply zbA);refine zbp (cs:=#[.int .i64 a1_0, .int .i64 0, .int .i64 a1_2, .string a1_3]) ?_ 2 _ rfl;(with_reducible repeat first|apply zbN|apply zb1|apply zbA);refine zbp (cs:=#[.int .i64 a1_0, .int .i64 a1_1, .int .i64 a1_2, .string a1_3]) ?_ 1 _ rfl;(with_reducible repeat first|apply zbN|apply zb1|apply zbA);refine zbp (cs:=#[.int .i64 a1_0, .int .i64 a1_1, .int .i64 a1_2, .string a1_3]) ?_ 0 _ rfl;(with_reducible repeat first|apply zbN|apply zb1|apply zbA);refine zbf ?_ NB101_102.out _;(with_reducible repeat first|apply zbN|apply zb1|apply zbA);refine zbf ?_ NB101_102.out _;(with_reducible repeat first|apply zbN|apply zb1|apply zbA);refine zbf ?_ NB101_102.out _;(with_reducible repeat first|apply zbN|apply zb1|apply zbA);refine zbf ?_ NB101_102.out _;(with_reducible repeat first|apply zbN|apply zb1|apply zbA);exact BK101.out⟩,⟨by (with_reducible repeat first|apply zbN|apply zb1|apply zbA);refine zbf ?_ NB102_101.out _;(with_reducible repeat first|apply zbN|apply zb1|apply zbA);refine zbf ?_ NB102_101.out _;(with_reducible repeat first|apply zbN|apply zb1|apply zbA);refine zbf ?_ NB102_101.out _;(with_reducible repeat first|apply zbN|apply zb1|apply zbA);refine zbf ?_ NB102_101.out _;(with_reducible repeat first|apply zbN|apply zb1|apply zbA);refine zbp (cs:=#[.int .i64 a1_0, .int .i64 a1_1, .int .i64 a1_2, .string a2_3]) ?_ 3 _ rfl;(with_reducible repeat first|apply zbN|apply zb1|apply zbA);refine zbp (cs:=#[.int .i64 a1_0, .int .i64 a1_1, .int .i64 a2_2, .string a2_3]) ?_ 2 _ rfl;(with_reducible repeat first|apply zbN|apply zb1|apply zbA);refine zbp (cs:=#[.int .i64 a1_0, .int .i64 a2_1, .int .i64 a2_2, .string a2_3]) ?_ 1 _ rfl;(with_reducible repeat first|apply zbN|apply zb1|apply zbA);refine zbp (cs:=#[.int .i64 a2_0, .int .i64 a2_1, .int .i64 a2_2, .string a2_3]) ?_ 0 _ rfl;(with_reducible repeat first|apply zbN|apply zb1|apply zbA);exact BK102.out⟩,⟨by (with_reducible repeat first|apply zbN|apply zb1|apply zbA);refine zbf ?_ NB103_101.out _;(with_reducible repeat first|apply zbN|apply zb1|apply zbA);refine zbf ?_ NB103_101.out _;(with_reducible repeat first|apply zbN|apply zb1|apply zbA);refine zbf ?_ NB103_101.out _;(with_reducible repeat first|apply zbN|apply zb1|apply zbA);refine zbf ?_ NB103_101.out _;(with_reducible repeat first|apply zbN|apply zb1|apply zbA);refine zbf ?_ NB103_102.out _;(with_reducible repeat first|apply zbN|apply zb1|apply zbA);refine zbf ?_ NB103_102.out _;(with_reducible repeat first|apply zbN|apply zb1|apply zbA);refine zbf ?_ NB103_102.out _;(with_reducible repeat first|apply zbN|apply zb1|apply zbA);refine zbf ?_ NB103_102.out _;(with_reducible repeat first|apply zbN|apply zb1|apply zbA);exact BK103.out⟩,⟨by repeat first|(with_reducible first|exact HB.out|apply zA|apply zN|apply z1|refine zS ?_ GE101.out|refine zS ?_ GE102.out|refine zS ?_ GE103.out)|exact HB.out⟩⟩
    ·rw [if_neg c15] at H
     have c15b0:(a1_0 == 3) = false:=beq_eq_false_iff_ne.mpr c15
     have c15b1:(a1_0 != 3) = true:=bne_iff_ne.mpr c15
     have H':=z_ H
     clear H
     have hnb21:=NB101_102.out
     have hnc21:=NB102_101.out
     have hnb22:=NB101_103.out
     have hnc22:=NB103_101.out
     have hcz23_0:w7.cell? ⟨gb101,0,none⟩ = some (.int .i64 a1_0):=(zce BK101.out 0).trans rfl
     have hcz23_1:w7.cell? ⟨gb101,1,none⟩ = some (.int .i64 a1_1):=(zce BK101.out 1).trans rfl
     have hcz23_2:w7.cell? ⟨gb101,2,none⟩ = some (.int .i64 a1_2):=(zce BK101.out 2).trans rfl
     have hcz23_3:w7.cell? ⟨gb101,3,none⟩ = some (.string a1_3):=(zce BK101.out 3).trans rfl
     have hfz23_0:=zfz BK101.out 0
     have hfz23_1:=zfz BK101.out 1
     have hfz23_2:=zfz BK101.out 2
     have hfz23_3:=zfz BK101.out 3
     have hnb24:=NB102_103.out
     have hnc24:=NB103_102.out
     have hcz25_0:w7.cell? ⟨gb102,0,none⟩ = some (.int .i64 a2_0):=(zce BK102.out 0).trans rfl
     have hcz25_1:w7.cell? ⟨gb102,1,none⟩ = some (.int .i64 a2_1):=(zce BK102.out 1).trans rfl
     have hcz25_2:w7.cell? ⟨gb102,2,none⟩ = some (.int .i64 a2_2):=(zce BK102.out 2).trans rfl
     have hcz25_3:w7.cell? ⟨gb102,3,none⟩ = some (.string a2_3):=(zce BK102.out 3).trans rfl
     have hfz25_0:=zfz BK102.out 0
     have hfz25_1:=zfz BK102.out 1
     have hfz25_2:=zfz BK102.out 2
     have hfz25_3:=zfz BK102.out 3
     go_wp2
     go_meet
     case rel=>exact ⟨_,(8),(a1_0),(a1_1),(a1_2),(a1_3),(a1_0),(a1_1),(a1_2),(a1_3),(by first|rfl|(simp;done)|(simp [*];done)),H',⟨by first|omega|exact Nat.le_refl _⟩,⟨by (with_reducible repeat first|apply zbN|apply zb1|apply zbA);refine zbf ?_ NB101_102.out _;(with_reducible repeat first|apply zbN|apply zb1|apply zbA);refine zbf ?_ NB101_102.out _;(with_reducible repeat first|apply zbN|apply zb1|apply zbA);refine zbf ?_ NB101_102.out _;(with_reducible repeat first|apply zbN|apply zb1|apply zbA);refine zbf ?_ NB101_102.out _;(with_reducible repeat first|apply zbN|apply zb1|apply zbA);exact BK101.out⟩,⟨by (with_reducible repeat first|apply zbN|apply zb1|apply zbA);refine zbp (cs:=#[.int .i64 a1_0, .int .i64 a1_1, .int .i64 a1_2, .string a2_3]) ?_ 3 _ rfl;(with_reducible repeat first|apply zbN|apply zb1|apply zbA);refine zbp (cs:=#[.int .i64 a1_0, .int .i64 a1_1, .int .i64 a2_2, .string a2_3]) ?_ 2 _ rfl;(with_reducible repeat first|apply zbN|apply zb1|apply zbA);refine zbp (cs:=#[.int .i64 a1_0, .int .i64 a2_1, .int .i64 a2_2, .string a2_3]) ?_ 1 _ rfl;(with_reducible repeat first|apply zbN|apply zb1|apply zbA);refine zbp (cs:=#[.int .i64 a2_0, .int .i64 a2_1, .int .i64 a2_2, .string a2_3]) ?_ 0 _ rfl;(with_reducible repeat first|apply zbN|apply zb1|apply zbA);exact BK102.out⟩,⟨by (with_reducible repeat first|apply zbN|apply zb1|apply zbA);refine zbf ?_ NB103_102.out _;(with_reducible repeat first|apply zbN|apply zb1|apply zbA);refine zbf ?_ NB103_102.out _;(with_reducible repeat first|apply zbN|apply zb1|apply zbA);refine zbf ?_ NB103_102.out _;(with_reducible repeat first|apply zbN|apply zb1|apply zbA);refine zbf ?_ NB103_102.out _;(with_reducible repeat first|apply zbN|apply zb1|apply zbA);exact BK103.out⟩,⟨by repeat first|(with_reducible first|exact HB.out|apply zA|apply zN|apply z1|refine zS ?_ GE101.out|refine zS ?_ GE102.out|refine zS ?_ GE103.out)|exact HB.out⟩⟩
  ·rw [if_neg c8] at H
   have c8b0:(a0 == 4) = false:=beq_eq_false_iff_ne.mpr c8
   have c8b1:(a0 != 4) = true:=bne_iff_ne.mpr c8
   (first|rw [c8b0]|(simp only [i64_w,i32_w];rw [c8b0])|skip)
   have H':=z_ H
   clear H
   go_wp2
   go_meet
   case rel=>exact ⟨_,(a0),(a1_0),(a1_1),(a1_2),(a1_3),(a2_0),(a2_1),(a2_2),(a2_3),(by first|rfl|(simp;done)|(simp [*];done)),H',⟨by first|omega|exact Nat.le_refl _⟩,⟨by (with_reducible repeat first|apply zbN|apply zb1|apply zbA);exact BK101.out⟩,⟨by (with_reducible repeat first|apply zbN|apply zb1|apply zbA);exact BK102.out⟩,⟨by (with_reducible repeat first|apply zbN|apply zb1|apply zbA);exact BK103.out⟩,⟨by repeat first|(with_reducible first|exact HB.out|apply zA|apply zN|apply z1|refine zS ?_ GE101.out|refine zS ?_ GE102.out|refine zS ?_ GE103.out)|exact HB.out⟩⟩
 case rest =>
  clear HC4
  try clear c1
  try clear c2
  try clear p2
  try clear c8
  try clear c8b0
  try clear c8b1
  try clear c9
  try clear c9b0
  try clear c9b1
  try clear c10
  try clear c11
  try clear c13
  try clear c15
  try clear c15b0
  try clear c15b1
  try clear c16
  try clear c17
  try clear c19
  try clear c21
  try clear c22
  try clear c24
  try clear hcz12_0
  try clear hcz12_1
  try clear hcz12_2
  try clear hcz12_3
  try clear hcz14_0
  try clear hcz14_1
  try clear hcz14_2
  try clear hcz14_3
  try clear hcz18_0
  try clear hcz18_1
  try clear hcz18_2
  try clear hcz18_3
  try clear hcz20_0
  try clear hcz20_1
  try clear hcz20_2
  try clear hcz20_3
  try clear hcz23_0
  try clear hcz23_1
  try clear hcz23_2
  try clear hcz23_3
  try clear hcz25_0
  try clear hcz25_1
  try clear hcz25_2
  try clear hcz25_3
  try clear hfz12_0
  try clear hfz12_1
  try clear hfz12_2
  try clear hfz12_3
  try clear hfz14_0
  try clear hfz14_1
  try clear hfz14_2
  try clear hfz14_3
  try clear hfz18_0
  try clear hfz18_1
  try clear hfz18_2
  try clear hfz18_3
  try clear hfz20_0
  try clear hfz20_1
  try clear hfz20_2
  try clear hfz20_3
  try clear hfz23_0
  try clear hfz23_1
  try clear hfz23_2
  try clear hfz23_3
  try clear hfz25_0
  try clear hfz25_1
  try clear hfz25_2
  try clear hfz25_3
  obtain ⟨kq,x0_3,x102000_3,x102001_3,x102002_3,x102003_3,x103000_3,x103001_3,x103002_3,x103003_3,rfl,HA,HJ3,BK101,BK102,BK103,HB⟩:=hcut
  cases kq with
  | zero=>exact absurd HA.out (by simp [federationref1_Reckon.j0])
  | succ kj3 =>
   have H:=HA.out
   clear HA
   simp only [federationref1_Reckon.j0] at H
   have HC26:=z_ H
   clear H
   go_upto_region 6 with (fail)
   go_cut [22] (fun v22 wc=>∃ (kq:Nat) (x22_25:Bool),v22 = .bool x22_25 ∧ Aside0 (federationref1_Reckon.j1 kq x0_3 x22_25 x102000_3 x102001_3 x102002_3 x102003_3 x103000_3 x103001_3 x103002_3 x103003_3 = some (r1,r2,r3,r4,r5)) ∧ Aside0 (kq ≤ kj3) ∧ Aside0 (wc.heap[gb101]? = some (.cells #[.int .i64 x102000_3, .int .i64 x102001_3, .int .i64 x102002_3, .string x102003_3] 23 (0,0))) ∧ Aside0 (wc.heap[gb102]? = some (.cells #[.int .i64 x103000_3, .int .i64 x103001_3, .int .i64 x103002_3, .string x103003_3] 23 (0,0))) ∧ Aside0 (wc.heap[gb103]? = some (.cells #[.int .i64 0, .int .i64 0, .int .i64 0, .string (⟨#[]⟩:ByteArray)] 23 (0,0))) ∧ Aside0 (Below w.heap.size w wc))
   case first =>
    have H:=HC26.out
    clear HC26
    by_cases c27:x0_3 = 6
    ·rw [if_pos c27] at H
     have c27b0:(x0_3 == 6) = true:=beq_iff_eq.mpr c27
     have c27b1:(x0_3 != 6) = false:=bne_eq_false_iff_eq.mpr c27
     clear c27
     (first|rw [c27b0]|(simp only [i64_w,i32_w];rw [c27b0])|skip)
     replace H:=Option.bind_eq_some_iff.mp H
     obtain ⟨t104,A280,H⟩:=H
     replace H:(if t104 = true then ((federationref1_number.f x103000_3 x103001_3 x103002_3 x103003_3).bind fun t105=>(federationref1_Reckon.j1 kj3 x0_3 (!t105) x102000_3 x102001_3 x102002_3 x102003_3 x103000_3 x103001_3 x103002_3 x103003_3)) else (federationref1_Reckon.j1 kj3 x0_3 true x102000_3 x102001_3 x102002_3 x102003_3 x103000_3 x103001_3 x103002_3 x103003_3)) = some (r1,r2,r3,r4,r5):=H
     have A28:=z_ A280
     clear A280
     by_cases c29:t104 = true
     ·subst c29
      have H1:((federationref1_number.f x103000_3 x103001_3 x103002_3 x103003_3).bind fun t105=>(federationref1_Reckon.j1 kj3 x0_3 (!t105) x102000_3 x102001_3 x102002_3 x102003_3 x103000_3 x103001_3 x103002_3 x103003_3)) = some (r1,r2,r3,r4,r5):=by rw [if_pos rfl] at H;exact H
      clear H
      have H:=H1
      clear H1
      replace H:=Option.bind_eq_some_iff.mp H
      obtain ⟨t105,A300,H⟩:=H
      replace H:(federationref1_Reckon.j1 kj3 x0_3 (!t105) x102000_3 x102001_3 x102002_3 x102003_3 x103000_3 x103001_3 x103002_3 x103003_3) = some (r1,r2,r3,r4,r5):=H
      have A30:=z_ A300
      clear A300
      have H':=z_ H
      clear H
      have hnb31:=NB101_102.out
      have hnc31:=NB102_101.out
      have hnb32:=NB101_103.out
      have hnc32:=NB103_101.out
      have hcz33_0:wc.cell? ⟨gb101,0,none⟩ = some (.int .i64 x102000_3):=(zce BK101.out 0).trans rfl
      have hcz33_1:wc.cell? ⟨gb101,1,none⟩ = some (.int .i64 x102001_3):=(zce BK101.out 1).trans rfl
      have hcz33_2:wc.cell? ⟨gb101,2,none⟩ = some (.int .i64 x102002_3):=(zce BK101.out 2).trans rfl
      have hcz33_3:wc.cell? ⟨gb101,3,none⟩ = some (.string x102003_3):=(zce BK101.out 3).trans rfl
      have hfz33_0:=zfz BK101.out 0
      have hfz33_1:=zfz BK101.out 1
      have hfz33_2:=zfz BK101.out 2
      have hfz33_3:=zfz BK101.out 3
      go_wp2_with (first|(go_at_call 33;(with_reducible refine (federationref1_number.calls x102000_3 x102001_3 x102002_3 x102003_3 true _ A28.out).mono ?_);rintro e w34 ⟨rfl,hb⟩;have n0_:=z_ (zbb (g:=gb101) (o:=.cells #[.int .i64 x102000_3, .int .i64 x102001_3, .int .i64 x102002_3, .string x102003_3] 23 (0,0)) (by (with_reducible repeat first|apply zbN|apply zb1|apply zbA);exact BK101.out) hb);have n1_:=z_ (zbb (g:=gb102) (o:=.cells #[.int .i64 x103000_3, .int .i64 x103001_3, .int .i64 x103002_3, .string x103003_3] 23 (0,0)) (by (with_reducible repeat first|apply zbN|apply zb1|apply zbA);exact BK102.out) hb);have n2_:=z_ (zbb (g:=gb103) (o:=.cells #[.int .i64 0, .int .i64 0, .int .i64 0, .string (⟨#[]⟩:ByteArray)] 23 (0,0)) (by (with_reducible repeat first|apply zbN|apply zb1|apply zbA);exact BK103.out) hb);have n3_:=z_ (below_step (by repeat first|(with_reducible first|exact HB.out|apply zA|apply zN|apply z1|refine zS ?_ GE101.out|refine zS ?_ GE102.out|refine zS ?_ GE103.out)|exact HB.out) hb);clear BK101;clear BK102;clear BK103;clear HB;have BK101:=n0_;have BK102:=n1_;have BK103:=n2_;have HB:=n3_;clear n0_ n1_ n2_ n3_;(try clear hb);(try clear hb2);(try clear hk);(try clear hi);have hnb35:=NB102_103.out;have hnc35:=NB103_102.out;have hcz36_0:w34.cell? ⟨gb102,0,none⟩ = some (.int .i64 x103000_3):=(zce BK102.out 0).trans rfl;have hcz36_1:w34.cell? ⟨gb102,1,none⟩ = some (.int .i64 x103001_3):=(zce BK102.out 1).trans rfl;have hcz36_2:w34.cell? ⟨gb102,2,none⟩ = some (.int .i64 x103002_3):=(zce BK102.out 2).trans rfl;have hcz36_3:w34.cell? ⟨gb102,3,none⟩ = some (.string x103003_3):=(zce BK102.out 3).trans rfl;have hfz36_0:=zfz BK102.out 0;have hfz36_1:=zfz BK102.out 1;have hfz36_2:=zfz BK102.out 2;have hfz36_3:=zfz BK102.out 3)|(go_at_call 33;(with_reducible refine (federationref1_number.calls x103000_3 x103001_3 x103002_3 x103003_3 t105 _ A30.out).mono ?_);rintro e w37 ⟨rfl,hb⟩;have n0_:=z_ (zbb (g:=gb101) (o:=.cells #[.int .i64 x102000_3, .int .i64 x102001_3, .int .i64 x102002_3, .string x102003_3] 23 (0,0)) (by (with_reducible repeat first|apply zbN|apply zb1|apply zbA);exact BK101.out) hb);have n1_:=z_ (zbb (g:=gb102) (o:=.cells #[.int .i64 x103000_3, .int .i64 x103001_3, .int .i64 x103002_3, .string x103003_3] 23 (0,0)) (by (with_reducible repeat first|apply zbN|apply zb1|apply zbA);exact BK102.out) hb);have n2_:=z_ (zbb (g:=gb103) (o:=.cells #[.int .i64 0, .int .i64 0, .int .i64 0, .string (⟨#[]⟩:ByteArray)] 23 (0,0)) (by (with_reducible repeat first|apply zbN|apply zb1|apply zbA);exact BK103.out) hb);have n3_:=z_ (below_step (by repeat first|(with_reducible first|exact HB.out|apply zA|apply zN|apply z1|refine zS ?_ GE101.out|refine zS ?_ GE102.out|refine zS ?_ GE103.out)|exact HB.out) hb);clear BK101;clear BK102;clear BK103;clear HB;have BK101:=n0_;have BK102:=n1_;have BK103:=n2_;have HB:=n3_;clear n0_ n1_ n2_ n3_;(try clear hb);(try clear hb2);(try clear hk);(try clear hi)))
      go_meet
      case rel=>exact ⟨_,(!t105),(by first|rfl|(simp;done)|(simp [*];done)),H',⟨by have:=HJ3.out;first|omega|exact Nat.le_refl _⟩,⟨by (with_reducible repeat first|apply zbN|apply zb1|apply zbA);exact BK101.out⟩,⟨by (with_reducible repeat first|apply zbN|apply zb1|apply zbA);exact BK102.out⟩,⟨by (with_reducible repeat first|apply zbN|apply zb1|apply zbA);exact BK103.out⟩,⟨by repeat first|(with_reducible first|exact HB.out|apply zA|apply zN|apply z1|refine zS ?_ GE101.out|refine zS ?_ GE102.out|refine zS ?_ GE103.out)|exact HB.out⟩⟩
     ·replace c29:=Bool.eq_false_iff.mpr c29
      subst c29
      have H1:(federationref1_Reckon.j1 kj3 x0_3 true x102000_3 x102001_3 x102002_3 x102003_3 x103000_3 x103001_3 x103002_3 x103003_3) = some (r1,r2,r3,r4,r5):=by rw [if_neg (show ¬ (false = true) by decide)] at H;exact H
      clear H
      have H:=H1
      clear H1
      have H':=z_ H
      clear H
      have hnb38:=NB101_102.out
      have hnc38:=NB102_101.out
      have hnb39:=NB101_103.out
      have hnc39:=NB103_101.out
      have hcz40_0:wc.cell? ⟨gb101,0,none⟩ = some (.int .i64 x102000_3):=(zce BK101.out 0).trans rfl
      have hcz40_1:wc.cell? ⟨gb101,1,none⟩ = some (.int .i64 x102001_3):=(zce BK101.out 1).trans rfl
      have hcz40_2:wc.cell? ⟨gb101,2,none⟩ = some (.int .i64 x102002_3):=(zce BK101.out 2).trans rfl
      have hcz40_3:wc.cell? ⟨gb101,3,none⟩ = some (.string x102003_3):=(zce BK101.out 3).trans rfl
      have hfz40_0:=zfz BK101.out 0
      have hfz40_1:=zfz BK101.out 1
      have hfz40_2:=zfz BK101.out 2
      have hfz40_3:=zfz BK101.out 3
      go_wp2_with (first|(go_at_call 33;(with_reducible refine (federationref1_number.calls x102000_3 x102001_3 x102002_3 x102003_3 false _ A28.out).mono ?_);rintro e w41 ⟨rfl,hb⟩;have n0_:=z_ (zbb (g:=gb101) (o:=.cells #[.int .i64 x102000_3, .int .i64 x102001_3, .int .i64 x102002_3, .string x102003_3] 23 (0,0)) (by (with_reducible repeat first|apply zbN|apply zb1|apply zbA);exact BK101.out) hb);have n1_:=z_ (zbb (g:=gb102) (o:=.cells #[.int .i64 x103000_3, .int .i64 x103001_3, .int .i64 x103002_3, .string x103003_3] 23 (0,0)) (by (with_reducible repeat first|apply zbN|apply zb1|apply zbA);exact BK102.out) hb);have n2_:=z_ (zbb (g:=gb103) (o:=.cells #[.int .i64 0, .int .i64 0, .int .i64 0, .string (⟨#[]⟩:ByteArray)] 23 (0,0)) (by (with_reducible repeat first|apply zbN|apply zb1|apply zbA);exact BK103.out) hb);have n3_:=z_ (below_step (by repeat first|(with_reducible first|exact HB.out|apply zA|apply zN|apply z1|refine zS ?_ GE101.out|refine zS ?_ GE102.out|refine zS ?_ GE103.out)|exact HB.out) hb);clear BK101;clear BK102;clear BK103;clear HB;have BK101:=n0_;have BK102:=n1_;have BK103:=n2_;have HB:=n3_;clear n0_ n1_ n2_ n3_;(try clear hb);(try clear hb2);(try clear hk);(try clear hi)))
      go_meet
      case rel=>exact ⟨_,(true),(by first|rfl|(simp;done)|(simp [*];done)),H',⟨by have:=HJ3.out;first|omega|exact Nat.le_refl _⟩,⟨by (with_reducible repeat first|apply zbN|apply zb1|apply zbA);exact BK101.out⟩,⟨by (with_reducible repeat first|apply zbN|apply zb1|apply zbA);exact BK102.out⟩,⟨by (with_reducible repeat first|apply zbN|apply zb1|apply zbA);exact BK103.out⟩,⟨by repeat first|(with_reducible first|exact HB.out|apply zA|apply zN|apply z1|refine zS ?_ GE101.out|refine zS ?_ GE102.out|refine zS ?_ GE103.out)|exact HB.out⟩⟩
    ·rw [if_neg c27] at H
     have c27b0:(x0_3 == 6) = false:=beq_eq_false_iff_ne.mpr c27
     have c27b1:(x0_3 != 6) = true:=bne_iff_ne.mpr c27
     (first|rw [c27b0]|(simp only [i64_w,i32_w];rw [c27b0])|skip)
     by_cases c42:x0_3 = 7
     ·rw [if_pos c42] at H
      have c42b0:(x0_3 == 7) = true:=beq_iff_eq.mpr c42
      have c42b1:(x0_3 != 7) = false:=bne_eq_false_iff_eq.mpr c42
      clear c42
      replace H:=Option.bind_eq_some_iff.mp H
      obtain ⟨t106,A430,H⟩:=H
      replace H:(if t106 = true then ((federationref1_number.f x103000_3 x103001_3 x103002_3 x103003_3).bind fun t107=>(federationref1_Reckon.j1 kj3 x0_3 (!t107) x102000_3 x102001_3 x102002_3 x102003_3 x103000_3 x103001_3 x103002_3 x103003_3)) else (federationref1_Reckon.j1 kj3 x0_3 true x102000_3 x102001_3 x102002_3 x102003_3 x103000_3 x103001_3 x103002_3 x103003_3)) = some (r1,r2,r3,r4,r5):=H
      have A43:=z_ A430
      clear A430
      by_cases c44:t106 = true
      ·subst c44
       have H1:((federationref1_number.f x103000_3 x103001_3 x103002_3 x103003_3).bind fun t107=>(federationref1_Reckon.j1 kj3 x0_3 (!t107) x102000_3 x102001_3 x102002_3 x102003_3 x103000_3 x103001_3 x103002_3 x103003_3)) = some (r1,r2,r3,r4,r5):=by rw [if_pos rfl] at H;exact H
       clear H
       have H:=H1
       clear H1
       replace H:=Option.bind_eq_some_iff.mp H
       obtain ⟨t107,A450,H⟩:=H
       replace H:(federationref1_Reckon.j1 kj3 x0_3 (!t107) x102000_3 x102001_3 x102002_3 x102003_3 x103000_3 x103001_3 x103002_3 x103003_3) = some (r1,r2,r3,r4,r5):=H
       have A45:=z_ A450
       clear A450
       have H':=z_ H
       clear H
       have hnb46:=NB101_102.out
       have hnc46:=NB102_101.out
       have hnb47:=NB101_103.out
       have hnc47:=NB103_101.out
       have hcz48_0:wc.cell? ⟨gb101,0,none⟩ = some (.int .i64 x102000_3):=(zce BK101.out 0).trans rfl
       have hcz48_1:wc.cell? ⟨gb101,1,none⟩ = some (.int .i64 x102001_3):=(zce BK101.out 1).trans rfl
       have hcz48_2:wc.cell? ⟨gb101,2,none⟩ = some (.int .i64 x102002_3):=(zce BK101.out 2).trans rfl
       have hcz48_3:wc.cell? ⟨gb101,3,none⟩ = some (.string x102003_3):=(zce BK101.out 3).trans rfl
       have hfz48_0:=zfz BK101.out 0
       have hfz48_1:=zfz BK101.out 1
       have hfz48_2:=zfz BK101.out 2
       have hfz48_3:=zfz BK101.out 3
       go_wp2_with (first|(go_at_call 33;(with_reducible refine (federationref1_number.calls x102000_3 x102001_3 x102002_3 x102003_3 true _ A43.out).mono ?_);rintro e w49 ⟨rfl,hb⟩;have n0_:=z_ (zbb (g:=gb101) (o:=.cells #[.int .i64 x102000_3, .int .i64 x102001_3, .int .i64 x102002_3, .string x102003_3] 23 (0,0)) (by (with_reducible repeat first|apply zbN|apply zb1|apply zbA);exact BK101.out) hb);have n1_:=z_ (zbb (g:=gb102) (o:=.cells #[.int .i64 x103000_3, .int .i64 x103001_3, .int .i64 x103002_3, .string x103003_3] 23 (0,0)) (by (with_reducible repeat first|apply zbN|apply zb1|apply zbA);exact BK102.out) hb);have n2_:=z_ (zbb (g:=gb103) (o:=.cells #[.int .i64 0, .int .i64 0, .int .i64 0, .string (⟨#[]⟩:ByteArray)] 23 (0,0)) (by (with_reducible repeat first|apply zbN|apply zb1|apply zbA);exact BK103.out) hb);have n3_:=z_ (below_step (by repeat first|(with_reducible first|exact HB.out|apply zA|apply zN|apply z1|refine zS ?_ GE101.out|refine zS ?_ GE102.out|refine zS ?_ GE103.out)|exact HB.out) hb);clear BK101;clear BK102;clear BK103;clear HB;have BK101:=n0_;have BK102:=n1_;have BK103:=n2_;have HB:=n3_;clear n0_ n1_ n2_ n3_;(try clear hb);(try clear hb2);(try clear hk);(try clear hi);have hnb50:=NB102_103.out;have hnc50:=NB103_102.out;have hcz51_0:w49.cell? ⟨gb102,0,none⟩ = some (.int .i64 x103000_3):=(zce BK102.out 0).trans rfl;have hcz51_1:w49.cell? ⟨gb102,1,none⟩ = some (.int .i64 x103001_3):=(zce BK102.out 1).trans rfl;have hcz51_2:w49.cell? ⟨gb102,2,none⟩ = some (.int .i64 x103002_3):=(zce BK102.out 2).trans rfl;have hcz51_3:w49.cell? ⟨gb102,3,none⟩ = some (.string x103003_3):=(zce BK102.out 3).trans rfl;have hfz51_0:=zfz BK102.out 0;have hfz51_1:=zfz BK102.out 1;have hfz51_2:=zfz BK102.out 2;have hfz51_3:=zfz BK102.out 3)|(go_at_call 33;(with_reducible refine (federationref1_number.calls x103000_3 x103001_3 x103002_3 x103003_3 t107 _ A45.out).mono ?_);rintro e w52 ⟨rfl,hb⟩;have n0_:=z_ (zbb (g:=gb101) (o:=.cells #[.int .i64 x102000_3, .int .i64 x102001_3, .int .i64 x102002_3, .string x102003_3] 23 (0,0)) (by (with_reducible repeat first|apply zbN|apply zb1|apply zbA);exact BK101.out) hb);have n1_:=z_ (zbb (g:=gb102) (o:=.cells #[.int .i64 x103000_3, .int .i64 x103001_3, .int .i64 x103002_3, .string x103003_3] 23 (0,0)) (by (with_reducible repeat first|apply zbN|apply zb1|apply zbA);exact BK102.out) hb);have n2_:=z_ (zbb (g:=gb103) (o:=.cells #[.int .i64 0, .int .i64 0, .int .i64 0, .string (⟨#[]⟩:ByteArray)] 23 (0,0)) (by (with_reducible repeat first|apply zbN|apply zb1|apply zbA);exact BK103.out) hb);have n3_:=z_ (below_step (by repeat first|(with_reducible first|exact HB.out|apply zA|apply zN|apply z1|refine zS ?_ GE101.out|refine zS ?_ GE102.out|refine zS ?_ GE103.out)|exact HB.out) hb);clear BK101;clear BK102;clear BK103;clear HB;have BK101:=n0_;have BK102:=n1_;have BK103:=n2_;have HB:=n3_;clear n0_ n1_ n2_ n3_;(try clear hb);(try clear hb2);(try clear hk);(try clear hi)))
       go_meet
       case rel=>exact ⟨_,(!t107),(by first|rfl|(simp;done)|(simp [*];done)),H',⟨by have:=HJ3.out;first|omega|exact Nat.le_refl _⟩,⟨by (with_reducible repeat first|apply zbN|apply zb1|apply zbA);exact BK101.out⟩,⟨by (with_reducible repeat first|apply zbN|apply zb1|apply zbA);exact BK102.out⟩,⟨by (with_reducible repeat first|apply zbN|apply zb1|apply zbA);exact BK103.out⟩,⟨by repeat first|(with_reducible first|exact HB.out|apply zA|apply zN|apply z1|refine zS ?_ GE101.out|refine zS ?_ GE102.out|refine zS ?_ GE103.out)|exact HB.out⟩⟩
      ·replace c44:=Bool.eq_false_iff.mpr c44
       subst c44
       have H1:(federationref1_Reckon.j1 kj3 x0_3 true x102000_3 x102001_3 x102002_3 x102003_3 x103000_3 x103001_3 x103002_3 x103003_3) = some (r1,r2,r3,r4,r5):=by rw [if_neg (show ¬ (false = true) by decide)] at H;exact H
       clear H
       have H:=H1
       clear H1
       have H':=z_ H
       clear H
       have hnb53:=NB101_102.out
       have hnc53:=NB102_101.out
       have hnb54:=NB101_103.out
       have hnc54:=NB103_101.out
       have hcz55_0:wc.cell? ⟨gb101,0,none⟩ = some (.int .i64 x102000_3):=(zce BK101.out 0).trans rfl
       have hcz55_1:wc.cell? ⟨gb101,1,none⟩ = some (.int .i64 x102001_3):=(zce BK101.out 1).trans rfl
       have hcz55_2:wc.cell? ⟨gb101,2,none⟩ = some (.int .i64 x102002_3):=(zce BK101.out 2).trans rfl
       have hcz55_3:wc.cell? ⟨gb101,3,none⟩ = some (.string x102003_3):=(zce BK101.out 3).trans rfl
       have hfz55_0:=zfz BK101.out 0
       have hfz55_1:=zfz BK101.out 1
       have hfz55_2:=zfz BK101.out 2
       have hfz55_3:=zfz BK101.out 3
       go_wp2_with (first|(go_at_call 33;(with_reducible refine (federationref1_number.calls x102000_3 x102001_3 x102002_3 x102003_3 false _ A43.out).mono ?_);rintro e w56 ⟨rfl,hb⟩;have n0_:=z_ (zbb (g:=gb101) (o:=.cells #[.int .i64 x102000_3, .int .i64 x102001_3, .int .i64 x102002_3, .string x102003_3] 23 (0,0)) (by (with_reducible repeat first|apply zbN|apply zb1|apply zbA);exact BK101.out) hb);have n1_:=z_ (zbb (g:=gb102) (o:=.cells #[.int .i64 x103000_3, .int .i64 x103001_3, .int .i64 x103002_3, .string x103003_3] 23 (0,0)) (by (with_reducible repeat first|apply zbN|apply zb1|apply zbA);exact BK102.out) hb);have n2_:=z_ (zbb (g:=gb103) (o:=.cells #[.int .i64 0, .int .i64 0, .int .i64 0, .string (⟨#[]⟩:ByteArray)] 23 (0,0)) (by (with_reducible repeat first|apply zbN|apply zb1|apply zbA);exact BK103.out) hb);have n3_:=z_ (below_step (by repeat first|(with_reducible first|exact HB.out|apply zA|apply zN|apply z1|refine zS ?_ GE101.out|refine zS ?_ GE102.out|refine zS ?_ GE103.out)|exact HB.out) hb);clear BK101;clear BK102;clear BK103;clear HB;have BK101:=n0_;have BK102:=n1_;have BK103:=n2_;have HB:=n3_;clear n0_ n1_ n2_ n3_;(try clear hb);(try clear hb2);(try clear hk);(try clear hi)))
       go_meet
       case rel=>exact ⟨_,(true),(by first|rfl|(simp;done)|(simp [*];done)),H',⟨by have:=HJ3.out;first|omega|exact Nat.le_refl _⟩,⟨by (with_reducible repeat first|apply zbN|apply zb1|apply zbA);exact BK101.out⟩,⟨by (with_reducible repeat first|apply zbN|apply zb1|apply zbA);exact BK102.out⟩,⟨by (with_reducible repeat first|apply zbN|apply zb1|apply zbA);exact BK103.out⟩,⟨by repeat first|(with_reducible first|exact HB.out|apply zA|apply zN|apply z1|refine zS ?_ GE101.out|refine zS ?_ GE102.out|refine zS ?_ GE103.out)|exact HB.out⟩⟩
     ·rw [if_neg c42] at H
      have c42b0:(x0_3 == 7) = false:=beq_eq_false_iff_ne.mpr c42
      have c42b1:(x0_3 != 7) = true:=bne_iff_ne.mpr c42
      by_cases c57:x0_3 = 8
      ·rw [if_pos c57] at H
       have c57b0:(x0_3 == 8) = true:=beq_iff_eq.mpr c57
       have c57b1:(x0_3 != 8) = false:=bne_eq_false_iff_eq.mpr c57
       clear c57
       replace H:=Option.bind_eq_some_iff.mp H
       obtain ⟨t108,A580,H⟩:=H
       replace H:(if t108 = true then ((federationref1_number.f x103000_3 x103001_3 x103002_3 x103003_3).bind fun t109=>(federationref1_Reckon.j1 kj3 x0_3 (!t109) x102000_3 x102001_3 x102002_3 x102003_3 x103000_3 x103001_3 x103002_3 x103003_3)) else (federationref1_Reckon.j1 kj3 x0_3 true x102000_3 x102001_3 x102002_3 x102003_3 x103000_3 x103001_3 x103002_3 x103003_3)) = some (r1,r2,r3,r4,r5):=H
       have A58:=z_ A580
       clear A580
       by_cases c59:t108 = true
       ·subst c59
        have H1:((federationref1_number.f x103000_3 x103001_3 x103002_3 x103003_3).bind fun t109=>(federationref1_Reckon.j1 kj3 x0_3 (!t109) x102000_3 x102001_3 x102002_3 x102003_3 x103000_3 x103001_3 x103002_3 x103003_3)) = some (r1,r2,r3,r4,r5):=by rw [if_pos rfl] at H;exact H
        clear H
        have H:=H1
        clear H1
        replace H:=Option.bind_eq_some_iff.mp H
        obtain ⟨t109,A600,H⟩:=H
        replace H:(federationref1_Reckon.j1 kj3 x0_3 (!t109) x102000_3 x102001_3 x102002_3 x102003_3 x103000_3 x103001_3 x103002_3 x103003_3) = some (r1,r2,r3,r4,r5):=H
        have A60:=z_ A600
        clear A600
        have H':=z_ H
        clear H
        have hnb61:=NB101_102.out
        have hnc61:=NB102_101.out
        have hnb62:=NB101_103.out
        have hnc62:=NB103_101.out
        have hcz63_0:wc.cell? ⟨gb101,0,none⟩ = some (.int .i64 x102000_3):=(zce BK101.out 0).trans rfl
        have hcz63_1:wc.cell? ⟨gb101,1,none⟩ = some (.int .i64 x102001_3):=(zce BK101.out 1).trans rfl
        have hcz63_2:wc.cell? ⟨gb101,2,none⟩ = some (.int .i64 x102002_3):=(zce BK101.out 2).trans rfl
        have hcz63_3:wc.cell? ⟨gb101,3,none⟩ = some (.string x102003_3):=(zce BK101.out 3).trans rfl
        have hfz63_0:=zfz BK101.out 0
        have hfz63_1:=zfz BK101.out 1
        have hfz63_2:=zfz BK101.out 2
        have hfz63_3:=zfz BK101.out 3
        go_wp2_with (first|(go_at_call 33;(with_reducible refine (federationref1_number.calls x102000_3 x102001_3 x102002_3 x102003_3 true _ A58.out).mono ?_);rintro e w64 ⟨rfl,hb⟩;have n0_:=z_ (zbb (g:=gb101) (o:=.cells #[.int .i64 x102000_3, .int .i64 x102001_3, .int .i64 x102002_3, .string x102003_3] 23 (0,0)) (by (with_reducible repeat first|apply zbN|apply zb1|apply zbA);exact BK101.out) hb);have n1_:=z_ (zbb (g:=gb102) (o:=.cells #[.int .i64 x103000_3, .int .i64 x103001_3, .int .i64 x103002_3, .string x103003_3] 23 (0,0)) (by (with_reducible repeat first|apply zbN|apply zb1|apply zbA);exact BK102.out) hb);have n2_:=z_ (zbb (g:=gb103) (o:=.cells #[.int .i64 0, .int .i64 0, .int .i64 0, .string (⟨#[]⟩:ByteArray)] 23 (0,0)) (by (with_reducible repeat first|apply zbN|apply zb1|apply zbA);exact BK103.out) hb);have n3_:=z_ (below_step (by repeat first|(with_reducible first|exact HB.out|apply zA|apply zN|apply z1|refine zS ?_ GE101.out|refine zS ?_ GE102.out|refine zS ?_ GE103.out)|exact HB.out) hb);clear BK101;clear BK102;clear BK103;clear HB;have BK101:=n0_;have BK102:=n1_;have BK103:=n2_;have HB:=n3_;clear n0_ n1_ n2_ n3_;(try clear hb);(try clear hb2);(try clear hk);(try clear hi);have hnb65:=NB102_103.out;have hnc65:=NB103_102.out;have hcz66_0:w64.cell? ⟨gb102,0,none⟩ = some (.int .i64 x103000_3):=(zce BK102.out 0).trans rfl;have hcz66_1:w64.cell? ⟨gb102,1,none⟩ = some (.int .i64 x103001_3):=(zce BK102.out 1).trans rfl;have hcz66_2:w64.cell? ⟨gb102,2,none⟩ = some (.int .i64 x103002_3):=(zce BK102.out 2).trans rfl;have hcz66_3:w64.cell? ⟨gb102,3,none⟩ = some (.string x103003_3):=(zce BK102.out 3).trans rfl;have hfz66_0:=zfz BK102.out 0;have hfz66_1:=zfz BK102.out 1;have hfz66_2:=zfz BK102.out 2;have hfz66_3:=zfz BK102.out 3)|(go_at_call 33;(with_reducible refine (federationref1_number.calls x103000_3 x103001_3 x103002_3 x103003_3 t109 _ A60.out).mono ?_);rintro e w67 ⟨rfl,hb⟩;have n0_:=z_ (zbb (g:=gb101) (o:=.cells #[.int .i64 x102000_3, .int .i64 x102001_3, .int .i64 x102002_3, .string x102003_3] 23 (0,0)) (by (with_reducible repeat first|apply zbN|apply zb1|apply zbA);exact BK101.out) hb);have n1_:=z_ (zbb (g:=gb102) (o:=.cells #[.int .i64 x103000_3, .int .i64 x103001_3, .int .i64 x103002_3, .string x103003_3] 23 (0,0)) (by (with_reducible repeat first|apply zbN|apply zb1|apply zbA);exact BK102.out) hb);have n2_:=z_ (zbb (g:=gb103) (o:=.cells #[.int .i64 0, .int .i64 0, .int .i64 0, .string (⟨#[]⟩:ByteArray)] 23 (0,0)) (by (with_reducible repeat first|apply zbN|apply zb1|apply zbA);exact BK103.out) hb);have n3_:=z_ (below_step (by repeat first|(with_reducible first|exact HB.out|apply zA|apply zN|apply z1|refine zS ?_ GE101.out|refine zS ?_ GE102.out|refine zS ?_ GE103.out)|exact HB.out) hb);clear BK101;clear BK102;clear BK103;clear HB;have BK101:=n0_;have BK102:=n1_;have BK103:=n2_;have HB:=n3_;clear n0_ n1_ n2_ n3_;(try clear hb);(try clear hb2);(try clear hk);(try clear hi)))
        go_meet
        case rel=>exact ⟨_,(!t109),(by first|rfl|(simp;done)|(simp [*];done)),H',⟨by have:=HJ3.out;first|omega|exact Nat.le_refl _⟩,⟨by (with_reducible repeat first|apply zbN|apply zb1|apply zbA);exact BK101.out⟩,⟨by (with_reducible repeat first|apply zbN|apply zb1|apply zbA);exact BK102.out⟩,⟨by (with_reducible repeat first|apply zbN|apply zb1|apply zbA);exact BK103.out⟩,⟨by repeat first|(with_reducible first|exact HB.out|apply zA|apply zN|apply z1|refine zS ?_ GE101.out|refine zS ?_ GE102.out|refine zS ?_ GE103.out)|exact HB.out⟩⟩
       ·replace c59:=Bool.eq_false_iff.mpr c59
        subst c59
        have H1:(federationref1_Reckon.j1 kj3 x0_3 true x102000_3 x102001_3 x102002_3 x102003_3 x103000_3 x103001_3 x103002_3 x103003_3) = some (r1,r2,r3,r4,r5):=by rw [if_neg (show ¬ (false = true) by decide)] at H;exact H
        clear H
        have H:=H1
        clear H1
        have H':=z_ H
        clear H
        have hnb68:=NB101_102.out
        have hnc68:=NB102_101.out
        have hnb69:=NB101_103.out
        have hnc69:=NB103_101.out
        have hcz70_0:wc.cell? ⟨gb101,0,none⟩ = some (.int .i64 x102000_3):=(zce BK101.out 0).trans rfl
        have hcz70_1:wc.cell? ⟨gb101,1,none⟩ = some (.int .i64 x102001_3):=(zce BK101.out 1).trans rfl
        have hcz70_2:wc.cell? ⟨gb101,2,none⟩ = some (.int .i64 x102002_3):=(zce BK101.out 2).trans rfl
        have hcz70_3:wc.cell? ⟨gb101,3,none⟩ = some (.string x102003_3):=(zce BK101.out 3).trans rfl
        have hfz70_0:=zfz BK101.out 0
        have hfz70_1:=zfz BK101.out 1
        have hfz70_2:=zfz BK101.out 2
        have hfz70_3:=zfz BK101.out 3
        go_wp2_with (first|(go_at_call 33;(with_reducible refine (federationref1_number.calls x102000_3 x102001_3 x102002_3 x102003_3 false _ A58.out).mono ?_);rintro e w71 ⟨rfl,hb⟩;have n0_:=z_ (zbb (g:=gb101) (o:=.cells #[.int .i64 x102000_3, .int .i64 x102001_3, .int .i64 x102002_3, .string x102003_3] 23 (0,0)) (by (with_reducible repeat first|apply zbN|apply zb1|apply zbA);exact BK101.out) hb);have n1_:=z_ (zbb (g:=gb102) (o:=.cells #[.int .i64 x103000_3, .int .i64 x103001_3, .int .i64 x103002_3, .string x103003_3] 23 (0,0)) (by (with_reducible repeat first|apply zbN|apply zb1|apply zbA);exact BK102.out) hb);have n2_:=z_ (zbb (g:=gb103) (o:=.cells #[.int .i64 0, .int .i64 0, .int .i64 0, .string (⟨#[]⟩:ByteArray)] 23 (0,0)) (by (with_reducible repeat first|apply zbN|apply zb1|apply zbA);exact BK103.out) hb);have n3_:=z_ (below_step (by repeat first|(with_reducible first|exact HB.out|apply zA|apply zN|apply z1|refine zS ?_ GE101.out|refine zS ?_ GE102.out|refine zS ?_ GE103.out)|exact HB.out) hb);clear BK101;clear BK102;clear BK103;clear HB;have BK101:=n0_;have BK102:=n1_;have BK103:=n2_;have HB:=n3_;clear n0_ n1_ n2_ n3_;(try clear hb);(try clear hb2);(try clear hk);(try clear hi)))
        go_meet
        case rel=>exact ⟨_,(true),(by first|rfl|(simp;done)|(simp [*];done)),H',⟨by have:=HJ3.out;first|omega|exact Nat.le_refl _⟩,⟨by (with_reducible repeat first|apply zbN|apply zb1|apply zbA);exact BK101.out⟩,⟨by (with_reducible repeat first|apply zbN|apply zb1|apply zbA);exact BK102.out⟩,⟨by (with_reducible repeat first|apply zbN|apply zb1|apply zbA);exact BK103.out⟩,⟨by repeat first|(with_reducible first|exact HB.out|apply zA|apply zN|apply z1|refine zS ?_ GE101.out|refine zS ?_ GE102.out|refine zS ?_ GE103.out)|exact HB.out⟩⟩
      ·rw [if_neg c57] at H
       have c57b0:(x0_3 == 8) = false:=beq_eq_false_iff_ne.mpr c57
       have c57b1:(x0_3 != 8) = true:=bne_iff_ne.mpr c57
       have H':=z_ H
       clear H
       go_wp2
       go_meet
       case rel=>exact ⟨_,(true),(by first|rfl|(simp;done)|(simp [*];done)),H',⟨by have:=HJ3.out;first|omega|exact Nat.le_refl _⟩,⟨by (with_reducible repeat first|apply zbN|apply zb1|apply zbA);exact BK101.out⟩,⟨by (with_reducible repeat first|apply zbN|apply zb1|apply zbA);exact BK102.out⟩,⟨by (with_reducible repeat first|apply zbN|apply zb1|apply zbA);exact BK103.out⟩,⟨by repeat first|(with_reducible first|exact HB.out|apply zA|apply zN|apply z1|refine zS ?_ GE101.out|refine zS ?_ GE102.out|refine zS ?_ GE103.out)|exact HB.out⟩⟩
   case rest =>
    clear HC26
    try clear c1
    try clear c2
    try clear p2
    try clear c3
    try clear c4
    try clear c5
    try clear c6
    try clear c8
    try clear c8b0
    try clear c8b1
    try clear c9
    try clear c9b0
    try clear c9b1
    try clear c10
    try clear c11
    try clear c13
    try clear c15
    try clear c15b0
    try clear c15b1
    try clear c16
    try clear c17
    try clear c19
    try clear c21
    try clear c22
    try clear c24
    try clear c27
    try clear c27b0
    try clear c27b1
    try clear c29
    try clear c31
    try clear c32
    try clear c35
    try clear c38
    try clear c39
    try clear c42
    try clear c42b0
    try clear c42b1
    try clear c44
    try clear c46
    try clear c47
    try clear c50
    try clear c53
    try clear c54
    try clear c57
    try clear c57b0
    try clear c57b1
    try clear c59
    try clear c61
    try clear c62
    try clear c65
    try clear c68
    try clear c69
    try clear hcz12_0
    try clear hcz12_1
    try clear hcz12_2
    try clear hcz12_3
    try clear hcz14_0
    try clear hcz14_1
    try clear hcz14_2
    try clear hcz14_3
    try clear hcz18_0
    try clear hcz18_1
    try clear hcz18_2
    try clear hcz18_3
    try clear hcz20_0
    try clear hcz20_1
    try clear hcz20_2
    try clear hcz20_3
    try clear hcz23_0
    try clear hcz23_1
    try clear hcz23_2
    try clear hcz23_3
    try clear hcz25_0
    try clear hcz25_1
    try clear hcz25_2
    try clear hcz25_3
    try clear hcz33_0
    try clear hcz33_1
    try clear hcz33_2
    try clear hcz33_3
    try clear hcz36_0
    try clear hcz36_1
    try clear hcz36_2
    try clear hcz36_3
    try clear hcz40_0
    try clear hcz40_1
    try clear hcz40_2
    try clear hcz40_3
    try clear hcz48_0
    try clear hcz48_1
    try clear hcz48_2
    try clear hcz48_3
    try clear hcz51_0
    try clear hcz51_1
    try clear hcz51_2
    try clear hcz51_3
    try clear hcz55_0
    try clear hcz55_1
    try clear hcz55_2
    try clear hcz55_3
    try clear hcz63_0
    try clear hcz63_1
    try clear hcz63_2
    try clear hcz63_3
    try clear hcz66_0
    try clear hcz66_1
    try clear hcz66_2
    try clear hcz66_3
    try clear hcz70_0
    try clear hcz70_1
    try clear hcz70_2
    try clear hcz70_3
    try clear hfz12_0
    try clear hfz12_1
    try clear hfz12_2
    try clear hfz12_3
    try clear hfz14_0
    try clear hfz14_1
    try clear hfz14_2
    try clear hfz14_3
    try clear hfz18_0
    try clear hfz18_1
    try clear hfz18_2
    try clear hfz18_3
    try clear hfz20_0
    try clear hfz20_1
    try clear hfz20_2
    try clear hfz20_3
    try clear hfz23_0
    try clear hfz23_1
    try clear hfz23_2
    try clear hfz23_3
    try clear hfz25_0
    try clear hfz25_1
    try clear hfz25_2
    try clear hfz25_3
    try clear hfz33_0
    try clear hfz33_1
    try clear hfz33_2
    try clear hfz33_3
    try clear hfz36_0
    try clear hfz36_1
    try clear hfz36_2
    try clear hfz36_3
    try clear hfz40_0
    try clear hfz40_1
    try clear hfz40_2
    try clear hfz40_3
    try clear hfz48_0
    try clear hfz48_1
    try clear hfz48_2
    try clear hfz48_3
    try clear hfz51_0
    try clear hfz51_1
    try clear hfz51_2
    try clear hfz51_3
    try clear hfz55_0
    try clear hfz55_1
    try clear hfz55_2
    try clear hfz55_3
    try clear hfz63_0
    try clear hfz63_1
    try clear hfz63_2
    try clear hfz63_3
    try clear hfz66_0
    try clear hfz66_1
    try clear hfz66_2
    try clear hfz66_3
    try clear hfz70_0
    try clear hfz70_1
    try clear hfz70_2
    try clear hfz70_3
    try clear p2
    obtain ⟨kq,x22_25,rfl,HA,HJ25,BK101,BK102,BK103,HB⟩:=hcut
    cases kq with
    | zero=>exact absurd HA.out (by simp [federationref1_Reckon.j1])
    | succ kj25 =>
     have H:=HA.out
     clear HA
     simp only [federationref1_Reckon.j1] at H
     by_cases c72:x22_25 = true
     ·subst c72
      have H1:(some (0,0,0,(⟨#[]⟩:ByteArray),5)) = some (r1,r2,r3,r4,r5):=by rw [if_pos rfl] at H;exact H
      clear H
      have H:=H1
      clear H1
      simp only [Option.some.injEq,Prod.mk.injEq] at H
      obtain ⟨rfl,rfl,rfl,rfl,rfl⟩:=H
      have hnb73:=NB103_101.out
      have hnc73:=NB101_103.out
      have hnb74:=NB103_102.out
      have hnc74:=NB102_103.out
      have hcz75_0:wc.cell? ⟨gb103,0,none⟩ = some (.int .i64 0):=(zce BK103.out 0).trans rfl
      have hcz75_1:wc.cell? ⟨gb103,1,none⟩ = some (.int .i64 0):=(zce BK103.out 1).trans rfl
      have hcz75_2:wc.cell? ⟨gb103,2,none⟩ = some (.int .i64 0):=(zce BK103.out 2).trans rfl
      have hcz75_3:wc.cell? ⟨gb103,3,none⟩ = some (.string (⟨#[]⟩:ByteArray)):=(zce BK103.out 3).trans rfl
      have hfz75_0:=zfz BK103.out 0
      have hfz75_1:=zfz BK103.out 1
      have hfz75_2:=zfz BK103.out 2
      have hfz75_3:=zfz BK103.out 3
      go_wp2
      refine bodyPost_ret (results_ct rfl _ _ gb103 23 #[.int .i64 0, .int .i64 0, .int .i64 0, .string (⟨#[]⟩:ByteArray)] (0,0) _ rfl (by (with_reducible repeat first|apply zbN|apply zb1|apply zbA);refine zbp (cs:=#[.int .i64 0, .int .i64 0, .int .i64 0, .string (⟨#[]⟩:ByteArray)]) ?_ 3 _ rfl;(with_reducible repeat first|apply zbN|apply zb1|apply zbA);refine zbp (cs:=#[.int .i64 0, .int .i64 0, .int .i64 0, .string (⟨#[]⟩:ByteArray)]) ?_ 2 _ rfl;(with_reducible repeat first|apply zbN|apply zb1|apply zbA);refine zbp (cs:=#[.int .i64 0, .int .i64 0, .int .i64 0, .string (⟨#[]⟩:ByteArray)]) ?_ 1 _ rfl;(with_reducible repeat first|apply zbN|apply zb1|apply zbA);refine zbp (cs:=#[.int .i64 0, .int .i64 0, .int .i64 0, .string (⟨#[]⟩:ByteArray)]) ?_ 0 _ rfl;(with_reducible repeat first|apply zbN|apply zb1|apply zbA);exact BK103.out) Try.underlying23 rfl (by kernel_rfl)) rfl ?_
      exact ⟨by first|rfl|(simp [errW_none,errW_some] <;> rfl)|(simp [*,errW_none,errW_some] <;> rfl),by repeat first|(with_reducible first|exact HB.out|apply zA|apply zN|apply z1|refine zS ?_ GE101.out|refine zS ?_ GE102.out|refine zS ?_ GE103.out)|exact HB.out⟩
     ·replace c72:=Bool.eq_false_iff.mpr c72
      subst c72
      have H1:(if x102000_3 = 0 then (federationref1_Reckon.j2 kj25 x0_3 true x102000_3 x102001_3 x102002_3 x102003_3 x103000_3 x103001_3 x103002_3 x103003_3) else (federationref1_Reckon.j2 kj25 x0_3 (x103000_3 == 0) x102000_3 x102001_3 x102002_3 x102003_3 x103000_3 x103001_3 x103002_3 x103003_3)) = some (r1,r2,r3,r4,r5):=by rw [if_neg (show ¬ (false = true) by decide)] at H;exact H
      clear H
      have H:=H1
      clear H1
      have HC76:=z_ H
      clear H
      go_upto_region 8 with (fail)
      go_cut [44] (fun v44 wc=>∃ (kq:Nat) (x44_75:Bool),v44 = .bool x44_75 ∧ Aside0 (federationref1_Reckon.j2 kq x0_3 x44_75 x102000_3 x102001_3 x102002_3 x102003_3 x103000_3 x103001_3 x103002_3 x103003_3 = some (r1,r2,r3,r4,r5)) ∧ Aside0 (kq ≤ kj25) ∧ Aside0 (wc.heap[gb101]? = some (.cells #[.int .i64 x102000_3, .int .i64 x102001_3, .int .i64 x102002_3, .string x102003_3] 23 (0,0))) ∧ Aside0 (wc.heap[gb102]? = some (.cells #[.int .i64 x103000_3, .int .i64 x103001_3, .int .i64 x103002_3, .string x103003_3] 23 (0,0))) ∧ Aside0 (wc.heap[gb103]? = some (.cells #[.int .i64 0, .int .i64 0, .int .i64 0, .string (⟨#[]⟩:ByteArray)] 23 (0,0))) ∧ Aside0 (Below w.heap.size w wc))
      case first =>
       have H:=HC76.out
       clear HC76
       by_cases c77:x102000_3 = 0
       ·rw [if_pos c77] at H
        have c77b0:(x102000_3 == 0) = true:=beq_iff_eq.mpr c77
        have c77b1:(x102000_3 != 0) = false:=bne_eq_false_iff_eq.mpr c77
        clear c77
        (first|rw [c77b0]|(simp only [i64_w,i32_w];rw [c77b0])|skip)
        have H':=z_ H
        clear H
        have hnb78:=NB101_102.out
        have hnc78:=NB102_101.out
        have hnb79:=NB101_103.out
        have hnc79:=NB103_101.out
        have hcz80_0:wc.cell? ⟨gb101,0,none⟩ = some (.int .i64 x102000_3):=(zce BK101.out 0).trans rfl
        have hcz80_1:wc.cell? ⟨gb101,1,none⟩ = some (.int .i64 x102001_3):=(zce BK101.out 1).trans rfl
        have hcz80_2:wc.cell? ⟨gb101,2,none⟩ = some (.int .i64 x102002_3):=(zce BK101.out 2).trans rfl
        have hcz80_3:wc.cell? ⟨gb101,3,none⟩ = some (.string x102003_3):=(zce BK101.out 3).trans rfl
        have hfz80_0:=zfz BK101.out 0
        have hfz80_1:=zfz BK101.out 1
        have hfz80_2:=zfz BK101.out 2
        have hfz80_3:=zfz BK101.out 3
        go_wp2
        go_meet
        case rel=>exact ⟨_,(true),(by first|rfl|(simp;done)|(simp [*];done)),H',⟨by have:=HJ3.out;have:=HJ25.out;first|omega|exact Nat.le_refl _⟩,⟨by (with_reducible repeat first|apply zbN|apply zb1|apply zbA);exact BK101.out⟩,⟨by (with_reducible repeat first|apply zbN|apply zb1|apply zbA);exact BK102.out⟩,⟨by (with_reducible repeat first|apply zbN|apply zb1|apply zbA);exact BK103.out⟩,⟨by repeat first|(with_reducible first|exact HB.out|apply zA|apply zN|apply z1|refine zS ?_ GE101.out|refine zS ?_ GE102.out|refine zS ?_ GE103.out)|exact HB.out⟩⟩
       ·rw [if_neg c77] at H
        have c77b0:(x102000_3 == 0) = false:=beq_eq_false_iff_ne.mpr c77
        have c77b1:(x102000_3 != 0) = true:=bne_iff_ne.mpr c77
        (first|rw [c77b0]|(simp only [i64_w,i32_w];rw [c77b0])|skip)
        have H':=z_ H
        clear H
        have hnb81:=NB101_102.out
        have hnc81:=NB102_101.out
        have hnb82:=NB101_103.out
        have hnc82:=NB103_101.out
        have hcz83_0:wc.cell? ⟨gb101,0,none⟩ = some (.int .i64 x102000_3):=(zce BK101.out 0).trans rfl
        have hcz83_1:wc.cell? ⟨gb101,1,none⟩ = some (.int .i64 x102001_3):=(zce BK101.out 1).trans rfl
        have hcz83_2:wc.cell? ⟨gb101,2,none⟩ = some (.int .i64 x102002_3):=(zce BK101.out 2).trans rfl
        have hcz83_3:wc.cell? ⟨gb101,3,none⟩ = some (.string x102003_3):=(zce BK101.out 3).trans rfl
        have hfz83_0:=zfz BK101.out 0
        have hfz83_1:=zfz BK101.out 1
        have hfz83_2:=zfz BK101.out 2
        have hfz83_3:=zfz BK101.out 3
        have hnb84:=NB102_103.out
        have hnc84:=NB103_102.out
        have hcz85_0:wc.cell? ⟨gb102,0,none⟩ = some (.int .i64 x103000_3):=(zce BK102.out 0).trans rfl
        have hcz85_1:wc.cell? ⟨gb102,1,none⟩ = some (.int .i64 x103001_3):=(zce BK102.out 1).trans rfl
        have hcz85_2:wc.cell? ⟨gb102,2,none⟩ = some (.int .i64 x103002_3):=(zce BK102.out 2).trans rfl
        have hcz85_3:wc.cell? ⟨gb102,3,none⟩ = some (.string x103003_3):=(zce BK102.out 3).trans rfl
        have hfz85_0:=zfz BK102.out 0
        have hfz85_1:=zfz BK102.out 1
        have hfz85_2:=zfz BK102.out 2
        have hfz85_3:=zfz BK102.out 3
        go_wp2
        go_meet
        case rel=>exact ⟨_,((x103000_3 == 0)),(by first|rfl|(simp;done)|(simp [*];done)),H',⟨by have:=HJ3.out;have:=HJ25.out;first|omega|exact Nat.le_refl _⟩,⟨by (with_reducible repeat first|apply zbN|apply zb1|apply zbA);exact BK101.out⟩,⟨by (with_reducible repeat first|apply zbN|apply zb1|apply zbA);exact BK102.out⟩,⟨by (with_reducible repeat first|apply zbN|apply zb1|apply zbA);exact BK103.out⟩,⟨by repeat first|(with_reducible first|exact HB.out|apply zA|apply zN|apply z1|refine zS ?_ GE101.out|refine zS ?_ GE102.out|refine zS ?_ GE103.out)|exact HB.out⟩⟩
      case rest =>
       clear HC76
       try clear c1
       try clear c2
       try clear p2
       try clear c3
       try clear c4
       try clear c5
       try clear c6
       try clear c7
       try clear c8
       try clear c8b0
       try clear c8b1
       try clear c9
       try clear c9b0
       try clear c9b1
       try clear c10
       try clear c11
       try clear c13
       try clear c15
       try clear c15b0
       try clear c15b1
       try clear c16
       try clear c17
       try clear c19
       try clear c21
       try clear c22
       try clear c24
       try clear c27
       try clear c27b0
       try clear c27b1
       try clear c29
       try clear c31
       try clear c32
       try clear c35
       try clear c38
       try clear c39
       try clear c42
       try clear c42b0
       try clear c42b1
       try clear c44
       try clear c46
       try clear c47
       try clear c50
       try clear c53
       try clear c54
       try clear c57
       try clear c57b0
       try clear c57b1
       try clear c59
       try clear c61
       try clear c62
       try clear c65
       try clear c68
       try clear c69
       try clear c72
       try clear c73
       try clear c74
       try clear c77
       try clear c77b0
       try clear c77b1
       try clear c78
       try clear c79
       try clear c81
       try clear c82
       try clear c84
       try clear hcz12_0
       try clear hcz12_1
       try clear hcz12_2
       try clear hcz12_3
       try clear hcz14_0
       try clear hcz14_1
       try clear hcz14_2
       try clear hcz14_3
       try clear hcz18_0
       try clear hcz18_1
       try clear hcz18_2
       try clear hcz18_3
       try clear hcz20_0
       try clear hcz20_1
       try clear hcz20_2
       try clear hcz20_3
       try clear hcz23_0
       try clear hcz23_1
       try clear hcz23_2
       try clear hcz23_3
       try clear hcz25_0
       try clear hcz25_1
       try clear hcz25_2
       try clear hcz25_3
       try clear hcz33_0
       try clear hcz33_1
       try clear hcz33_2
       try clear hcz33_3
       try clear hcz36_0
       try clear hcz36_1
       try clear hcz36_2
       try clear hcz36_3
       try clear hcz40_0
       try clear hcz40_1
       try clear hcz40_2
       try clear hcz40_3
       try clear hcz48_0
       try clear hcz48_1
       try clear hcz48_2
       try clear hcz48_3
       try clear hcz51_0
       try clear hcz51_1
       try clear hcz51_2
       try clear hcz51_3
       try clear hcz55_0
       try clear hcz55_1
       try clear hcz55_2
       try clear hcz55_3
       try clear hcz63_0
       try clear hcz63_1
       try clear hcz63_2
       try clear hcz63_3
       try clear hcz66_0
       try clear hcz66_1
       try clear hcz66_2
       try clear hcz66_3
       try clear hcz70_0
       try clear hcz70_1
       try clear hcz70_2
       try clear hcz70_3
       try clear hcz75_0
       try clear hcz75_1
       try clear hcz75_2
       try clear hcz75_3
       try clear hcz80_0
       try clear hcz80_1
       try clear hcz80_2
       try clear hcz80_3
       try clear hcz83_0
       try clear hcz83_1
       try clear hcz83_2
       try clear hcz83_3
       try clear hcz85_0
       try clear hcz85_1
       try clear hcz85_2
       try clear hcz85_3
       try clear hfz12_0
       try clear hfz12_1
       try clear hfz12_2
       try clear hfz12_3
       try clear hfz14_0
       try clear hfz14_1
       try clear hfz14_2
       try clear hfz14_3
       try clear hfz18_0
       try clear hfz18_1
       try clear hfz18_2
       try clear hfz18_3
       try clear hfz20_0
       try clear hfz20_1
       try clear hfz20_2
       try clear hfz20_3
       try clear hfz23_0
       try clear hfz23_1
       try clear hfz23_2
       try clear hfz23_3
       try clear hfz25_0
       try clear hfz25_1
       try clear hfz25_2
       try clear hfz25_3
       try clear hfz33_0
       try clear hfz33_1
       try clear hfz33_2
       try clear hfz33_3
       try clear hfz36_0
       try clear hfz36_1
       try clear hfz36_2
       try clear hfz36_3
       try clear hfz40_0
       try clear hfz40_1
       try clear hfz40_2
       try clear hfz40_3
       try clear hfz48_0
       try clear hfz48_1
       try clear hfz48_2
       try clear hfz48_3
       try clear hfz51_0
       try clear hfz51_1
       try clear hfz51_2
       try clear hfz51_3
       try clear hfz55_0
       try clear hfz55_1
       try clear hfz55_2
       try clear hfz55_3
       try clear hfz63_0
       try clear hfz63_1
       try clear hfz63_2
       try clear hfz63_3
       try clear hfz66_0
       try clear hfz66_1
       try clear hfz66_2
       try clear hfz66_3
       try clear hfz70_0
       try clear hfz70_1
       try clear hfz70_2
       try clear hfz70_3
       try clear hfz75_0
       try clear hfz75_1
       try clear hfz75_2
       try clear hfz75_3
       try clear hfz80_0
       try clear hfz80_1
       try clear hfz80_2
       try clear hfz80_3
       try clear hfz83_0
       try clear hfz83_1
       try clear hfz83_2
       try clear hfz83_3
       try clear hfz85_0
       try clear hfz85_1
       try clear hfz85_2
       try clear hfz85_3
       try clear p2
       obtain ⟨kq,x44_75,rfl,HA,HJ75,BK101,BK102,BK103,HB⟩:=hcut
       cases kq with
       | zero=>exact absurd HA.out (by simp [federationref1_Reckon.j2])
       | succ kj75 =>
        have H:=HA.out
        clear HA
        simp only [federationref1_Reckon.j2] at H
        by_cases c86:x44_75 = true
        ·subst c86
         have H1:(some (0,0,0,(⟨#[]⟩:ByteArray),0)) = some (r1,r2,r3,r4,r5):=by rw [if_pos rfl] at H;exact H
         clear H
         have H:=H1
         clear H1
         simp only [Option.some.injEq,Prod.mk.injEq] at H
         obtain ⟨rfl,rfl,rfl,rfl,rfl⟩:=H
         have hnb87:=NB103_101.out
         have hnc87:=NB101_103.out
         have hnb88:=NB103_102.out
         have hnc88:=NB102_103.out
         have hcz89_0:wc.cell? ⟨gb103,0,none⟩ = some (.int .i64 0):=(zce BK103.out 0).trans rfl
         have hcz89_1:wc.cell? ⟨gb103,1,none⟩ = some (.int .i64 0):=(zce BK103.out 1).trans rfl
         have hcz89_2:wc.cell? ⟨gb103,2,none⟩ = some (.int .i64 0):=(zce BK103.out 2).trans rfl
         have hcz89_3:wc.cell? ⟨gb103,3,none⟩ = some (.string (⟨#[]⟩:ByteArray)):=(zce BK103.out 3).trans rfl
         have hfz89_0:=zfz BK103.out 0
         have hfz89_1:=zfz BK103.out 1
         have hfz89_2:=zfz BK103.out 2
         have hfz89_3:=zfz BK103.out 3
         go_wp2
         refine bodyPost_ret (results_ct rfl _ _ gb103 23 #[.int .i64 0, .int .i64 0, .int .i64 0, .string (⟨#[]⟩:ByteArray)] (0,0) _ rfl (by (with_reducible repeat first|apply zbN|apply zb1|apply zbA);refine zbp (cs:=#[.int .i64 0, .int .i64 0, .int .i64 0, .string (⟨#[]⟩:ByteArray)]) ?_ 3 _ rfl;(with_reducible repeat first|apply zbN|apply zb1|apply zbA);refine zbp (cs:=#[.int .i64 0, .int .i64 0, .int .i64 0, .string (⟨#[]⟩:ByteArray)]) ?_ 2 _ rfl;(with_reducible repeat first|apply zbN|apply zb1|apply zbA);refine zbp (cs:=#[.int .i64 0, .int .i64 0, .int .i64 0, .string (⟨#[]⟩:ByteArray)]) ?_ 1 _ rfl;(with_reducible repeat first|apply zbN|apply zb1|apply zbA);refine zbp (cs:=#[.int .i64 0, .int .i64 0, .int .i64 0, .string (⟨#[]⟩:ByteArray)]) ?_ 0 _ rfl;(with_reducible repeat first|apply zbN|apply zb1|apply zbA);exact BK103.out) Try.underlying23 rfl (by kernel_rfl)) rfl ?_
         exact ⟨by first|rfl|(simp [errW_none,errW_some] <;> rfl)|(simp [*,errW_none,errW_some] <;> rfl),by repeat first|(with_reducible first|exact HB.out|apply zA|apply zN|apply z1|refine zS ?_ GE101.out|refine zS ?_ GE102.out|refine zS ?_ GE103.out)|exact HB.out⟩
        ·replace c86:=Bool.eq_false_iff.mpr c86
         subst c86
         have H1:(if x102000_3 = x103000_3 then (if x102000_3 = 2 then ((federationref1_ints.f x0_3 x102001_3 x103001_3).bind fun bt110=>(some (bt110.1,bt110.2.1,bt110.2.2.1,bt110.2.2.2.1,bt110.2.2.2.2))) else ((federationref1_decs.f kj75 x0_3 x102000_3 x102001_3 x102002_3 x102003_3 x103000_3 x103001_3 x103002_3 x103003_3).bind fun bt115=>(some (bt115.1,bt115.2.1,bt115.2.2.1,bt115.2.2.2.1,bt115.2.2.2.2)))) else (some (0,0,0,(⟨#[]⟩:ByteArray),5))) = some (r1,r2,r3,r4,r5):=by rw [if_neg (show ¬ (false = true) by decide)] at H;exact H
         clear H
         have H:=H1
         clear H1
         by_cases c90:x102000_3 = x103000_3
         ·rw [if_pos c90] at H
          have c90b0:(x102000_3 == x103000_3) = true:=beq_iff_eq.mpr c90
          have c90b1:(x102000_3 != x103000_3) = false:=bne_eq_false_iff_eq.mpr c90
          clear c90
          by_cases c91:x102000_3 = 2
          ·rw [if_pos c91] at H
           have c91b0:(x102000_3 == 2) = true:=beq_iff_eq.mpr c91
           have c91b1:(x102000_3 != 2) = false:=bne_eq_false_iff_eq.mpr c91
           clear c91
           replace H:=Option.bind_eq_some_iff.mp H
           obtain ⟨⟨t110,t111,t112,t113,t114⟩,A920,H⟩:=H
           replace H:(some (t110,t111,t112,t113,t114)) = some (r1,r2,r3,r4,r5):=H
           have A92:=z_ A920
           clear A920
           simp only [Option.some.injEq,Prod.mk.injEq] at H
           obtain ⟨rfl,rfl,rfl,rfl,rfl⟩:=H
           have hnb93:=NB101_102.out
           have hnc93:=NB102_101.out
           have hnb94:=NB101_103.out
           have hnc94:=NB103_101.out
           have hcz95_0:wc.cell? ⟨gb101,0,none⟩ = some (.int .i64 x102000_3):=(zce BK101.out 0).trans rfl
           have hcz95_1:wc.cell? ⟨gb101,1,none⟩ = some (.int .i64 x102001_3):=(zce BK101.out 1).trans rfl
           have hcz95_2:wc.cell? ⟨gb101,2,none⟩ = some (.int .i64 x102002_3):=(zce BK101.out 2).trans rfl
           have hcz95_3:wc.cell? ⟨gb101,3,none⟩ = some (.string x102003_3):=(zce BK101.out 3).trans rfl
           have hfz95_0:=zfz BK101.out 0
           have hfz95_1:=zfz BK101.out 1
           have hfz95_2:=zfz BK101.out 2
           have hfz95_3:=zfz BK101.out 3
           have hnb96:=NB102_103.out
           have hnc96:=NB103_102.out
           have hcz97_0:wc.cell? ⟨gb102,0,none⟩ = some (.int .i64 x103000_3):=(zce BK102.out 0).trans rfl
           have hcz97_1:wc.cell? ⟨gb102,1,none⟩ = some (.int .i64 x103001_3):=(zce BK102.out 1).trans rfl
           have hcz97_2:wc.cell? ⟨gb102,2,none⟩ = some (.int .i64 x103002_3):=(zce BK102.out 2).trans rfl
           have hcz97_3:wc.cell? ⟨gb102,3,none⟩ = some (.string x103003_3):=(zce BK102.out 3).trans rfl
           have hfz97_0:=zfz BK102.out 0
           have hfz97_1:=zfz BK102.out 1
           have hfz97_2:=zfz BK102.out 2
           have hfz97_3:=zfz BK102.out 3
           go_wp2_with (first|((with_reducible refine gate_callee (f:=34) rfl ?_);refine goesL_ (some 70) rfl rfl Try.func34 (by kernel_rfl) rfl #[.int .i64 x0_3, .int .i64 x102001_3, .int .i64 x103001_3] rfl (by (try simp only [List.map_toArray,List.map_cons,List.map_nil]);first|done|rfl|(simp only [List.length_drop,List.length_take];rfl)) ?_;(with_reducible refine (federationref1_ints.calls x0_3 x102001_3 x103001_3 t110 t111 t112 t113 t114 _ A92.out).mono ?_);rintro e w98 ⟨rfl,hb⟩;refine ⟨_,rfl,?_⟩;have n0_:=z_ (zbb (g:=gb101) (o:=.cells #[.int .i64 x102000_3, .int .i64 x102001_3, .int .i64 x102002_3, .string x102003_3] 23 (0,0)) (by (with_reducible repeat first|apply zbN|apply zb1|apply zbA);exact BK101.out) hb);have n1_:=z_ (zbb (g:=gb102) (o:=.cells #[.int .i64 x103000_3, .int .i64 x103001_3, .int .i64 x103002_3, .string x103003_3] 23 (0,0)) (by (with_reducible repeat first|apply zbN|apply zb1|apply zbA);exact BK102.out) hb);have n2_:=z_ (zbb (g:=gb103) (o:=.cells #[.int .i64 0, .int .i64 0, .int .i64 0, .string (⟨#[]⟩:ByteArray)] 23 (0,0)) (by (with_reducible repeat first|apply zbN|apply zb1|apply zbA);exact BK103.out) hb);have n3_:=z_ (below_step (by repeat first|(with_reducible first|exact HB.out|apply zA|apply zN|apply z1|refine zS ?_ GE101.out|refine zS ?_ GE102.out|refine zS ?_ GE103.out)|exact HB.out) hb);clear BK101;clear BK102;clear BK103;clear HB;have BK101:=n0_;have BK102:=n1_;have BK103:=n2_;have HB:=n3_;clear n0_ n1_ n2_ n3_;(try clear hb);(try clear hb2);(try clear hk);(try clear hi);have hcz99_0:w98.cell? ⟨gb103,0,none⟩ = some (.int .i64 0):=(zce BK103.out 0).trans rfl;have hcz99_1:w98.cell? ⟨gb103,1,none⟩ = some (.int .i64 0):=(zce BK103.out 1).trans rfl;have hcz99_2:w98.cell? ⟨gb103,2,none⟩ = some (.int .i64 0):=(zce BK103.out 2).trans rfl;have hcz99_3:w98.cell? ⟨gb103,3,none⟩ = some (.string (⟨#[]⟩:ByteArray)):=(zce BK103.out 3).trans rfl;have hfz99_0:=zfz BK103.out 0;have hfz99_1:=zfz BK103.out 1;have hfz99_2:=zfz BK103.out 2;have hfz99_3:=zfz BK103.out 3))
           refine bodyPost_ret (results_ct rfl _ _ gb103 23 #[.int .i64 t110, .int .i64 t111, .int .i64 t112, .string t113] (0,0) _ rfl (by (with_reducible repeat first|apply zbN|apply zb1|apply zbA);refine zbp (cs:=#[.int .i64 t110, .int .i64 t111, .int .i64 t112, .string (⟨#[]⟩:ByteArray)]) ?_ 3 _ rfl;(with_reducible repeat first|apply zbN|apply zb1|apply zbA);refine zbp (cs:=#[.int .i64 t110, .int .i64 t111, .int .i64 0, .string (⟨#[]⟩:ByteArray)]) ?_ 2 _ rfl;(with_reducible repeat first|apply zbN|apply zb1|apply zbA);refine zbp (cs:=#[.int .i64 t110, .int .i64 0, .int .i64 0, .string (⟨#[]⟩:ByteArray)]) ?_ 1 _ rfl;(with_reducible repeat first|apply zbN|apply zb1|apply zbA);refine zbp (cs:=#[.int .i64 0, .int .i64 0, .int .i64 0, .string (⟨#[]⟩:ByteArray)]) ?_ 0 _ rfl;(with_reducible repeat first|apply zbN|apply zb1|apply zbA);exact BK103.out) Try.underlying23 rfl (by kernel_rfl)) rfl ?_
           exact ⟨by first|rfl|(simp [errW_none,errW_some] <;> rfl)|(simp [*,errW_none,errW_some] <;> rfl),by repeat first|(with_reducible first|exact HB.out|apply zA|apply zN|apply z1|refine zS ?_ GE101.out|refine zS ?_ GE102.out|refine zS ?_ GE103.out)|exact HB.out⟩
          ·rw [if_neg c91] at H
           have c91b0:(x102000_3 == 2) = false:=beq_eq_false_iff_ne.mpr c91
           have c91b1:(x102000_3 != 2) = true:=bne_iff_ne.mpr c91
           replace H:=Option.bind_eq_some_iff.mp H
           obtain ⟨⟨t115,t116,t117,t118,t119⟩,A1000,H⟩:=H
           replace H:(some (t115,t116,t117,t118,t119)) = some (r1,r2,r3,r4,r5):=H
           have A100:=z_ A1000
           clear A1000
           simp only [Option.some.injEq,Prod.mk.injEq] at H
           obtain ⟨rfl,rfl,rfl,rfl,rfl⟩:=H
           have hnb101:=NB101_102.out
           have hnc101:=NB102_101.out
           have hnb102:=NB101_103.out
           have hnc102:=NB103_101.out
           have hcz103_0:wc.cell? ⟨gb101,0,none⟩ = some (.int .i64 x102000_3):=(zce BK101.out 0).trans rfl
           have hcz103_1:wc.cell? ⟨gb101,1,none⟩ = some (.int .i64 x102001_3):=(zce BK101.out 1).trans rfl
           have hcz103_2:wc.cell? ⟨gb101,2,none⟩ = some (.int .i64 x102002_3):=(zce BK101.out 2).trans rfl
           have hcz103_3:wc.cell? ⟨gb101,3,none⟩ = some (.string x102003_3):=(zce BK101.out 3).trans rfl
           have hfz103_0:=zfz BK101.out 0
           have hfz103_1:=zfz BK101.out 1
           have hfz103_2:=zfz BK101.out 2
           have hfz103_3:=zfz BK101.out 3
           have hnb104:=NB102_103.out
           have hnc104:=NB103_102.out
           have hcz105_0:wc.cell? ⟨gb102,0,none⟩ = some (.int .i64 x103000_3):=(zce BK102.out 0).trans rfl
           have hcz105_1:wc.cell? ⟨gb102,1,none⟩ = some (.int .i64 x103001_3):=(zce BK102.out 1).trans rfl
           have hcz105_2:wc.cell? ⟨gb102,2,none⟩ = some (.int .i64 x103002_3):=(zce BK102.out 2).trans rfl
           have hcz105_3:wc.cell? ⟨gb102,3,none⟩ = some (.string x103003_3):=(zce BK102.out 3).trans rfl
           have hfz105_0:=zfz BK102.out 0
           have hfz105_1:=zfz BK102.out 1
           have hfz105_2:=zfz BK102.out 2
           have hfz105_3:=zfz BK102.out 3
           go_wp2_with (first|((with_reducible refine gate_callee (f:=35) rfl ?_);refine goesL_ (some 76) rfl rfl Try.func35 (by kernel_rfl) rfl #[.int .i64 x0_3, .agg #[.int .i64 x102000_3, .int .i64 x102001_3, .int .i64 x102002_3, .string x102003_3], .agg #[.int .i64 x103000_3, .int .i64 x103001_3, .int .i64 x103002_3, .string x103003_3]] rfl (by (try simp only [List.map_toArray,List.map_cons,List.map_nil]);first|done|rfl|(simp only [List.length_drop,List.length_take];rfl)) ?_;(with_reducible refine (federationref1_decs.calls kj75 x0_3 x102000_3 x102001_3 x102002_3 x102003_3 x103000_3 x103001_3 x103002_3 x103003_3 t115 t116 t117 t118 t119 _ A100.out).mono ?_);rintro e w106 ⟨rfl,hb⟩;refine ⟨_,rfl,?_⟩;have n0_:=z_ (zbb (g:=gb101) (o:=.cells #[.int .i64 x102000_3, .int .i64 x102001_3, .int .i64 x102002_3, .string x102003_3] 23 (0,0)) (by (with_reducible repeat first|apply zbN|apply zb1|apply zbA);exact BK101.out) hb);have n1_:=z_ (zbb (g:=gb102) (o:=.cells #[.int .i64 x103000_3, .int .i64 x103001_3, .int .i64 x103002_3, .string x103003_3] 23 (0,0)) (by (with_reducible repeat first|apply zbN|apply zb1|apply zbA);exact BK102.out) hb);have n2_:=z_ (zbb (g:=gb103) (o:=.cells #[.int .i64 0, .int .i64 0, .int .i64 0, .string (⟨#[]⟩:ByteArray)] 23 (0,0)) (by (with_reducible repeat first|apply zbN|apply zb1|apply zbA);exact BK103.out) hb);have n3_:=z_ (below_step (by repeat first|(with_reducible first|exact HB.out|apply zA|apply zN|apply z1|refine zS ?_ GE101.out|refine zS ?_ GE102.out|refine zS ?_ GE103.out)|exact HB.out) hb);clear BK101;clear BK102;clear BK103;clear HB;have BK101:=n0_;have BK102:=n1_;have BK103:=n2_;have HB:=n3_;clear n0_ n1_ n2_ n3_;(try clear hb);(try clear hb2);(try clear hk);(try clear hi);have hcz107_0:w106.cell? ⟨gb103,0,none⟩ = some (.int .i64 0):=(zce BK103.out 0).trans rfl;have hcz107_1:w106.cell? ⟨gb103,1,none⟩ = some (.int .i64 0):=(zce BK103.out 1).trans rfl;have hcz107_2:w106.cell? ⟨gb103,2,none⟩ = some (.int .i64 0):=(zce BK103.out 2).trans rfl;have hcz107_3:w106.cell? ⟨gb103,3,none⟩ = some (.string (⟨#[]⟩:ByteArray)):=(zce BK103.out 3).trans rfl;have hfz107_0:=zfz BK103.out 0;have hfz107_1:=zfz BK103.out 1;have hfz107_2:=zfz BK103.out 2;have hfz107_3:=zfz BK103.out 3))
           refine bodyPost_ret (results_ct rfl _ _ gb103 23 #[.int .i64 t115, .int .i64 t116, .int .i64 t117, .string t118] (0,0) _ rfl (by (with_reducible repeat first|apply zbN|apply zb1|apply zbA);refine zbp (cs:=#[.int .i64 t115, .int .i64 t116, .int .i64 t117, .string (⟨#[]⟩:ByteArray)]) ?_ 3 _ rfl;(with_reducible repeat first|apply zbN|apply zb1|apply zbA);refine zbp (cs:=#[.int .i64 t115, .int .i64 t116, .int .i64 0, .string (⟨#[]⟩:ByteArray)]) ?_ 2 _ rfl;(with_reducible repeat first|apply zbN|apply zb1|apply zbA);refine zbp (cs:=#[.int .i64 t115, .int .i64 0, .int .i64 0, .string (⟨#[]⟩:ByteArray)]) ?_ 1 _ rfl;(with_reducible repeat first|apply zbN|apply zb1|apply zbA);refine zbp (cs:=#[.int .i64 0, .int .i64 0, .int .i64 0, .string (⟨#[]⟩:ByteArray)]) ?_ 0 _ rfl;(with_reducible repeat first|apply zbN|apply zb1|apply zbA);exact BK103.out) Try.underlying23 rfl (by kernel_rfl)) rfl ?_
           exact ⟨by first|rfl|(simp [errW_none,errW_some] <;> rfl)|(simp [*,errW_none,errW_some] <;> rfl),by repeat first|(with_reducible first|exact HB.out|apply zA|apply zN|apply z1|refine zS ?_ GE101.out|refine zS ?_ GE102.out|refine zS ?_ GE103.out)|exact HB.out⟩
         ·rw [if_neg c90] at H
          have c90b0:(x102000_3 == x103000_3) = false:=beq_eq_false_iff_ne.mpr c90
          have c90b1:(x102000_3 != x103000_3) = true:=bne_iff_ne.mpr c90
          simp only [Option.some.injEq,Prod.mk.injEq] at H
          obtain ⟨rfl,rfl,rfl,rfl,rfl⟩:=H
          have hnb108:=NB101_102.out
          have hnc108:=NB102_101.out
          have hnb109:=NB101_103.out
          have hnc109:=NB103_101.out
          have hcz110_0:wc.cell? ⟨gb101,0,none⟩ = some (.int .i64 x102000_3):=(zce BK101.out 0).trans rfl
          have hcz110_1:wc.cell? ⟨gb101,1,none⟩ = some (.int .i64 x102001_3):=(zce BK101.out 1).trans rfl
          have hcz110_2:wc.cell? ⟨gb101,2,none⟩ = some (.int .i64 x102002_3):=(zce BK101.out 2).trans rfl
          have hcz110_3:wc.cell? ⟨gb101,3,none⟩ = some (.string x102003_3):=(zce BK101.out 3).trans rfl
          have hfz110_0:=zfz BK101.out 0
          have hfz110_1:=zfz BK101.out 1
          have hfz110_2:=zfz BK101.out 2
          have hfz110_3:=zfz BK101.out 3
          have hnb111:=NB102_103.out
          have hnc111:=NB103_102.out
          have hcz112_0:wc.cell? ⟨gb102,0,none⟩ = some (.int .i64 x103000_3):=(zce BK102.out 0).trans rfl
          have hcz112_1:wc.cell? ⟨gb102,1,none⟩ = some (.int .i64 x103001_3):=(zce BK102.out 1).trans rfl
          have hcz112_2:wc.cell? ⟨gb102,2,none⟩ = some (.int .i64 x103002_3):=(zce BK102.out 2).trans rfl
          have hcz112_3:wc.cell? ⟨gb102,3,none⟩ = some (.string x103003_3):=(zce BK102.out 3).trans rfl
          have hfz112_0:=zfz BK102.out 0
          have hfz112_1:=zfz BK102.out 1
          have hfz112_2:=zfz BK102.out 2
          have hfz112_3:=zfz BK102.out 3
          have hcz113_0:wc.cell? ⟨gb103,0,none⟩ = some (.int .i64 0):=(zce BK103.out 0).trans rfl
          have hcz113_1:wc.cell? ⟨gb103,1,none⟩ = some (.int .i64 0):=(zce BK103.out 1).trans rfl
          have hcz113_2:wc.cell? ⟨gb103,2,none⟩ = some (.int .i64 0):=(zce BK103.out 2).trans rfl
          have hcz113_3:wc.cell? ⟨gb103,3,none⟩ = some (.string (⟨#[]⟩:ByteArray)):=(zce BK103.out 3).trans rfl
          have hfz113_0:=zfz BK103.out 0
          have hfz113_1:=zfz BK103.out 1
          have hfz113_2:=zfz BK103.out 2
          have hfz113_3:=zfz BK103.out 3
          go_wp2
          refine bodyPost_ret (results_ct rfl _ _ gb103 23 #[.int .i64 0, .int .i64 0, .int .i64 0, .string (⟨#[]⟩:ByteArray)] (0,0) _ rfl (by (with_reducible repeat first|apply zbN|apply zb1|apply zbA);refine zbp (cs:=#[.int .i64 0, .int .i64 0, .int .i64 0, .string (⟨#[]⟩:ByteArray)]) ?_ 3 _ rfl;(with_reducible repeat first|apply zbN|apply zb1|apply zbA);refine zbp (cs:=#[.int .i64 0, .int .i64 0, .int .i64 0, .string (⟨#[]⟩:ByteArray)]) ?_ 2 _ rfl;(with_reducible repeat first|apply zbN|apply zb1|apply zbA);refine zbp (cs:=#[.int .i64 0, .int .i64 0, .int .i64 0, .string (⟨#[]⟩:ByteArray)]) ?_ 1 _ rfl;(with_reducible repeat first|apply zbN|apply zb1|apply zbA);refine zbp (cs:=#[.int .i64 0, .int .i64 0, .int .i64 0, .string (⟨#[]⟩:ByteArray)]) ?_ 0 _ rfl;(with_reducible repeat first|apply zbN|apply zb1|apply zbA);exact BK103.out) Try.underlying23 rfl (by kernel_rfl)) rfl ?_
          exact ⟨by first|rfl|(simp [errW_none,errW_some] <;> rfl)|(simp [*,errW_none,errW_some] <;> rfl),by repeat first|(with_reducible first|exact HB.out|apply zA|apply zN|apply z1|refine zS ?_ GE101.out|refine zS ?_ GE102.out|refine zS ?_ GE103.out)|exact HB.out⟩
end Go.Proofs.Ytllkhdhanheieaa.R
