-- Written by drive.py and pack.py (programs of this proof's own) through the kit's printer; not trusted: Lean checks it.
import Derived.Test.YtllkhdhanheieaaCValReckons1
import Derived.Test.YtllkhdhanheieaaCValReckons4
namespace Go.Proofs.Ytllkhdhanheieaa.R
open Go.RowKit Go.Proofs.YtllkhdhanheieaaW.PrintWords Go.Proofs.YtllkhdhanheieaaW.PrintLast Go.Proofs.YtllkhdhanheieaaW.PrintMore
attribute [local go_sem] max2_int min2_int max_two min_two max_three min_three max_four min_four
attribute [local go_sem high] own_gtr own_leq own_geq own_cell_set Option.map_some fld23_1
set_option linter.unusedVariables false
set_option linter.unusedSimpArgs false
mutual
def val_Reckon.j0:Nat → Int → Int → Int → Int → ByteArray → Int → Int → Int → ByteArray → Option (Int × Int × Int × ByteArray × Int)
 | 0,_,_,_,_,_,_,_,_,_=>none
 | k + 1,x0,x102000,x102001,x102002,x102003,x103000,x103001,x103002,x103003=>if x0 = 6 then ((val_reckons.f x102000 x102001 x102002 x102003).bind fun t104=>(if t104 = true then ((val_reckons.f x103000 x103001 x103002 x103003).bind fun t105=>(val_Reckon.j1 k x0 (!t105) x102000 x102001 x102002 x102003 x103000 x103001 x103002 x103003)) else (val_Reckon.j1 k x0 true x102000 x102001 x102002 x102003 x103000 x103001 x103002 x103003))) else (if x0 = 7 then ((val_reckons.f x102000 x102001 x102002 x102003).bind fun t106=>(if t106 = true then ((val_reckons.f x103000 x103001 x103002 x103003).bind fun t107=>(val_Reckon.j1 k x0 (!t107) x102000 x102001 x102002 x102003 x103000 x103001 x103002 x103003)) else (val_Reckon.j1 k x0 true x102000 x102001 x102002 x102003 x103000 x103001 x103002 x103003))) else (if x0 = 8 then ((val_reckons.f x102000 x102001 x102002 x102003).bind fun t108=>(if t108 = true then ((val_reckons.f x103000 x103001 x103002 x103003).bind fun t109=>(val_Reckon.j1 k x0 (!t109) x102000 x102001 x102002 x102003 x103000 x103001 x103002 x103003)) else (val_Reckon.j1 k x0 true x102000 x102001 x102002 x102003 x103000 x103001 x103002 x103003))) else (val_Reckon.j1 k x0 true x102000 x102001 x102002 x102003 x103000 x103001 x103002 x103003)))
def val_Reckon.j1:Nat → Int → Bool → Int → Int → Int → ByteArray → Int → Int → Int → ByteArray → Option (Int × Int × Int × ByteArray × Int)
 | 0,_,_,_,_,_,_,_,_,_,_=>none
 | k + 1,x0,x17,x102000,x102001,x102002,x102003,x103000,x103001,x103002,x103003=>if x17 = true then (some (0,0,0,(⟨#[]⟩:ByteArray),5)) else (if x102000 = 0 then (val_Reckon.j2 k x0 true x102000 x102001 x102002 x102003 x103000 x103001 x103002 x103003) else (val_Reckon.j2 k x0 (x103000 == 0) x102000 x102001 x102002 x102003 x103000 x103001 x103002 x103003))
def val_Reckon.j2:Nat → Int → Bool → Int → Int → Int → ByteArray → Int → Int → Int → ByteArray → Option (Int × Int × Int × ByteArray × Int)
 | 0,_,_,_,_,_,_,_,_,_,_=>none
 | k + 1,x0,x39,x102000,x102001,x102002,x102003,x103000,x103001,x103002,x103003=>if x39 = true then (some (0,0,0,(⟨#[]⟩:ByteArray),0)) else (if x102000 = x103000 then ((val_reckoner_of.f k x102000 x0 x102000 x102001 x102002 x102003 x103000 x103001 x103002 x103003).bind fun bt110=>(if bt110.2.2.2.2 = true then (some (bt110.1,bt110.2.1,bt110.2.2.1,bt110.2.2.2.1,0)) else (some (0,0,0,(⟨#[]⟩:ByteArray),10)))) else (some (0,0,0,(⟨#[]⟩:ByteArray),5)))
end
def val_Reckon.f (k:Nat) (a0:Int) (a1_0:Int) (a1_1:Int) (a1_2:Int) (a1_3:ByteArray) (a2_0:Int) (a2_1:Int) (a2_2:Int) (a2_3:ByteArray):Option (Int × Int × Int × ByteArray × Int):=if a0 = 4 then (val_Reckon.j0 k 8 a1_0 0 0 (⟨#[]⟩:ByteArray) a1_0 a1_1 a1_2 a1_3) else (val_Reckon.j0 k a0 a1_0 a1_1 a1_2 a1_3 a2_0 a2_1 a2_2 a2_3)
theorem val_Reckon.mono_l:∀ k,(∀ y0 y1 y2 y3 y4 y5 y6 y7 y8,LeO (val_Reckon.j0 k y0 y1 y2 y3 y4 y5 y6 y7 y8) (val_Reckon.j0 (k + 1) y0 y1 y2 y3 y4 y5 y6 y7 y8)) ∧ (∀ y0 y1 y2 y3 y4 y5 y6 y7 y8 y9,LeO (val_Reckon.j1 k y0 y1 y2 y3 y4 y5 y6 y7 y8 y9) (val_Reckon.j1 (k + 1) y0 y1 y2 y3 y4 y5 y6 y7 y8 y9)) ∧ (∀ y0 y1 y2 y3 y4 y5 y6 y7 y8 y9,LeO (val_Reckon.j2 k y0 y1 y2 y3 y4 y5 y6 y7 y8 y9) (val_Reckon.j2 (k + 1) y0 y1 y2 y3 y4 y5 y6 y7 y8 y9))
 | 0=>⟨fun _ _ _ _ _ _ _ _ _ r h=>by simp [val_Reckon.j0] at h,fun _ _ _ _ _ _ _ _ _ _ r h=>by simp [val_Reckon.j1] at h,fun _ _ _ _ _ _ _ _ _ _ r h=>by simp [val_Reckon.j2] at h⟩
 | k + 1=>by
  obtain ⟨ih0,ih1,ih2⟩:=val_Reckon.mono_l k
  refine ⟨?_,?_,?_⟩
  ·intro y0 y1 y2 y3 y4 y5 y6 y7 y8
   unfold val_Reckon.j0
   repeat' first
   | (with_reducible exact ih0 _ _ _ _ _ _ _ _ _)
   | (with_reducible exact ih1 _ _ _ _ _ _ _ _ _ _)
   | (with_reducible exact ih2 _ _ _ _ _ _ _ _ _ _)
   | (with_reducible exact val_reckoner_of.mono _ _ _ _ _ _ _ _ _ _ _)
   | (with_reducible exact LeO.refl _)
   | (with_reducible exact LeO.none _)
   | (with_reducible refine LeO.ite ?_ ?_)
   | (with_reducible refine LeO.bind ?_ (fun _=>?_))
   | exact ih0 _ _ _ _ _ _ _ _ _
   | exact ih1 _ _ _ _ _ _ _ _ _ _
   | exact ih2 _ _ _ _ _ _ _ _ _ _
   | exact val_reckoner_of.mono _ _ _ _ _ _ _ _ _ _ _
   | exact LeO.none _
   | refine LeO.ite ?_ ?_
   | refine LeO.bind ?_ (fun _=>?_)
  ·intro y0 y1 y2 y3 y4 y5 y6 y7 y8 y9
   unfold val_Reckon.j1
   repeat' first
   | (with_reducible exact ih0 _ _ _ _ _ _ _ _ _)
   | (with_reducible exact ih1 _ _ _ _ _ _ _ _ _ _)
   | (with_reducible exact ih2 _ _ _ _ _ _ _ _ _ _)
   | (with_reducible exact val_reckoner_of.mono _ _ _ _ _ _ _ _ _ _ _)
   | (with_reducible exact LeO.refl _)
   | (with_reducible exact LeO.none _)
   | (with_reducible refine LeO.ite ?_ ?_)
   | (with_reducible refine LeO.bind ?_ (fun _=>?_))
   | exact ih0 _ _ _ _ _ _ _ _ _
   | exact ih1 _ _ _ _ _ _ _ _ _ _
   | exact ih2 _ _ _ _ _ _ _ _ _ _
   | exact val_reckoner_of.mono _ _ _ _ _ _ _ _ _ _ _
   | exact LeO.none _
   | refine LeO.ite ?_ ?_
   | refine LeO.bind ?_ (fun _=>?_)
  ·intro y0 y1 y2 y3 y4 y5 y6 y7 y8 y9
   unfold val_Reckon.j2
   repeat' first
   | (with_reducible exact ih0 _ _ _ _ _ _ _ _ _)
   | (with_reducible exact ih1 _ _ _ _ _ _ _ _ _ _)
   | (with_reducible exact ih2 _ _ _ _ _ _ _ _ _ _)
   | (with_reducible exact val_reckoner_of.mono _ _ _ _ _ _ _ _ _ _ _)
   | (with_reducible exact LeO.refl _)
   | (with_reducible exact LeO.none _)
   | (with_reducible refine LeO.ite ?_ ?_)
   | (with_reducible refine LeO.bind ?_ (fun _=>?_))
   | exact ih0 _ _ _ _ _ _ _ _ _
   | exact ih1 _ _ _ _ _ _ _ _ _ _
   | exact ih2 _ _ _ _ _ _ _ _ _ _
   | exact val_reckoner_of.mono _ _ _ _ _ _ _ _ _ _ _
   | exact LeO.none _
   | refine LeO.ite ?_ ?_
   | refine LeO.bind ?_ (fun _=>?_)
theorem val_Reckon.mono:∀ a0 a1 a2 a3 a4 a5 a6 a7 a8 k,LeO (val_Reckon.f k a0 a1 a2 a3 a4 a5 a6 a7 a8) (val_Reckon.f (k + 1) a0 a1 a2 a3 a4 a5 a6 a7 a8):=by
 intro a0 a1 a2 a3 a4 a5 a6 a7 a8 k
 obtain ⟨ih0,ih1,ih2⟩:=val_Reckon.mono_l k
 unfold val_Reckon.f
 repeat' first
   | (with_reducible exact ih0 _ _ _ _ _ _ _ _ _)
   | (with_reducible exact ih1 _ _ _ _ _ _ _ _ _ _)
   | (with_reducible exact ih2 _ _ _ _ _ _ _ _ _ _)
   | (with_reducible exact val_reckoner_of.mono _ _ _ _ _ _ _ _ _ _ _)
   | (with_reducible exact LeO.refl _)
   | (with_reducible exact LeO.none _)
   | (with_reducible refine LeO.ite ?_ ?_)
   | (with_reducible refine LeO.bind ?_ (fun _=>?_))
   | exact ih0 _ _ _ _ _ _ _ _ _
   | exact ih1 _ _ _ _ _ _ _ _ _ _
   | exact ih2 _ _ _ _ _ _ _ _ _ _
   | exact val_reckoner_of.mono _ _ _ _ _ _ _ _ _ _ _
   | exact LeO.none _
   | refine LeO.ite ?_ ?_
   | refine LeO.bind ?_ (fun _=>?_)
set_option maxHeartbeats 8000000 in
set_option maxRecDepth 100000 in
theorem val_Reckon.calls (k:Nat) (a0:Int) (a1_0:Int) (a1_1:Int) (a1_2:Int) (a1_3:ByteArray) (a2_0:Int) (a2_1:Int) (a2_2:Int) (a2_3:ByteArray) (r1:Int) (r2:Int) (r3:Int) (r4:ByteArray) (r5:Int) (w:World) (h:val_Reckon.f k a0 a1_0 a1_1 a1_2 a1_3 a2_0 a2_1 a2_2 a2_3 = some (r1,r2,r3,r4,r5)) :
  Calls Try.prog 20 #[.int .i64 a0, .agg #[.int .i64 a1_0, .int .i64 a1_1, .int .i64 a1_2, .string a1_3], .agg #[.int .i64 a2_0, .int .i64 a2_1, .int .i64 a2_2, .string a2_3]] w fun e w'=>e = .returned (.tuple #[.agg #[.int .i64 r1, .int .i64 r2, .int .i64 r3, .string r4], .int .i64 r5]) ∧ Below w.heap.size w w':=by
 have hu23:=Try.underlying23
 have hu54:=Try.underlying54
 have HB:=z_ (Below.refl w.heap.size w)
 have H:(if a0 = 4 then (val_Reckon.j0 k 8 a1_0 0 0 (⟨#[]⟩:ByteArray) a1_0 a1_1 a1_2 a1_3) else (val_Reckon.j0 k a0 a1_0 a1_1 a1_2 a1_3 a2_0 a2_1 a2_2 a2_3)) = some (r1,r2,r3,r4,r5):=h
 clear h
 have HC4:=z_ H
 clear H
 go_enter Try.func20,Try.ntmps20
 go_upto_if 12 with (first|((with_reducible refine gate_dst (N:=4) rfl ?_);refine box_event ?hg (N:=4) ?hd (cs:=#[.int .i64 a1_0, .int .i64 a1_1, .int .i64 a1_2, .string a1_3]) (t:=23) ?hr ?_;(case hd=>rfl);(case hg=>rfl);(case hr=>first|(go_simp;done)|(go_simp;rfl));intro gb101 hg w5 hbox hb;have n0_:=z_ (below_step (by repeat first|(with_reducible first|exact HB.out|apply zA|apply zN|apply z1)|exact HB.out) hb);have n1_:=z_ (hbox);have n2_:=z_ ((by rw [hg];exact (zBs (by repeat first|(with_reducible first|exact HB.out|apply zA|apply zN|apply z1)|exact HB.out)):w.heap.size ≤ gb101));have n3_:=z_ ((by rw [hg];exact (zBs (by repeat first|(with_reducible first|exact HB.out|apply zA|apply zN|apply z1)|exact HB.out)):w.heap.size ≤ gb101));clear HB;have HB:=n0_;have BK101:=n1_;have GW101:=n2_;have GE101:=n3_;clear n0_ n1_ n2_ n3_;clear hb hbox hg)|((with_reducible refine gate_dst (N:=5) rfl ?_);refine box_event ?hg (N:=5) ?hd (cs:=#[.int .i64 a2_0, .int .i64 a2_1, .int .i64 a2_2, .string a2_3]) (t:=23) ?hr ?_;(case hd=>rfl);(case hg=>rfl);(case hr=>first|(go_simp;done)|(go_simp;rfl));intro gb102 hg w6 hbox hb;have n0_:=z_ (zbb (g:=gb101) (o:=.cells #[.int .i64 a1_0, .int .i64 a1_1, .int .i64 a1_2, .string a1_3] 23 (0,0)) (by (with_reducible repeat first|apply zbN|apply zb1|apply zbA);exact BK101.out) hb);have n1_:=z_ (below_step (by repeat first|(with_reducible first|exact HB.out|apply zA|apply zN|apply z1|refine zS ?_ GE101.out)|exact HB.out) hb);have n2_:=z_ (hbox);have n3_:=z_ ((by rw [hg];exact (zBs (by repeat first|(with_reducible first|exact HB.out|apply zA|apply zN|apply z1|refine zS ?_ GE101.out)|exact HB.out)):w.heap.size ≤ gb102));have n4_:=z_ ((by rw [hg];exact (zBs (by repeat first|(with_reducible first|exact HB.out|apply zA|apply zN|apply z1|refine zS ?_ GE101.out)|exact HB.out)):w.heap.size ≤ gb102));have n5_:=z_ ((by rw [hg];exact Nat.ne_of_lt (blk_lt (g:=gb101) (o:=.cells #[.int .i64 a1_0, .int .i64 a1_1, .int .i64 a1_2, .string a1_3] 23 (0,0)) (by (with_reducible repeat first|apply zbN|apply zb1|apply zbA);exact BK101.out)):gb101 ≠ gb102));have n6_:=z_ ((by rw [hg];exact Nat.ne_of_gt (blk_lt (g:=gb101) (o:=.cells #[.int .i64 a1_0, .int .i64 a1_1, .int .i64 a1_2, .string a1_3] 23 (0,0)) (by (with_reducible repeat first|apply zbN|apply zb1|apply zbA);exact BK101.out)):gb102 ≠ gb101));clear BK101;clear HB;have BK101:=n0_;have HB:=n1_;have BK102:=n2_;have GW102:=n3_;have GE102:=n4_;have NB101_102:=n5_;have NB102_101:=n6_;clear n0_ n1_ n2_ n3_ n4_ n5_ n6_;clear hb hbox hg)|((with_reducible refine gate_dst (N:=6) rfl ?_);refine box_event ?hg (N:=6) ?hd (cs:=#[.int .i64 0, .int .i64 0, .int .i64 0, .string (⟨#[]⟩:ByteArray)]) (t:=23) ?hr ?_;(case hd=>rfl);(case hg=>rfl);(case hr=>first|(go_simp;done)|(go_simp;rfl));intro gb103 hg w7 hbox hb;have n0_:=z_ (zbb (g:=gb101) (o:=.cells #[.int .i64 a1_0, .int .i64 a1_1, .int .i64 a1_2, .string a1_3] 23 (0,0)) (by (with_reducible repeat first|apply zbN|apply zb1|apply zbA);exact BK101.out) hb);have n1_:=z_ (zbb (g:=gb102) (o:=.cells #[.int .i64 a2_0, .int .i64 a2_1, .int .i64 a2_2, .string a2_3] 23 (0,0)) (by (with_reducible repeat first|apply zbN|apply zb1|apply zbA);exact BK102.out) hb);have n2_:=z_ (below_step (by repeat first|(with_reducible first|exact HB.out|apply zA|apply zN|apply z1|refine zS ?_ GE101.out|refine zS ?_ GE102.out)|exact HB.out) hb);have n3_:=z_ (hbox);have n4_:=z_ ((by rw [hg];exact (zBs (by repeat first|(with_reducible first|exact HB.out|apply zA|apply zN|apply z1|refine zS ?_ GE101.out|refine zS ?_ GE102.out)|exact HB.out)):w.heap.size ≤ gb103));have n5_:=z_ ((by rw [hg];exact (zBs (by repeat first|(with_reducible first|exact HB.out|apply zA|apply zN|apply z1|refine zS ?_ GE101.out|refine zS ?_ GE102.out)|exact HB.out)):w.heap.size ≤ gb103));have n6_:=z_ ((by rw [hg];exact Nat.ne_of_lt (blk_lt (g:=gb101) (o:=.cells #[.int .i64 a1_0, .int .i64 a1_1, .int .i64 a1_2, .string a1_3] 23 (0,0)) (by (with_reducible repeat first|apply zbN|apply zb1|apply zbA);exact BK101.out)):gb101 ≠ gb103));have n7_:=z_ ((by rw [hg];exact Nat.ne_of_gt (blk_lt (g:=gb101) (o:=.cells #[.int .i64 a1_0, .int .i64 a1_1, .int .i64 a1_2, .string a1_3] 23 (0,0)) (by (with_reducible repeat first|apply zbN|apply zb1|apply zbA);exact BK101.out)):gb103 ≠ gb101));have n8_:=z_ ((by rw [hg];exact Nat.ne_of_lt (blk_lt (g:=gb102) (o:=.cells #[.int .i64 a2_0, .int .i64 a2_1, .int .i64 a2_2, .string a2_3] 23 (0,0)) (by (with_reducible repeat first|apply zbN|apply zb1|apply zbA);exact BK102.out)):gb102 ≠ gb103));have n9_:=z_ ((by rw [hg];exact Nat.ne_of_gt (blk_lt (g:=gb102) (o:=.cells #[.int .i64 a2_0, .int .i64 a2_1, .int .i64 a2_2, .string a2_3] 23 (0,0)) (by (with_reducible repeat first|apply zbN|apply zb1|apply zbA);exact BK102.out)):gb103 ≠ gb102));clear BK101;clear BK102;clear HB;have BK101:=n0_;have BK102:=n1_;have HB:=n2_;have BK103:=n3_;have GW103:=n4_;have GE103:=n5_;have NB101_103:=n6_;have NB103_101:=n7_;have NB102_103:=n8_;have NB103_102:=n9_;clear n0_ n1_ n2_ n3_ n4_ n5_ n6_ n7_ n8_ n9_;clear hb hbox hg))
 (try simp only [Act.put,List.setIfInBounds_toArray,List.set_cons_zero,List.set_cons_succ])
 go_cut [0] (fun v0 wc=>∃ (kq:Nat) (x0_3:Int) (x102000_3:Int) (x102001_3:Int) (x102002_3:Int) (x102003_3:ByteArray) (x103000_3:Int) (x103001_3:Int) (x103002_3:Int) (x103003_3:ByteArray),v0 = .int .i64 x0_3 ∧ Aside0 (val_Reckon.j0 kq x0_3 x102000_3 x102001_3 x102002_3 x102003_3 x103000_3 x103001_3 x103002_3 x103003_3 = some (r1,r2,r3,r4,r5)) ∧ Aside0 (kq ≤ k) ∧ Aside0 (wc.heap[gb101]? = some (.cells #[.int .i64 x102000_3, .int .i64 x102001_3, .int .i64 x102002_3, .string x102003_3] 23 (0,0))) ∧ Aside0 (wc.heap[gb102]? = some (.cells #[.int .i64 x103000_3, .int .i64 x103001_3, .int .i64 x103002_3, .string x103003_3] 23 (0,0))) ∧ Aside0 (wc.heap[gb103]? = some (.cells #[.int .i64 0, .int .i64 0, .int .i64 0, .string (⟨#[]⟩:ByteArray)] 23 (0,0))) ∧ Aside0 (Below w.heap.size w wc))
 case first =>
  have H:=HC4.out
  clear HC4
  by_cases c8:a0 = 4
  ·rw [if_pos c8] at H
   have c8b0:(a0 == 4) = true:=beq_iff_eq.mpr c8
   have c8b1:(a0 != 4) = false:=bne_eq_false_iff_eq.mpr c8
   clear c8
   (first|rw [c8b0]|(simp only [i64_w,i32_w];rw [c8b0])|skip)
   have H':=z_ H
   clear H
   try go_wp2
   have n0_:=z_ (zb1 BK101.out)
   have n1_:=z_ (zb1 BK102.out)
   have n2_:=z_ (zb1 BK103.out)
   have n3_:=z_ (z1 HB.out)
   clear BK101
   clear BK102
   clear BK103
   clear HB
   have BK101:=n0_
   have BK102:=n1_
   have BK103:=n2_
   have HB:=n3_
   clear n0_ n1_ n2_ n3_
   refine start_ (n:=7) (S:=fun w'=>w'.cell? ⟨gb101,0,none⟩ = some (.int .i64 a1_0) ∧ w'.cell? ⟨gb101,1,none⟩ = some (.int .i64 a1_1) ∧ w'.cell? ⟨gb101,2,none⟩ = some (.int .i64 a1_2) ∧ w'.cell? ⟨gb101,3,none⟩ = some (.string a1_3)) (ds:=[5,6]) #[false,false,false,false,false,false,false] (by kernel_rfl) rfl rfl ⟨(zce BK101.out 0).trans rfl,(zce BK101.out 1).trans rfl,(zce BK101.out 2).trans rfl,(zce BK101.out 3).trans rfl⟩ (fun hHeld=>?_)
   generalize w7.drew = w9 at BK101 BK102 BK103 HB hHeld ⊢
   refine pure_ (i:=0) (N:=some 13) (v:=?_) (a':=?_) #[true,false,false,false,false,false,false] rfl rfl (by kernel_rfl) (fun _ _ _ h=>h) (Or.inl ⟨by rfl,?_⟩) ?_ ?_
   rotate_left
   ·intro w'
    go_simp
    with_reducible rfl
   rotate_left
   ·simp only [Act.put,List.setIfInBounds_toArray,List.set_cons_zero,List.set_cons_succ,i64_w,i32_w]
    rfl
   refine take_ (i:=1) (N:=some 14) (v:=?_) (a':=?_) #[true,true,false,false,false,false,false] rfl rfl (by kernel_rfl) (fun _ _ _ h=>h) (Or.inl ⟨by rfl,?_⟩) hHeld ?_ ?_
   rotate_left
   ·rintro w' ⟨s0,s1,s2,s3⟩
    go_simp
    with_reducible rfl
   rotate_left
   ·simp only [Act.put,List.setIfInBounds_toArray,List.set_cons_zero,List.set_cons_succ,i64_w,i32_w]
    rfl
   refine pure_ (i:=2) (N:=some 15) (v:=?_) (a':=?_) #[true,true,true,false,false,false,false] rfl rfl (by kernel_rfl) (fun _ _ _ h=>h) (Or.inl ⟨by rfl,?_⟩) ?_ ?_
   rotate_left
   ·intro w'
    go_simp
    with_reducible rfl
   rotate_left
   ·simp only [Act.put,List.setIfInBounds_toArray,List.set_cons_zero,List.set_cons_succ,i64_w,i32_w]
    rfl
   refine take_ (i:=3) (N:=some 16) (v:=?_) (a':=?_) #[true,true,true,true,false,false,false] rfl rfl (by kernel_rfl) (fun _ _ _ h=>h) (Or.inl ⟨by rfl,?_⟩) hHeld ?_ ?_
   rotate_left
   ·rintro w' ⟨s0,s1,s2,s3⟩
    go_simp
    with_reducible rfl
   rotate_left
   ·simp only [Act.put,List.setIfInBounds_toArray,List.set_cons_zero,List.set_cons_succ,i64_w,i32_w]
    rfl
   refine pure_ (i:=4) (N:=some 0) (v:=?_) (a':=?_) #[true,true,true,true,true,false,false] rfl rfl (by kernel_rfl) (fun _ _ _ h=>h) (Or.inl ⟨by rfl,?_⟩) ?_ ?_
   rotate_left
   ·intro w'
    go_simp
    with_reducible rfl
   rotate_left
   ·simp only [Act.put,List.setIfInBounds_toArray,List.set_cons_zero,List.set_cons_succ,i64_w,i32_w]
    rfl
   refine last_ (i:=5) (N:=none) #[true,true,true,true,true,true,false] rfl rfl (by kernel_rfl) (by decide) (fun K hK=>?_)
   have hs10:w9.cell? ⟨gb101,0,none⟩ = some (.int .i64 a1_0):=(zce BK101.out 0).trans rfl
   have hfs10:=zfz BK101.out 0
   have hns10_1:=NB102_101.out
   have hns10_2:=NB103_101.out
   have hms10_1:=NB101_102.out
   have hms10_2:=NB101_103.out
   have hs11:w9.cell? ⟨gb101,1,none⟩ = some (.int .i64 a1_1):=(zce BK101.out 1).trans rfl
   have hfs11:=zfz BK101.out 1
   have hns11_1:=NB102_101.out
   have hns11_2:=NB103_101.out
   have hms11_1:=NB101_102.out
   have hms11_2:=NB101_103.out
   have hs12:w9.cell? ⟨gb101,2,none⟩ = some (.int .i64 a1_2):=(zce BK101.out 2).trans rfl
   have hfs12:=zfz BK101.out 2
   have hns12_1:=NB102_101.out
   have hns12_2:=NB103_101.out
   have hms12_1:=NB101_102.out
   have hms12_2:=NB101_103.out
   have hs13:w9.cell? ⟨gb101,3,none⟩ = some (.string a1_3):=(zce BK101.out 3).trans rfl
   have hfs13:=zfz BK101.out 3
   have hns13_1:=NB102_101.out
   have hns13_2:=NB103_101.out
   have hms13_1:=NB101_102.out
   have hms13_2:=NB101_103.out
   refine skip_ (w1:=?_) (by rfl) rfl ?_ ?_
   rotate_left
   ·go_simp
    rfl
   refine hK.out _ _ ?_
   clear hK K
   refine last_ (i:=6) (N:=none) #[true,true,true,true,true,true,true] rfl rfl (by kernel_rfl) (by decide) (fun K hK=>?_)
   have hs14:w9.cell? ⟨gb102,0,none⟩ = some (.int .i64 a2_0):=(zce BK102.out 0).trans rfl
   have hfs14:=zfz BK102.out 0
   have hns14_0:=NB101_102.out
   have hns14_2:=NB103_102.out
   have hms14_0:=NB102_101.out
   have hms14_2:=NB102_103.out
   have hs15:w9.cell? ⟨gb102,1,none⟩ = some (.int .i64 a2_1):=(zce BK102.out 1).trans rfl
   have hfs15:=zfz BK102.out 1
   have hns15_0:=NB101_102.out
   have hns15_2:=NB103_102.out
   have hms15_0:=NB102_101.out
   have hms15_2:=NB102_103.out
   have hs16:w9.cell? ⟨gb102,2,none⟩ = some (.int .i64 a2_2):=(zce BK102.out 2).trans rfl
   have hfs16:=zfz BK102.out 2
   have hns16_0:=NB101_102.out
   have hns16_2:=NB103_102.out
   have hms16_0:=NB102_101.out
   have hms16_2:=NB102_103.out
   have hs17:w9.cell? ⟨gb102,3,none⟩ = some (.string a2_3):=(zce BK102.out 3).trans rfl
   have hfs17:=zfz BK102.out 3
   have hns17_0:=NB101_102.out
   have hns17_2:=NB103_102.out
   have hms17_0:=NB102_101.out
   have hms17_2:=NB102_103.out
   refine skip_ (w1:=?_) (by rfl) rfl ?_ ?_
   rotate_left
   ·go_simp
    rfl
   refine hK.out _ _ ?_
   clear hK K
   refine done_ (by kernel_rfl) ?_
   try go_wp2
   go_meet
   case rel=>exact ⟨_,(8),(a1_0),(0),(0),((⟨#[]⟩:ByteArray)),(a1_0),(a1_1),(a1_2),(a1_3),(by first|rfl|(simp;done)|(simp [*];done)),H',⟨by first|omega|exact Nat.le_refl _⟩,⟨by (with_reducible repeat first|apply zbN|apply zb1|apply zbA);refine zbf ?_ NB101_102.out _;(with_reducible repeat first|apply zbN|apply zb1|apply zbA);refine zbf ?_ NB101_102.out _;(with_reducible repeat first|apply zbN|apply zb1|apply zbA);refine zbf ?_ NB101_102.out _;(with_reducible repeat first|apply zbN|apply zb1|apply zbA);refine zbf ?_ NB101_102.out _;(with_reducible repeat first|apply zbN|apply zb1|apply zbA);refine zbp (cs:=#[.int .i64 a1_0, .int .i64 0, .int .i64 0, .string a1_3]) ?_ 3 _ rfl;(with_reducible repeat first|apply zbN|apply zb1|apply zbA);refine zbp (cs:=#[.int .i64 a1_0, .int .i64 0, .int .i64 a1_2, .string a1_3]) ?_ 2 _ rfl;(with_reducible repeat first|apply zbN|apply zb1|apply zbA);refine zbp (cs:=#[.int .i64 a1_0, .int .i64 a1_1, .int .i64 a1_2, .string a1_3]) ?_ 1 _ rfl;(with_reducible repeat first|apply zbN|apply zb1|apply zbA);refine zbp (cs:=#[.int .i64 a1_0, .int .i64 a1_1, .int .i64 a1_2, .string a1_3]) ?_ 0 _ rfl;(with_reducible repeat first|apply zbN|apply zb1|apply zbA);exact BK101.out⟩,⟨by (with_reducible repeat first|apply zbN|apply zb1|apply zbA);refine zbp (cs:=#[.int .i64 a1_0, .int .i64 a1_1, .int .i64 a1_2, .string a2_3]) ?_ 3 _ rfl;(with_reducible repeat first|apply zbN|apply zb1|apply zbA);refine zbp (cs:=#[.int .i64 a1_0, .int .i64 a1_1, .int .i64 a2_2, .string a2_3]) ?_ 2 _ rfl;(with_reducible repeat first|apply zbN|apply zb1|apply zbA);refine zbp (cs:=#[.int .i64 a1_0, .int .i64 a2_1, .int .i64 a2_2, .string a2_3]) ?_ 1 _ rfl;(with_reducible repeat first|apply zbN|apply zb1|apply zbA);refine zbp (cs:=#[.int .i64 a2_0, .int .i64 a2_1, .int .i64 a2_2, .string a2_3]) ?_ 0 _ rfl;(with_reducible repeat first|apply zbN|apply zb1|apply zbA);refine zbf ?_ NB102_101.out _;(with_reducible repeat first|apply zbN|apply zb1|apply zbA);refine zbf ?_ NB102_101.out _;(with_reducible repeat first|apply zbN|apply zb1|apply zbA);refine zbf ?_ NB102_101.out _;(with_reducible repeat first|apply zbN|apply zb1|apply zbA);refine zbf ?_ NB102_101.out _;(with_reducible repeat first|apply zbN|apply zb1|apply zbA);exact BK102.out⟩,⟨by (with_reducible repeat first|apply zbN|apply zb1|apply zbA);refine zbf ?_ NB103_102.out _;(with_reducible repeat first|apply zbN|apply zb1|apply zbA);refine zbf ?_ NB103_102.out _;(with_reducible repeat first|apply zbN|apply zb1|apply zbA);refine zbf ?_ NB103_102.out _;(with_reducible repeat first|apply zbN|apply zb1|apply zbA);refine zbf ?_ NB103_102.out _;(with_reducible repeat first|apply zbN|apply zb1|apply zbA);refine zbf ?_ NB103_101.out _;(with_reducible repeat first|apply zbN|apply zb1|apply zbA);refine zbf ?_ NB103_101.out _;(with_reducible repeat first|apply zbN|apply zb1|apply zbA);refine zbf ?_ NB103_101.out _;(with_reducible repeat first|apply zbN|apply zb1|apply zbA);refine zbf ?_ NB103_101.out _;(with_reducible repeat first|apply zbN|apply zb1|apply zbA);exact BK103.out⟩,⟨by repeat first|(with_reducible first|exact HB.out|apply zA|apply zN|apply z1|refine zS ?_ GE101.out|refine zS ?_ GE102.out|refine zS ?_ GE103.out)|exact HB.out⟩⟩
  ·rw [if_neg c8] at H
   have c8b0:(a0 == 4) = false:=beq_eq_false_iff_ne.mpr c8
   have c8b1:(a0 != 4) = true:=bne_iff_ne.mpr c8
   (first|rw [c8b0]|(simp only [i64_w,i32_w];rw [c8b0])|skip)
   have H':=z_ H
   clear H
   go_wp2
   go_meet
   case rel=>exact ⟨_,(a0),(a1_0),(a1_1),(a1_2),(a1_3),(a2_0),(a2_1),(a2_2),(a2_3),(by first|rfl|(simp;done)|(simp [*];done)),H',⟨by first|omega|exact Nat.le_refl _⟩,⟨by (with_reducible repeat first|apply zbN|apply zb1|apply zbA);exact BK101.out⟩,⟨by (with_reducible repeat first|apply zbN|apply zb1|apply zbA);exact BK102.out⟩,⟨by (with_reducible repeat first|apply zbN|apply zb1|apply zbA);exact BK103.out⟩,⟨by repeat first|(with_reducible first|exact HB.out|apply zA|apply zN|apply z1|refine zS ?_ GE101.out|refine zS ?_ GE102.out|refine zS ?_ GE103.out)|exact HB.out⟩⟩
 case rest =>
  clear HC4
  try clear c2
  try clear p2
  try clear c8
  try clear c8b0
  try clear c8b1
  obtain ⟨kq,x0_3,x102000_3,x102001_3,x102002_3,x102003_3,x103000_3,x103001_3,x103002_3,x103003_3,rfl,HA,HJ3,BK101,BK102,BK103,HB⟩:=hcut
  cases kq with
  | zero=>exact absurd HA.out (by simp [val_Reckon.j0])
  | succ kj3 =>
   have H:=HA.out
   clear HA
   simp only [val_Reckon.j0] at H
   have HC18:=z_ H
   clear H
   go_upto_region 3 with (fail)
   go_cut [17] (fun v17 wc=>∃ (kq:Nat) (x17_17:Bool),v17 = .bool x17_17 ∧ Aside0 (val_Reckon.j1 kq x0_3 x17_17 x102000_3 x102001_3 x102002_3 x102003_3 x103000_3 x103001_3 x103002_3 x103003_3 = some (r1,r2,r3,r4,r5)) ∧ Aside0 (kq ≤ kj3) ∧ Aside0 (wc.heap[gb101]? = some (.cells #[.int .i64 x102000_3, .int .i64 x102001_3, .int .i64 x102002_3, .string x102003_3] 23 (0,0))) ∧ Aside0 (wc.heap[gb102]? = some (.cells #[.int .i64 x103000_3, .int .i64 x103001_3, .int .i64 x103002_3, .string x103003_3] 23 (0,0))) ∧ Aside0 (wc.heap[gb103]? = some (.cells #[.int .i64 0, .int .i64 0, .int .i64 0, .string (⟨#[]⟩:ByteArray)] 23 (0,0))) ∧ Aside0 (Below w.heap.size w wc))
   case first =>
    have H:=HC18.out
    clear HC18
    by_cases c19:x0_3 = 6
    ·rw [if_pos c19] at H
     have c19b0:(x0_3 == 6) = true:=beq_iff_eq.mpr c19
     have c19b1:(x0_3 != 6) = false:=bne_eq_false_iff_eq.mpr c19
     clear c19
     (first|rw [c19b0]|(simp only [i64_w,i32_w];rw [c19b0])|skip)
     replace H:=Option.bind_eq_some_iff.mp H
     obtain ⟨t104,A200,H⟩:=H
     replace H:(if t104 = true then ((val_reckons.f x103000_3 x103001_3 x103002_3 x103003_3).bind fun t105=>(val_Reckon.j1 kj3 x0_3 (!t105) x102000_3 x102001_3 x102002_3 x102003_3 x103000_3 x103001_3 x103002_3 x103003_3)) else (val_Reckon.j1 kj3 x0_3 true x102000_3 x102001_3 x102002_3 x102003_3 x103000_3 x103001_3 x103002_3 x103003_3)) = some (r1,r2,r3,r4,r5):=H
     have A20:=z_ A200
     clear A200
     by_cases c21:t104 = true
     ·subst c21
      have H1:((val_reckons.f x103000_3 x103001_3 x103002_3 x103003_3).bind fun t105=>(val_Reckon.j1 kj3 x0_3 (!t105) x102000_3 x102001_3 x102002_3 x102003_3 x103000_3 x103001_3 x103002_3 x103003_3)) = some (r1,r2,r3,r4,r5):=by rw [if_pos rfl] at H;exact H
      clear H
      have H:=H1
      clear H1
      replace H:=Option.bind_eq_some_iff.mp H
      obtain ⟨t105,A220,H⟩:=H
      replace H:(val_Reckon.j1 kj3 x0_3 (!t105) x102000_3 x102001_3 x102002_3 x102003_3 x103000_3 x103001_3 x103002_3 x103003_3) = some (r1,r2,r3,r4,r5):=H
      have A22:=z_ A220
      clear A220
      have H':=z_ H
      clear H
      have hnb23:=NB101_102.out
      have hnc23:=NB102_101.out
      have hnb24:=NB101_103.out
      have hnc24:=NB103_101.out
      have hcz25_0:wc.cell? ⟨gb101,0,none⟩ = some (.int .i64 x102000_3):=(zce BK101.out 0).trans rfl
      have hcz25_1:wc.cell? ⟨gb101,1,none⟩ = some (.int .i64 x102001_3):=(zce BK101.out 1).trans rfl
      have hcz25_2:wc.cell? ⟨gb101,2,none⟩ = some (.int .i64 x102002_3):=(zce BK101.out 2).trans rfl
      have hcz25_3:wc.cell? ⟨gb101,3,none⟩ = some (.string x102003_3):=(zce BK101.out 3).trans rfl
      have hfz25_0:=zfz BK101.out 0
      have hfz25_1:=zfz BK101.out 1
      have hfz25_2:=zfz BK101.out 2
      have hfz25_3:=zfz BK101.out 3
      go_wp2_with (first|(go_at_call 31;(with_reducible refine (val_reckons.calls x102000_3 x102001_3 x102002_3 x102003_3 true _ A20.out).mono ?_);rintro e w26 ⟨rfl,hb⟩;have n0_:=z_ (zbb (g:=gb101) (o:=.cells #[.int .i64 x102000_3, .int .i64 x102001_3, .int .i64 x102002_3, .string x102003_3] 23 (0,0)) (by (with_reducible repeat first|apply zbN|apply zb1|apply zbA);exact BK101.out) hb);have n1_:=z_ (zbb (g:=gb102) (o:=.cells #[.int .i64 x103000_3, .int .i64 x103001_3, .int .i64 x103002_3, .string x103003_3] 23 (0,0)) (by (with_reducible repeat first|apply zbN|apply zb1|apply zbA);exact BK102.out) hb);have n2_:=z_ (zbb (g:=gb103) (o:=.cells #[.int .i64 0, .int .i64 0, .int .i64 0, .string (⟨#[]⟩:ByteArray)] 23 (0,0)) (by (with_reducible repeat first|apply zbN|apply zb1|apply zbA);exact BK103.out) hb);have n3_:=z_ (below_step (by repeat first|(with_reducible first|exact HB.out|apply zA|apply zN|apply z1|refine zS ?_ GE101.out|refine zS ?_ GE102.out|refine zS ?_ GE103.out)|exact HB.out) hb);clear BK101;clear BK102;clear BK103;clear HB;have BK101:=n0_;have BK102:=n1_;have BK103:=n2_;have HB:=n3_;clear n0_ n1_ n2_ n3_;(try clear hb);(try clear hb2);(try clear hk);(try clear hi);have hnb27:=NB102_103.out;have hnc27:=NB103_102.out;have hcz28_0:w26.cell? ⟨gb102,0,none⟩ = some (.int .i64 x103000_3):=(zce BK102.out 0).trans rfl;have hcz28_1:w26.cell? ⟨gb102,1,none⟩ = some (.int .i64 x103001_3):=(zce BK102.out 1).trans rfl;have hcz28_2:w26.cell? ⟨gb102,2,none⟩ = some (.int .i64 x103002_3):=(zce BK102.out 2).trans rfl;have hcz28_3:w26.cell? ⟨gb102,3,none⟩ = some (.string x103003_3):=(zce BK102.out 3).trans rfl;have hfz28_0:=zfz BK102.out 0;have hfz28_1:=zfz BK102.out 1;have hfz28_2:=zfz BK102.out 2;have hfz28_3:=zfz BK102.out 3)|(go_at_call 31;(with_reducible refine (val_reckons.calls x103000_3 x103001_3 x103002_3 x103003_3 t105 _ A22.out).mono ?_);rintro e w29 ⟨rfl,hb⟩;have n0_:=z_ (zbb (g:=gb101) (o:=.cells #[.int .i64 x102000_3, .int .i64 x102001_3, .int .i64 x102002_3, .string x102003_3] 23 (0,0)) (by (with_reducible repeat first|apply zbN|apply zb1|apply zbA);exact BK101.out) hb);have n1_:=z_ (zbb (g:=gb102) (o:=.cells #[.int .i64 x103000_3, .int .i64 x103001_3, .int .i64 x103002_3, .string x103003_3] 23 (0,0)) (by (with_reducible repeat first|apply zbN|apply zb1|apply zbA);exact BK102.out) hb);have n2_:=z_ (zbb (g:=gb103) (o:=.cells #[.int .i64 0, .int .i64 0, .int .i64 0, .string (⟨#[]⟩:ByteArray)] 23 (0,0)) (by (with_reducible repeat first|apply zbN|apply zb1|apply zbA);exact BK103.out) hb);have n3_:=z_ (below_step (by repeat first|(with_reducible first|exact HB.out|apply zA|apply zN|apply z1|refine zS ?_ GE101.out|refine zS ?_ GE102.out|refine zS ?_ GE103.out)|exact HB.out) hb);clear BK101;clear BK102;clear BK103;clear HB;have BK101:=n0_;have BK102:=n1_;have BK103:=n2_;have HB:=n3_;clear n0_ n1_ n2_ n3_;(try clear hb);(try clear hb2);(try clear hk);(try clear hi)))
      go_meet
      case rel=>exact ⟨_,(!t105),(by first|rfl|(simp;done)|(simp [*];done)),H',⟨by have:=HJ3.out;first|omega|exact Nat.le_refl _⟩,⟨by (with_reducible repeat first|apply zbN|apply zb1|apply zbA);exact BK101.out⟩,⟨by (with_reducible repeat first|apply zbN|apply zb1|apply zbA);exact BK102.out⟩,⟨by (with_reducible repeat first|apply zbN|apply zb1|apply zbA);exact BK103.out⟩,⟨by repeat first|(with_reducible first|exact HB.out|apply zA|apply zN|apply z1|refine zS ?_ GE101.out|refine zS ?_ GE102.out|refine zS ?_ GE103.out)|exact HB.out⟩⟩
     ·replace c21:=Bool.eq_false_iff.mpr c21
      subst c21
      have H1:(val_Reckon.j1 kj3 x0_3 true x102000_3 x102001_3 x102002_3 x102003_3 x103000_3 x103001_3 x103002_3 x103003_3) = some (r1,r2,r3,r4,r5):=by rw [if_neg (show ¬ (false = true) by decide)] at H;exact H
      clear H
      have H:=H1
      clear H1
      have H':=z_ H
      clear H
      have hnb30:=NB101_102.out
      have hnc30:=NB102_101.out
      have hnb31:=NB101_103.out
      have hnc31:=NB103_101.out
      have hcz32_0:wc.cell? ⟨gb101,0,none⟩ = some (.int .i64 x102000_3):=(zce BK101.out 0).trans rfl
      have hcz32_1:wc.cell? ⟨gb101,1,none⟩ = some (.int .i64 x102001_3):=(zce BK101.out 1).trans rfl
      have hcz32_2:wc.cell? ⟨gb101,2,none⟩ = some (.int .i64 x102002_3):=(zce BK101.out 2).trans rfl
      have hcz32_3:wc.cell? ⟨gb101,3,none⟩ = some (.string x102003_3):=(zce BK101.out 3).trans rfl
      have hfz32_0:=zfz BK101.out 0
      have hfz32_1:=zfz BK101.out 1
      have hfz32_2:=zfz BK101.out 2
      have hfz32_3:=zfz BK101.out 3
      go_wp2_with (first|(go_at_call 31;(with_reducible refine (val_reckons.calls x102000_3 x102001_3 x102002_3 x102003_3 false _ A20.out).mono ?_);rintro e w33 ⟨rfl,hb⟩;have n0_:=z_ (zbb (g:=gb101) (o:=.cells #[.int .i64 x102000_3, .int .i64 x102001_3, .int .i64 x102002_3, .string x102003_3] 23 (0,0)) (by (with_reducible repeat first|apply zbN|apply zb1|apply zbA);exact BK101.out) hb);have n1_:=z_ (zbb (g:=gb102) (o:=.cells #[.int .i64 x103000_3, .int .i64 x103001_3, .int .i64 x103002_3, .string x103003_3] 23 (0,0)) (by (with_reducible repeat first|apply zbN|apply zb1|apply zbA);exact BK102.out) hb);have n2_:=z_ (zbb (g:=gb103) (o:=.cells #[.int .i64 0, .int .i64 0, .int .i64 0, .string (⟨#[]⟩:ByteArray)] 23 (0,0)) (by (with_reducible repeat first|apply zbN|apply zb1|apply zbA);exact BK103.out) hb);have n3_:=z_ (below_step (by repeat first|(with_reducible first|exact HB.out|apply zA|apply zN|apply z1|refine zS ?_ GE101.out|refine zS ?_ GE102.out|refine zS ?_ GE103.out)|exact HB.out) hb);clear BK101;clear BK102;clear BK103;clear HB;have BK101:=n0_;have BK102:=n1_;have BK103:=n2_;have HB:=n3_;clear n0_ n1_ n2_ n3_;(try clear hb);(try clear hb2);(try clear hk);(try clear hi)))
      go_meet
      case rel=>exact ⟨_,(true),(by first|rfl|(simp;done)|(simp [*];done)),H',⟨by have:=HJ3.out;first|omega|exact Nat.le_refl _⟩,⟨by (with_reducible repeat first|apply zbN|apply zb1|apply zbA);exact BK101.out⟩,⟨by (with_reducible repeat first|apply zbN|apply zb1|apply zbA);exact BK102.out⟩,⟨by (with_reducible repeat first|apply zbN|apply zb1|apply zbA);exact BK103.out⟩,⟨by repeat first|(with_reducible first|exact HB.out|apply zA|apply zN|apply z1|refine zS ?_ GE101.out|refine zS ?_ GE102.out|refine zS ?_ GE103.out)|exact HB.out⟩⟩
    ·rw [if_neg c19] at H
     have c19b0:(x0_3 == 6) = false:=beq_eq_false_iff_ne.mpr c19
     have c19b1:(x0_3 != 6) = true:=bne_iff_ne.mpr c19
     (first|rw [c19b0]|(simp only [i64_w,i32_w];rw [c19b0])|skip)
     by_cases c34:x0_3 = 7
     ·rw [if_pos c34] at H
      have c34b0:(x0_3 == 7) = true:=beq_iff_eq.mpr c34
      have c34b1:(x0_3 != 7) = false:=bne_eq_false_iff_eq.mpr c34
      clear c34
      replace H:=Option.bind_eq_some_iff.mp H
      obtain ⟨t106,A350,H⟩:=H
      replace H:(if t106 = true then ((val_reckons.f x103000_3 x103001_3 x103002_3 x103003_3).bind fun t107=>(val_Reckon.j1 kj3 x0_3 (!t107) x102000_3 x102001_3 x102002_3 x102003_3 x103000_3 x103001_3 x103002_3 x103003_3)) else (val_Reckon.j1 kj3 x0_3 true x102000_3 x102001_3 x102002_3 x102003_3 x103000_3 x103001_3 x103002_3 x103003_3)) = some (r1,r2,r3,r4,r5):=H
      have A35:=z_ A350
      clear A350
      by_cases c36:t106 = true
      ·subst c36
       have H1:((val_reckons.f x103000_3 x103001_3 x103002_3 x103003_3).bind fun t107=>(val_Reckon.j1 kj3 x0_3 (!t107) x102000_3 x102001_3 x102002_3 x102003_3 x103000_3 x103001_3 x103002_3 x103003_3)) = some (r1,r2,r3,r4,r5):=by rw [if_pos rfl] at H;exact H
       clear H
       have H:=H1
       clear H1
       replace H:=Option.bind_eq_some_iff.mp H
       obtain ⟨t107,A370,H⟩:=H
       replace H:(val_Reckon.j1 kj3 x0_3 (!t107) x102000_3 x102001_3 x102002_3 x102003_3 x103000_3 x103001_3 x103002_3 x103003_3) = some (r1,r2,r3,r4,r5):=H
       have A37:=z_ A370
       clear A370
       have H':=z_ H
       clear H
       have hnb38:=NB101_102.out
       have hnc38:=NB102_101.out
       have hnb39:=NB101_103.out
       have hnc39:=NB103_101.out
       have hcz40_0:wc.cell? ⟨gb101,0,none⟩ = some (.int .i64 x102000_3):=(zce BK101.out 0).trans rfl
       have hcz40_1:wc.cell? ⟨gb101,1,none⟩ = some (.int .i64 x102001_3):=(zce BK101.out 1).trans rfl
       have hcz40_2:wc.cell? ⟨gb101,2,none⟩ = some (.int .i64 x102002_3):=(zce BK101.out 2).trans rfl
       have hcz40_3:wc.cell? ⟨gb101,3,none⟩ = some (.string x102003_3):=(zce BK101.out 3).trans rfl
       have hfz40_0:=zfz BK101.out 0
       have hfz40_1:=zfz BK101.out 1
       have hfz40_2:=zfz BK101.out 2
       have hfz40_3:=zfz BK101.out 3
       go_wp2_with (first|(go_at_call 31;(with_reducible refine (val_reckons.calls x102000_3 x102001_3 x102002_3 x102003_3 true _ A35.out).mono ?_);rintro e w41 ⟨rfl,hb⟩;have n0_:=z_ (zbb (g:=gb101) (o:=.cells #[.int .i64 x102000_3, .int .i64 x102001_3, .int .i64 x102002_3, .string x102003_3] 23 (0,0)) (by (with_reducible repeat first|apply zbN|apply zb1|apply zbA);exact BK101.out) hb);have n1_:=z_ (zbb (g:=gb102) (o:=.cells #[.int .i64 x103000_3, .int .i64 x103001_3, .int .i64 x103002_3, .string x103003_3] 23 (0,0)) (by (with_reducible repeat first|apply zbN|apply zb1|apply zbA);exact BK102.out) hb);have n2_:=z_ (zbb (g:=gb103) (o:=.cells #[.int .i64 0, .int .i64 0, .int .i64 0, .string (⟨#[]⟩:ByteArray)] 23 (0,0)) (by (with_reducible repeat first|apply zbN|apply zb1|apply zbA);exact BK103.out) hb);have n3_:=z_ (below_step (by repeat first|(with_reducible first|exact HB.out|apply zA|apply zN|apply z1|refine zS ?_ GE101.out|refine zS ?_ GE102.out|refine zS ?_ GE103.out)|exact HB.out) hb);clear BK101;clear BK102;clear BK103;clear HB;have BK101:=n0_;have BK102:=n1_;have BK103:=n2_;have HB:=n3_;clear n0_ n1_ n2_ n3_;(try clear hb);(try clear hb2);(try clear hk);(try clear hi);have hnb42:=NB102_103.out;have hnc42:=NB103_102.out;have hcz43_0:w41.cell? ⟨gb102,0,none⟩ = some (.int .i64 x103000_3):=(zce BK102.out 0).trans rfl;have hcz43_1:w41.cell? ⟨gb102,1,none⟩ = some (.int .i64 x103001_3):=(zce BK102.out 1).trans rfl;have hcz43_2:w41.cell? ⟨gb102,2,none⟩ = some (.int .i64 x103002_3):=(zce BK102.out 2).trans rfl;have hcz43_3:w41.cell? ⟨gb102,3,none⟩ = some (.string x103003_3):=(zce BK102.out 3).trans rfl;have hfz43_0:=zfz BK102.out 0;have hfz43_1:=zfz BK102.out 1;have hfz43_2:=zfz BK102.out 2;have hfz43_3:=zfz BK102.out 3)|(go_at_call 31;(with_reducible refine (val_reckons.calls x103000_3 x103001_3 x103002_3 x103003_3 t107 _ A37.out).mono ?_);rintro e w44 ⟨rfl,hb⟩;have n0_:=z_ (zbb (g:=gb101) (o:=.cells #[.int .i64 x102000_3, .int .i64 x102001_3, .int .i64 x102002_3, .string x102003_3] 23 (0,0)) (by (with_reducible repeat first|apply zbN|apply zb1|apply zbA);exact BK101.out) hb);have n1_:=z_ (zbb (g:=gb102) (o:=.cells #[.int .i64 x103000_3, .int .i64 x103001_3, .int .i64 x103002_3, .string x103003_3] 23 (0,0)) (by (with_reducible repeat first|apply zbN|apply zb1|apply zbA);exact BK102.out) hb);have n2_:=z_ (zbb (g:=gb103) (o:=.cells #[.int .i64 0, .int .i64 0, .int .i64 0, .string (⟨#[]⟩:ByteArray)] 23 (0,0)) (by (with_reducible repeat first|apply zbN|apply zb1|apply zbA);exact BK103.out) hb);have n3_:=z_ (below_step (by repeat first|(with_reducible first|exact HB.out|apply zA|apply zN|apply z1|refine zS ?_ GE101.out|refine zS ?_ GE102.out|refine zS ?_ GE103.out)|exact HB.out) hb);clear BK101;clear BK102;clear BK103;clear HB;have BK101:=n0_;have BK102:=n1_;have BK103:=n2_;have HB:=n3_;clear n0_ n1_ n2_ n3_;(try clear hb);(try clear hb2);(try clear hk);(try clear hi)))
       go_meet
       case rel=>exact ⟨_,(!t107),(by first|rfl|(simp;done)|(simp [*];done)),H',⟨by have:=HJ3.out;first|omega|exact Nat.le_refl _⟩,⟨by (with_reducible repeat first|apply zbN|apply zb1|apply zbA);exact BK101.out⟩,⟨by (with_reducible repeat first|apply zbN|apply zb1|apply zbA);exact BK102.out⟩,⟨by (with_reducible repeat first|apply zbN|apply zb1|apply zbA);exact BK103.out⟩,⟨by repeat first|(with_reducible first|exact HB.out|apply zA|apply zN|apply z1|refine zS ?_ GE101.out|refine zS ?_ GE102.out|refine zS ?_ GE103.out)|exact HB.out⟩⟩
      ·replace c36:=Bool.eq_false_iff.mpr c36
       subst c36
       have H1:(val_Reckon.j1 kj3 x0_3 true x102000_3 x102001_3 x102002_3 x102003_3 x103000_3 x103001_3 x103002_3 x103003_3) = some (r1,r2,r3,r4,r5):=by rw [if_neg (show ¬ (false = true) by decide)] at H;exact H
       clear H
       have H:=H1
       clear H1
       have H':=z_ H
       clear H
       have hnb45:=NB101_102.out
       have hnc45:=NB102_101.out
       have hnb46:=NB101_103.out
       have hnc46:=NB103_101.out
       have hcz47_0:wc.cell? ⟨gb101,0,none⟩ = some (.int .i64 x102000_3):=(zce BK101.out 0).trans rfl
       have hcz47_1:wc.cell? ⟨gb101,1,none⟩ = some (.int .i64 x102001_3):=(zce BK101.out 1).trans rfl
       have hcz47_2:wc.cell? ⟨gb101,2,none⟩ = some (.int .i64 x102002_3):=(zce BK101.out 2).trans rfl
       have hcz47_3:wc.cell? ⟨gb101,3,none⟩ = some (.string x102003_3):=(zce BK101.out 3).trans rfl
       have hfz47_0:=zfz BK101.out 0
       have hfz47_1:=zfz BK101.out 1
       have hfz47_2:=zfz BK101.out 2
       have hfz47_3:=zfz BK101.out 3
       go_wp2_with (first|(go_at_call 31;(with_reducible refine (val_reckons.calls x102000_3 x102001_3 x102002_3 x102003_3 false _ A35.out).mono ?_);rintro e w48 ⟨rfl,hb⟩;have n0_:=z_ (zbb (g:=gb101) (o:=.cells #[.int .i64 x102000_3, .int .i64 x102001_3, .int .i64 x102002_3, .string x102003_3] 23 (0,0)) (by (with_reducible repeat first|apply zbN|apply zb1|apply zbA);exact BK101.out) hb);have n1_:=z_ (zbb (g:=gb102) (o:=.cells #[.int .i64 x103000_3, .int .i64 x103001_3, .int .i64 x103002_3, .string x103003_3] 23 (0,0)) (by (with_reducible repeat first|apply zbN|apply zb1|apply zbA);exact BK102.out) hb);have n2_:=z_ (zbb (g:=gb103) (o:=.cells #[.int .i64 0, .int .i64 0, .int .i64 0, .string (⟨#[]⟩:ByteArray)] 23 (0,0)) (by (with_reducible repeat first|apply zbN|apply zb1|apply zbA);exact BK103.out) hb);have n3_:=z_ (below_step (by repeat first|(with_reducible first|exact HB.out|apply zA|apply zN|apply z1|refine zS ?_ GE101.out|refine zS ?_ GE102.out|refine zS ?_ GE103.out)|exact HB.out) hb);clear BK101;clear BK102;clear BK103;clear HB;have BK101:=n0_;have BK102:=n1_;have BK103:=n2_;have HB:=n3_;clear n0_ n1_ n2_ n3_;(try clear hb);(try clear hb2);(try clear hk);(try clear hi)))
       go_meet
       case rel=>exact ⟨_,(true),(by first|rfl|(simp;done)|(simp [*];done)),H',⟨by have:=HJ3.out;first|omega|exact Nat.le_refl _⟩,⟨by (with_reducible repeat first|apply zbN|apply zb1|apply zbA);exact BK101.out⟩,⟨by (with_reducible repeat first|apply zbN|apply zb1|apply zbA);exact BK102.out⟩,⟨by (with_reducible repeat first|apply zbN|apply zb1|apply zbA);exact BK103.out⟩,⟨by repeat first|(with_reducible first|exact HB.out|apply zA|apply zN|apply z1|refine zS ?_ GE101.out|refine zS ?_ GE102.out|refine zS ?_ GE103.out)|exact HB.out⟩⟩
     ·rw [if_neg c34] at H
      have c34b0:(x0_3 == 7) = false:=beq_eq_false_iff_ne.mpr c34
      have c34b1:(x0_3 != 7) = true:=bne_iff_ne.mpr c34
      by_cases c49:x0_3 = 8
      ·rw [if_pos c49] at H
       have c49b0:(x0_3 == 8) = true:=beq_iff_eq.mpr c49
       have c49b1:(x0_3 != 8) = false:=bne_eq_false_iff_eq.mpr c49
       clear c49
       replace H:=Option.bind_eq_some_iff.mp H
       obtain ⟨t108,A500,H⟩:=H
       replace H:(if t108 = true then ((val_reckons.f x103000_3 x103001_3 x103002_3 x103003_3).bind fun t109=>(val_Reckon.j1 kj3 x0_3 (!t109) x102000_3 x102001_3 x102002_3 x102003_3 x103000_3 x103001_3 x103002_3 x103003_3)) else (val_Reckon.j1 kj3 x0_3 true x102000_3 x102001_3 x102002_3 x102003_3 x103000_3 x103001_3 x103002_3 x103003_3)) = some (r1,r2,r3,r4,r5):=H
       have A50:=z_ A500
       clear A500
       by_cases c51:t108 = true
       ·subst c51
        have H1:((val_reckons.f x103000_3 x103001_3 x103002_3 x103003_3).bind fun t109=>(val_Reckon.j1 kj3 x0_3 (!t109) x102000_3 x102001_3 x102002_3 x102003_3 x103000_3 x103001_3 x103002_3 x103003_3)) = some (r1,r2,r3,r4,r5):=by rw [if_pos rfl] at H;exact H
        clear H
        have H:=H1
        clear H1
        replace H:=Option.bind_eq_some_iff.mp H
        obtain ⟨t109,A520,H⟩:=H
        replace H:(val_Reckon.j1 kj3 x0_3 (!t109) x102000_3 x102001_3 x102002_3 x102003_3 x103000_3 x103001_3 x103002_3 x103003_3) = some (r1,r2,r3,r4,r5):=H
        have A52:=z_ A520
        clear A520
        have H':=z_ H
        clear H
        have hnb53:=NB101_102.out
        have hnc53:=NB102_101.out
        have hnb54:=NB101_103.out
        have hnc54:=NB103_101.out
        have hcz55_0:wc.cell? ⟨gb101,0,none⟩ = some (.int .i64 x102000_3):=(zce BK101.out 0).trans rfl
        have hcz55_1:wc.cell? ⟨gb101,1,none⟩ = some (.int .i64 x102001_3):=(zce BK101.out 1).trans rfl
        have hcz55_2:wc.cell? ⟨gb101,2,none⟩ = some (.int .i64 x102002_3):=(zce BK101.out 2).trans rfl
        have hcz55_3:wc.cell? ⟨gb101,3,none⟩ = some (.string x102003_3):=(zce BK101.out 3).trans rfl
        have hfz55_0:=zfz BK101.out 0
        have hfz55_1:=zfz BK101.out 1
        have hfz55_2:=zfz BK101.out 2
        have hfz55_3:=zfz BK101.out 3
        go_wp2_with (first|(go_at_call 31;(with_reducible refine (val_reckons.calls x102000_3 x102001_3 x102002_3 x102003_3 true _ A50.out).mono ?_);rintro e w56 ⟨rfl,hb⟩;have n0_:=z_ (zbb (g:=gb101) (o:=.cells #[.int .i64 x102000_3, .int .i64 x102001_3, .int .i64 x102002_3, .string x102003_3] 23 (0,0)) (by (with_reducible repeat first|apply zbN|apply zb1|apply zbA);exact BK101.out) hb);have n1_:=z_ (zbb (g:=gb102) (o:=.cells #[.int .i64 x103000_3, .int .i64 x103001_3, .int .i64 x103002_3, .string x103003_3] 23 (0,0)) (by (with_reducible repeat first|apply zbN|apply zb1|apply zbA);exact BK102.out) hb);have n2_:=z_ (zbb (g:=gb103) (o:=.cells #[.int .i64 0, .int .i64 0, .int .i64 0, .string (⟨#[]⟩:ByteArray)] 23 (0,0)) (by (with_reducible repeat first|apply zbN|apply zb1|apply zbA);exact BK103.out) hb);have n3_:=z_ (below_step (by repeat first|(with_reducible first|exact HB.out|apply zA|apply zN|apply z1|refine zS ?_ GE101.out|refine zS ?_ GE102.out|refine zS ?_ GE103.out)|exact HB.out) hb);clear BK101;clear BK102;clear BK103;clear HB;have BK101:=n0_;have BK102:=n1_;have BK103:=n2_;have HB:=n3_;clear n0_ n1_ n2_ n3_;(try clear hb);(try clear hb2);(try clear hk);(try clear hi);have hnb57:=NB102_103.out;have hnc57:=NB103_102.out;have hcz58_0:w56.cell? ⟨gb102,0,none⟩ = some (.int .i64 x103000_3):=(zce BK102.out 0).trans rfl;have hcz58_1:w56.cell? ⟨gb102,1,none⟩ = some (.int .i64 x103001_3):=(zce BK102.out 1).trans rfl;have hcz58_2:w56.cell? ⟨gb102,2,none⟩ = some (.int .i64 x103002_3):=(zce BK102.out 2).trans rfl;have hcz58_3:w56.cell? ⟨gb102,3,none⟩ = some (.string x103003_3):=(zce BK102.out 3).trans rfl;have hfz58_0:=zfz BK102.out 0;have hfz58_1:=zfz BK102.out 1;have hfz58_2:=zfz BK102.out 2;have hfz58_3:=zfz BK102.out 3)|(go_at_call 31;(with_reducible refine (val_reckons.calls x103000_3 x103001_3 x103002_3 x103003_3 t109 _ A52.out).mono ?_);rintro e w59 ⟨rfl,hb⟩;have n0_:=z_ (zbb (g:=gb101) (o:=.cells #[.int .i64 x102000_3, .int .i64 x102001_3, .int .i64 x102002_3, .string x102003_3] 23 (0,0)) (by (with_reducible repeat first|apply zbN|apply zb1|apply zbA);exact BK101.out) hb);have n1_:=z_ (zbb (g:=gb102) (o:=.cells #[.int .i64 x103000_3, .int .i64 x103001_3, .int .i64 x103002_3, .string x103003_3] 23 (0,0)) (by (with_reducible repeat first|apply zbN|apply zb1|apply zbA);exact BK102.out) hb);have n2_:=z_ (zbb (g:=gb103) (o:=.cells #[.int .i64 0, .int .i64 0, .int .i64 0, .string (⟨#[]⟩:ByteArray)] 23 (0,0)) (by (with_reducible repeat first|apply zbN|apply zb1|apply zbA);exact BK103.out) hb);have n3_:=z_ (below_step (by repeat first|(with_reducible first|exact HB.out|apply zA|apply zN|apply z1|refine zS ?_ GE101.out|refine zS ?_ GE102.out|refine zS ?_ GE103.out)|exact HB.out) hb);clear BK101;clear BK102;clear BK103;clear HB;have BK101:=n0_;have BK102:=n1_;have BK103:=n2_;have HB:=n3_;clear n0_ n1_ n2_ n3_;(try clear hb);(try clear hb2);(try clear hk);(try clear hi)))
        go_meet
        case rel=>exact ⟨_,(!t109),(by first|rfl|(simp;done)|(simp [*];done)),H',⟨by have:=HJ3.out;first|omega|exact Nat.le_refl _⟩,⟨by (with_reducible repeat first|apply zbN|apply zb1|apply zbA);exact BK101.out⟩,⟨by (with_reducible repeat first|apply zbN|apply zb1|apply zbA);exact BK102.out⟩,⟨by (with_reducible repeat first|apply zbN|apply zb1|apply zbA);exact BK103.out⟩,⟨by repeat first|(with_reducible first|exact HB.out|apply zA|apply zN|apply z1|refine zS ?_ GE101.out|refine zS ?_ GE102.out|refine zS ?_ GE103.out)|exact HB.out⟩⟩
       ·replace c51:=Bool.eq_false_iff.mpr c51
        subst c51
        have H1:(val_Reckon.j1 kj3 x0_3 true x102000_3 x102001_3 x102002_3 x102003_3 x103000_3 x103001_3 x103002_3 x103003_3) = some (r1,r2,r3,r4,r5):=by rw [if_neg (show ¬ (false = true) by decide)] at H;exact H
        clear H
        have H:=H1
        clear H1
        have H':=z_ H
        clear H
        have hnb60:=NB101_102.out
        have hnc60:=NB102_101.out
        have hnb61:=NB101_103.out
        have hnc61:=NB103_101.out
        have hcz62_0:wc.cell? ⟨gb101,0,none⟩ = some (.int .i64 x102000_3):=(zce BK101.out 0).trans rfl
        have hcz62_1:wc.cell? ⟨gb101,1,none⟩ = some (.int .i64 x102001_3):=(zce BK101.out 1).trans rfl
        have hcz62_2:wc.cell? ⟨gb101,2,none⟩ = some (.int .i64 x102002_3):=(zce BK101.out 2).trans rfl
        have hcz62_3:wc.cell? ⟨gb101,3,none⟩ = some (.string x102003_3):=(zce BK101.out 3).trans rfl
        have hfz62_0:=zfz BK101.out 0
        have hfz62_1:=zfz BK101.out 1
        have hfz62_2:=zfz BK101.out 2
        have hfz62_3:=zfz BK101.out 3
        go_wp2_with (first|(go_at_call 31;(with_reducible refine (val_reckons.calls x102000_3 x102001_3 x102002_3 x102003_3 false _ A50.out).mono ?_);rintro e w63 ⟨rfl,hb⟩;have n0_:=z_ (zbb (g:=gb101) (o:=.cells #[.int .i64 x102000_3, .int .i64 x102001_3, .int .i64 x102002_3, .string x102003_3] 23 (0,0)) (by (with_reducible repeat first|apply zbN|apply zb1|apply zbA);exact BK101.out) hb);have n1_:=z_ (zbb (g:=gb102) (o:=.cells #[.int .i64 x103000_3, .int .i64 x103001_3, .int .i64 x103002_3, .string x103003_3] 23 (0,0)) (by (with_reducible repeat first|apply zbN|apply zb1|apply zbA);exact BK102.out) hb);have n2_:=z_ (zbb (g:=gb103) (o:=.cells #[.int .i64 0, .int .i64 0, .int .i64 0, .string (⟨#[]⟩:ByteArray)] 23 (0,0)) (by (with_reducible repeat first|apply zbN|apply zb1|apply zbA);exact BK103.out) hb);have n3_:=z_ (below_step (by repeat first|(with_reducible first|exact HB.out|apply zA|apply zN|apply z1|refine zS ?_ GE101.out|refine zS ?_ GE102.out|refine zS ?_ GE103.out)|exact HB.out) hb);clear BK101;clear BK102;clear BK103;clear HB;have BK101:=n0_;have BK102:=n1_;have BK103:=n2_;have HB:=n3_;clear n0_ n1_ n2_ n3_;(try clear hb);(try clear hb2);(try clear hk);(try clear hi)))
        go_meet
        case rel=>exact ⟨_,(true),(by first|rfl|(simp;done)|(simp [*];done)),H',⟨by have:=HJ3.out;first|omega|exact Nat.le_refl _⟩,⟨by (with_reducible repeat first|apply zbN|apply zb1|apply zbA);exact BK101.out⟩,⟨by (with_reducible repeat first|apply zbN|apply zb1|apply zbA);exact BK102.out⟩,⟨by (with_reducible repeat first|apply zbN|apply zb1|apply zbA);exact BK103.out⟩,⟨by repeat first|(with_reducible first|exact HB.out|apply zA|apply zN|apply z1|refine zS ?_ GE101.out|refine zS ?_ GE102.out|refine zS ?_ GE103.out)|exact HB.out⟩⟩
      ·rw [if_neg c49] at H
       have c49b0:(x0_3 == 8) = false:=beq_eq_false_iff_ne.mpr c49
       have c49b1:(x0_3 != 8) = true:=bne_iff_ne.mpr c49
       have H':=z_ H
       clear H
       go_wp2
       go_meet
       case rel=>exact ⟨_,(true),(by first|rfl|(simp;done)|(simp [*];done)),H',⟨by have:=HJ3.out;first|omega|exact Nat.le_refl _⟩,⟨by (with_reducible repeat first|apply zbN|apply zb1|apply zbA);exact BK101.out⟩,⟨by (with_reducible repeat first|apply zbN|apply zb1|apply zbA);exact BK102.out⟩,⟨by (with_reducible repeat first|apply zbN|apply zb1|apply zbA);exact BK103.out⟩,⟨by repeat first|(with_reducible first|exact HB.out|apply zA|apply zN|apply z1|refine zS ?_ GE101.out|refine zS ?_ GE102.out|refine zS ?_ GE103.out)|exact HB.out⟩⟩
   case rest =>
    clear HC18
    try clear c1
    try clear c2
    try clear p2
    try clear c3
    try clear c4
    try clear c5
    try clear c6
    try clear c8
    try clear c8b0
    try clear c8b1
    try clear c19
    try clear c19b0
    try clear c19b1
    try clear c20
    try clear c21
    try clear c23
    try clear c24
    try clear c27
    try clear c30
    try clear c31
    try clear c34
    try clear c34b0
    try clear c34b1
    try clear c36
    try clear c38
    try clear c39
    try clear c42
    try clear c45
    try clear c46
    try clear c49
    try clear c49b0
    try clear c49b1
    try clear c51
    try clear c53
    try clear c54
    try clear c57
    try clear c60
    try clear c61
    try clear hcz25_0
    try clear hcz25_1
    try clear hcz25_2
    try clear hcz25_3
    try clear hcz28_0
    try clear hcz28_1
    try clear hcz28_2
    try clear hcz28_3
    try clear hcz32_0
    try clear hcz32_1
    try clear hcz32_2
    try clear hcz32_3
    try clear hcz40_0
    try clear hcz40_1
    try clear hcz40_2
    try clear hcz40_3
    try clear hcz43_0
    try clear hcz43_1
    try clear hcz43_2
    try clear hcz43_3
    try clear hcz47_0
    try clear hcz47_1
    try clear hcz47_2
    try clear hcz47_3
    try clear hcz55_0
    try clear hcz55_1
    try clear hcz55_2
    try clear hcz55_3
    try clear hcz58_0
    try clear hcz58_1
    try clear hcz58_2
    try clear hcz58_3
    try clear hcz62_0
    try clear hcz62_1
    try clear hcz62_2
    try clear hcz62_3
    try clear hfz25_0
    try clear hfz25_1
    try clear hfz25_2
    try clear hfz25_3
    try clear hfz28_0
    try clear hfz28_1
    try clear hfz28_2
    try clear hfz28_3
    try clear hfz32_0
    try clear hfz32_1
    try clear hfz32_2
    try clear hfz32_3
    try clear hfz40_0
    try clear hfz40_1
    try clear hfz40_2
    try clear hfz40_3
    try clear hfz43_0
    try clear hfz43_1
    try clear hfz43_2
    try clear hfz43_3
    try clear hfz47_0
    try clear hfz47_1
    try clear hfz47_2
    try clear hfz47_3
    try clear hfz55_0
    try clear hfz55_1
    try clear hfz55_2
    try clear hfz55_3
    try clear hfz58_0
    try clear hfz58_1
    try clear hfz58_2
    try clear hfz58_3
    try clear hfz62_0
    try clear hfz62_1
    try clear hfz62_2
    try clear hfz62_3
    try clear p2
    obtain ⟨kq,x17_17,rfl,HA,HJ17,BK101,BK102,BK103,HB⟩:=hcut
    cases kq with
    | zero=>exact absurd HA.out (by simp [val_Reckon.j1])
    | succ kj17 =>
     have H:=HA.out
     clear HA
     simp only [val_Reckon.j1] at H
     by_cases c64:x17_17 = true
     ·subst c64
      have H1:(some (0,0,0,(⟨#[]⟩:ByteArray),5)) = some (r1,r2,r3,r4,r5):=by rw [if_pos rfl] at H;exact H
      clear H
      have H:=H1
      clear H1
      simp only [Option.some.injEq,Prod.mk.injEq] at H
      obtain ⟨rfl,rfl,rfl,rfl,rfl⟩:=H
      have hnb65:=NB103_101.out
      have hnc65:=NB101_103.out
      have hnb66:=NB103_102.out
      have hnc66:=NB102_103.out
      have hcz67_0:wc.cell? ⟨gb103,0,none⟩ = some (.int .i64 0):=(zce BK103.out 0).trans rfl
      have hcz67_1:wc.cell? ⟨gb103,1,none⟩ = some (.int .i64 0):=(zce BK103.out 1).trans rfl
      have hcz67_2:wc.cell? ⟨gb103,2,none⟩ = some (.int .i64 0):=(zce BK103.out 2).trans rfl
      have hcz67_3:wc.cell? ⟨gb103,3,none⟩ = some (.string (⟨#[]⟩:ByteArray)):=(zce BK103.out 3).trans rfl
      have hfz67_0:=zfz BK103.out 0
      have hfz67_1:=zfz BK103.out 1
      have hfz67_2:=zfz BK103.out 2
      have hfz67_3:=zfz BK103.out 3
      go_wp2
      refine bodyPost_ret (results_ct rfl _ _ gb103 23 #[.int .i64 0, .int .i64 0, .int .i64 0, .string (⟨#[]⟩:ByteArray)] (0,0) _ rfl (by (with_reducible repeat first|apply zbN|apply zb1|apply zbA);refine zbp (cs:=#[.int .i64 0, .int .i64 0, .int .i64 0, .string (⟨#[]⟩:ByteArray)]) ?_ 3 _ rfl;(with_reducible repeat first|apply zbN|apply zb1|apply zbA);refine zbp (cs:=#[.int .i64 0, .int .i64 0, .int .i64 0, .string (⟨#[]⟩:ByteArray)]) ?_ 2 _ rfl;(with_reducible repeat first|apply zbN|apply zb1|apply zbA);refine zbp (cs:=#[.int .i64 0, .int .i64 0, .int .i64 0, .string (⟨#[]⟩:ByteArray)]) ?_ 1 _ rfl;(with_reducible repeat first|apply zbN|apply zb1|apply zbA);refine zbp (cs:=#[.int .i64 0, .int .i64 0, .int .i64 0, .string (⟨#[]⟩:ByteArray)]) ?_ 0 _ rfl;(with_reducible repeat first|apply zbN|apply zb1|apply zbA);exact BK103.out) Try.underlying23 rfl (by kernel_rfl)) rfl ?_
      exact ⟨by first|rfl|(simp [errW_none,errW_some] <;> rfl)|(simp [*,errW_none,errW_some] <;> rfl),by repeat first|(with_reducible first|exact HB.out|apply zA|apply zN|apply z1|refine zS ?_ GE101.out|refine zS ?_ GE102.out|refine zS ?_ GE103.out)|exact HB.out⟩
     ·replace c64:=Bool.eq_false_iff.mpr c64
      subst c64
      have H1:(if x102000_3 = 0 then (val_Reckon.j2 kj17 x0_3 true x102000_3 x102001_3 x102002_3 x102003_3 x103000_3 x103001_3 x103002_3 x103003_3) else (val_Reckon.j2 kj17 x0_3 (x103000_3 == 0) x102000_3 x102001_3 x102002_3 x102003_3 x103000_3 x103001_3 x103002_3 x103003_3)) = some (r1,r2,r3,r4,r5):=by rw [if_neg (show ¬ (false = true) by decide)] at H;exact H
      clear H
      have H:=H1
      clear H1
      have HC68:=z_ H
      clear H
      go_upto_region 5 with (fail)
      go_cut [39] (fun v39 wc=>∃ (kq:Nat) (x39_67:Bool),v39 = .bool x39_67 ∧ Aside0 (val_Reckon.j2 kq x0_3 x39_67 x102000_3 x102001_3 x102002_3 x102003_3 x103000_3 x103001_3 x103002_3 x103003_3 = some (r1,r2,r3,r4,r5)) ∧ Aside0 (kq ≤ kj17) ∧ Aside0 (wc.heap[gb101]? = some (.cells #[.int .i64 x102000_3, .int .i64 x102001_3, .int .i64 x102002_3, .string x102003_3] 23 (0,0))) ∧ Aside0 (wc.heap[gb102]? = some (.cells #[.int .i64 x103000_3, .int .i64 x103001_3, .int .i64 x103002_3, .string x103003_3] 23 (0,0))) ∧ Aside0 (wc.heap[gb103]? = some (.cells #[.int .i64 0, .int .i64 0, .int .i64 0, .string (⟨#[]⟩:ByteArray)] 23 (0,0))) ∧ Aside0 (Below w.heap.size w wc))
      case first =>
       have H:=HC68.out
       clear HC68
       by_cases c69:x102000_3 = 0
       ·rw [if_pos c69] at H
        have c69b0:(x102000_3 == 0) = true:=beq_iff_eq.mpr c69
        have c69b1:(x102000_3 != 0) = false:=bne_eq_false_iff_eq.mpr c69
        clear c69
        (first|rw [c69b0]|(simp only [i64_w,i32_w];rw [c69b0])|skip)
        have H':=z_ H
        clear H
        have hnb70:=NB101_102.out
        have hnc70:=NB102_101.out
        have hnb71:=NB101_103.out
        have hnc71:=NB103_101.out
        have hcz72_0:wc.cell? ⟨gb101,0,none⟩ = some (.int .i64 x102000_3):=(zce BK101.out 0).trans rfl
        have hcz72_1:wc.cell? ⟨gb101,1,none⟩ = some (.int .i64 x102001_3):=(zce BK101.out 1).trans rfl
        have hcz72_2:wc.cell? ⟨gb101,2,none⟩ = some (.int .i64 x102002_3):=(zce BK101.out 2).trans rfl
        have hcz72_3:wc.cell? ⟨gb101,3,none⟩ = some (.string x102003_3):=(zce BK101.out 3).trans rfl
        have hfz72_0:=zfz BK101.out 0
        have hfz72_1:=zfz BK101.out 1
        have hfz72_2:=zfz BK101.out 2
        have hfz72_3:=zfz BK101.out 3
        go_wp2
        go_meet
        case rel=>exact ⟨_,(true),(by first|rfl|(simp;done)|(simp [*];done)),H',⟨by have:=HJ3.out;have:=HJ17.out;first|omega|exact Nat.le_refl _⟩,⟨by (with_reducible repeat first|apply zbN|apply zb1|apply zbA);exact BK101.out⟩,⟨by (with_reducible repeat first|apply zbN|apply zb1|apply zbA);exact BK102.out⟩,⟨by (with_reducible repeat first|apply zbN|apply zb1|apply zbA);exact BK103.out⟩,⟨by repeat first|(with_reducible first|exact HB.out|apply zA|apply zN|apply z1|refine zS ?_ GE101.out|refine zS ?_ GE102.out|refine zS ?_ GE103.out)|exact HB.out⟩⟩
       ·rw [if_neg c69] at H
        have c69b0:(x102000_3 == 0) = false:=beq_eq_false_iff_ne.mpr c69
        have c69b1:(x102000_3 != 0) = true:=bne_iff_ne.mpr c69
        (first|rw [c69b0]|(simp only [i64_w,i32_w];rw [c69b0])|skip)
        have H':=z_ H
        clear H
        have hnb73:=NB101_102.out
        have hnc73:=NB102_101.out
        have hnb74:=NB101_103.out
        have hnc74:=NB103_101.out
        have hcz75_0:wc.cell? ⟨gb101,0,none⟩ = some (.int .i64 x102000_3):=(zce BK101.out 0).trans rfl
        have hcz75_1:wc.cell? ⟨gb101,1,none⟩ = some (.int .i64 x102001_3):=(zce BK101.out 1).trans rfl
        have hcz75_2:wc.cell? ⟨gb101,2,none⟩ = some (.int .i64 x102002_3):=(zce BK101.out 2).trans rfl
        have hcz75_3:wc.cell? ⟨gb101,3,none⟩ = some (.string x102003_3):=(zce BK101.out 3).trans rfl
        have hfz75_0:=zfz BK101.out 0
        have hfz75_1:=zfz BK101.out 1
        have hfz75_2:=zfz BK101.out 2
        have hfz75_3:=zfz BK101.out 3
        have hnb76:=NB102_103.out
        have hnc76:=NB103_102.out
        have hcz77_0:wc.cell? ⟨gb102,0,none⟩ = some (.int .i64 x103000_3):=(zce BK102.out 0).trans rfl
        have hcz77_1:wc.cell? ⟨gb102,1,none⟩ = some (.int .i64 x103001_3):=(zce BK102.out 1).trans rfl
        have hcz77_2:wc.cell? ⟨gb102,2,none⟩ = some (.int .i64 x103002_3):=(zce BK102.out 2).trans rfl
        have hcz77_3:wc.cell? ⟨gb102,3,none⟩ = some (.string x103003_3):=(zce BK102.out 3).trans rfl
        have hfz77_0:=zfz BK102.out 0
        have hfz77_1:=zfz BK102.out 1
        have hfz77_2:=zfz BK102.out 2
        have hfz77_3:=zfz BK102.out 3
        go_wp2
        go_meet
        case rel=>exact ⟨_,((x103000_3 == 0)),(by first|rfl|(simp;done)|(simp [*];done)),H',⟨by have:=HJ3.out;have:=HJ17.out;first|omega|exact Nat.le_refl _⟩,⟨by (with_reducible repeat first|apply zbN|apply zb1|apply zbA);exact BK101.out⟩,⟨by (with_reducible repeat first|apply zbN|apply zb1|apply zbA);exact BK102.out⟩,⟨by (with_reducible repeat first|apply zbN|apply zb1|apply zbA);exact BK103.out⟩,⟨by repeat first|(with_reducible first|exact HB.out|apply zA|apply zN|apply z1|refine zS ?_ GE101.out|refine zS ?_ GE102.out|refine zS ?_ GE103.out)|exact HB.out⟩⟩
      case rest =>
       clear HC68
       try clear c1
       try clear c2
       try clear p2
       try clear c3
       try clear c4
       try clear c5
       try clear c6
       try clear c7
       try clear c8
       try clear c8b0
       try clear c8b1
       try clear c19
       try clear c19b0
       try clear c19b1
       try clear c20
       try clear c21
       try clear c23
       try clear c24
       try clear c27
       try clear c30
       try clear c31
       try clear c34
       try clear c34b0
       try clear c34b1
       try clear c36
       try clear c38
       try clear c39
       try clear c42
       try clear c45
       try clear c46
       try clear c49
       try clear c49b0
       try clear c49b1
       try clear c51
       try clear c53
       try clear c54
       try clear c57
       try clear c60
       try clear c61
       try clear c64
       try clear c65
       try clear c66
       try clear c69
       try clear c69b0
       try clear c69b1
       try clear c70
       try clear c71
       try clear c73
       try clear c74
       try clear c76
       try clear hcz25_0
       try clear hcz25_1
       try clear hcz25_2
       try clear hcz25_3
       try clear hcz28_0
       try clear hcz28_1
       try clear hcz28_2
       try clear hcz28_3
       try clear hcz32_0
       try clear hcz32_1
       try clear hcz32_2
       try clear hcz32_3
       try clear hcz40_0
       try clear hcz40_1
       try clear hcz40_2
       try clear hcz40_3
       try clear hcz43_0
       try clear hcz43_1
       try clear hcz43_2
       try clear hcz43_3
       try clear hcz47_0
       try clear hcz47_1
       try clear hcz47_2
       try clear hcz47_3
       try clear hcz55_0
       try clear hcz55_1
       try clear hcz55_2
       try clear hcz55_3
       try clear hcz58_0
       try clear hcz58_1
       try clear hcz58_2
       try clear hcz58_3
       try clear hcz62_0
       try clear hcz62_1
       try clear hcz62_2
       try clear hcz62_3
       try clear hcz67_0
       try clear hcz67_1
       try clear hcz67_2
       try clear hcz67_3
       try clear hcz72_0
       try clear hcz72_1
       try clear hcz72_2
       try clear hcz72_3
       try clear hcz75_0
       try clear hcz75_1
       try clear hcz75_2
       try clear hcz75_3
       try clear hcz77_0
       try clear hcz77_1
       try clear hcz77_2
       try clear hcz77_3
       try clear hfz25_0
       try clear hfz25_1
       try clear hfz25_2
       try clear hfz25_3
       try clear hfz28_0
       try clear hfz28_1
       try clear hfz28_2
       try clear hfz28_3
       try clear hfz32_0
       try clear hfz32_1
       try clear hfz32_2
       try clear hfz32_3
       try clear hfz40_0
       try clear hfz40_1
       try clear hfz40_2
       try clear hfz40_3
       try clear hfz43_0
       try clear hfz43_1
       try clear hfz43_2
       try clear hfz43_3
       try clear hfz47_0
       try clear hfz47_1
       try clear hfz47_2
       try clear hfz47_3
       try clear hfz55_0
       try clear hfz55_1
       try clear hfz55_2
       try clear hfz55_3
       try clear hfz58_0
       try clear hfz58_1
       try clear hfz58_2
       try clear hfz58_3
       try clear hfz62_0
       try clear hfz62_1
       try clear hfz62_2
       try clear hfz62_3
       try clear hfz67_0
       try clear hfz67_1
       try clear hfz67_2
       try clear hfz67_3
       try clear hfz72_0
       try clear hfz72_1
       try clear hfz72_2
       try clear hfz72_3
       try clear hfz75_0
       try clear hfz75_1
       try clear hfz75_2
       try clear hfz75_3
       try clear hfz77_0
       try clear hfz77_1
       try clear hfz77_2
       try clear hfz77_3
       try clear p2
       obtain ⟨kq,x39_67,rfl,HA,HJ67,BK101,BK102,BK103,HB⟩:=hcut
       cases kq with
       | zero=>exact absurd HA.out (by simp [val_Reckon.j2])
       | succ kj67 =>
        have H:=HA.out
        clear HA
        simp only [val_Reckon.j2] at H
        by_cases c78:x39_67 = true
        ·subst c78
         have H1:(some (0,0,0,(⟨#[]⟩:ByteArray),0)) = some (r1,r2,r3,r4,r5):=by rw [if_pos rfl] at H;exact H
         clear H
         have H:=H1
         clear H1
         simp only [Option.some.injEq,Prod.mk.injEq] at H
         obtain ⟨rfl,rfl,rfl,rfl,rfl⟩:=H
         have hnb79:=NB103_101.out
         have hnc79:=NB101_103.out
         have hnb80:=NB103_102.out
         have hnc80:=NB102_103.out
         have hcz81_0:wc.cell? ⟨gb103,0,none⟩ = some (.int .i64 0):=(zce BK103.out 0).trans rfl
         have hcz81_1:wc.cell? ⟨gb103,1,none⟩ = some (.int .i64 0):=(zce BK103.out 1).trans rfl
         have hcz81_2:wc.cell? ⟨gb103,2,none⟩ = some (.int .i64 0):=(zce BK103.out 2).trans rfl
         have hcz81_3:wc.cell? ⟨gb103,3,none⟩ = some (.string (⟨#[]⟩:ByteArray)):=(zce BK103.out 3).trans rfl
         have hfz81_0:=zfz BK103.out 0
         have hfz81_1:=zfz BK103.out 1
         have hfz81_2:=zfz BK103.out 2
         have hfz81_3:=zfz BK103.out 3
         go_wp2
         refine bodyPost_ret (results_ct rfl _ _ gb103 23 #[.int .i64 0, .int .i64 0, .int .i64 0, .string (⟨#[]⟩:ByteArray)] (0,0) _ rfl (by (with_reducible repeat first|apply zbN|apply zb1|apply zbA);refine zbp (cs:=#[.int .i64 0, .int .i64 0, .int .i64 0, .string (⟨#[]⟩:ByteArray)]) ?_ 3 _ rfl;(with_reducible repeat first|apply zbN|apply zb1|apply zbA);refine zbp (cs:=#[.int .i64 0, .int .i64 0, .int .i64 0, .string (⟨#[]⟩:ByteArray)]) ?_ 2 _ rfl;(with_reducible repeat first|apply zbN|apply zb1|apply zbA);refine zbp (cs:=#[.int .i64 0, .int .i64 0, .int .i64 0, .string (⟨#[]⟩:ByteArray)]) ?_ 1 _ rfl;(with_reducible repeat first|apply zbN|apply zb1|apply zbA);refine zbp (cs:=#[.int .i64 0, .int .i64 0, .int .i64 0, .string (⟨#[]⟩:ByteArray)]) ?_ 0 _ rfl;(with_reducible repeat first|apply zbN|apply zb1|apply zbA);exact BK103.out) Try.underlying23 rfl (by kernel_rfl)) rfl ?_
         exact ⟨by first|rfl|(simp [errW_none,errW_some] <;> rfl)|(simp [*,errW_none,errW_some] <;> rfl),by repeat first|(with_reducible first|exact HB.out|apply zA|apply zN|apply z1|refine zS ?_ GE101.out|refine zS ?_ GE102.out|refine zS ?_ GE103.out)|exact HB.out⟩
        ·replace c78:=Bool.eq_false_iff.mpr c78
         subst c78
         have H1:(if x102000_3 = x103000_3 then ((val_reckoner_of.f kj67 x102000_3 x0_3 x102000_3 x102001_3 x102002_3 x102003_3 x103000_3 x103001_3 x103002_3 x103003_3).bind fun bt110=>(if bt110.2.2.2.2 = true then (some (bt110.1,bt110.2.1,bt110.2.2.1,bt110.2.2.2.1,0)) else (some (0,0,0,(⟨#[]⟩:ByteArray),10)))) else (some (0,0,0,(⟨#[]⟩:ByteArray),5))) = some (r1,r2,r3,r4,r5):=by rw [if_neg (show ¬ (false = true) by decide)] at H;exact H
         clear H
         have H:=H1
         clear H1
         by_cases c82:x102000_3 = x103000_3
         ·rw [if_pos c82] at H
          have c82b0:(x102000_3 == x103000_3) = true:=beq_iff_eq.mpr c82
          have c82b1:(x102000_3 != x103000_3) = false:=bne_eq_false_iff_eq.mpr c82
          clear c82
          replace H:=Option.bind_eq_some_iff.mp H
          obtain ⟨⟨t110,t111,t112,t113,t114⟩,A830,H⟩:=H
          replace H:(if t114 = true then (some (t110,t111,t112,t113,0)) else (some (0,0,0,(⟨#[]⟩:ByteArray),10))) = some (r1,r2,r3,r4,r5):=H
          have A83:=z_ A830
          clear A830
          by_cases c84:t114 = true
          ·subst c84
           have H1:(some (t110,t111,t112,t113,0)) = some (r1,r2,r3,r4,r5):=by rw [if_pos rfl] at H;exact H
           clear H
           have H:=H1
           clear H1
           simp only [Option.some.injEq,Prod.mk.injEq] at H
           obtain ⟨rfl,rfl,rfl,rfl,rfl⟩:=H
           have hnb85:=NB101_102.out
           have hnc85:=NB102_101.out
           have hnb86:=NB101_103.out
           have hnc86:=NB103_101.out
           have hcz87_0:wc.cell? ⟨gb101,0,none⟩ = some (.int .i64 x102000_3):=(zce BK101.out 0).trans rfl
           have hcz87_1:wc.cell? ⟨gb101,1,none⟩ = some (.int .i64 x102001_3):=(zce BK101.out 1).trans rfl
           have hcz87_2:wc.cell? ⟨gb101,2,none⟩ = some (.int .i64 x102002_3):=(zce BK101.out 2).trans rfl
           have hcz87_3:wc.cell? ⟨gb101,3,none⟩ = some (.string x102003_3):=(zce BK101.out 3).trans rfl
           have hfz87_0:=zfz BK101.out 0
           have hfz87_1:=zfz BK101.out 1
           have hfz87_2:=zfz BK101.out 2
           have hfz87_3:=zfz BK101.out 3
           have hnb88:=NB102_103.out
           have hnc88:=NB103_102.out
           have hcz89_0:wc.cell? ⟨gb102,0,none⟩ = some (.int .i64 x103000_3):=(zce BK102.out 0).trans rfl
           have hcz89_1:wc.cell? ⟨gb102,1,none⟩ = some (.int .i64 x103001_3):=(zce BK102.out 1).trans rfl
           have hcz89_2:wc.cell? ⟨gb102,2,none⟩ = some (.int .i64 x103002_3):=(zce BK102.out 2).trans rfl
           have hcz89_3:wc.cell? ⟨gb102,3,none⟩ = some (.string x103003_3):=(zce BK102.out 3).trans rfl
           have hfz89_0:=zfz BK102.out 0
           have hfz89_1:=zfz BK102.out 1
           have hfz89_2:=zfz BK102.out 2
           have hfz89_3:=zfz BK102.out 3
           go_wp2_with (first|((with_reducible refine gate_dyn (c:=.tmp 61) rfl ?_);refine goesLd_ (some 65) rfl rfl Try.func32 (by kernel_rfl) rfl #[.agg #[.int .i64 x102000_3], .int .i64 x0_3, .agg #[.int .i64 x102000_3, .int .i64 x102001_3, .int .i64 x102002_3, .string x102003_3], .agg #[.int .i64 x103000_3, .int .i64 x103001_3, .int .i64 x103002_3, .string x103003_3]] rfl rfl (by (try simp only [List.map_toArray,List.map_cons,List.map_nil]);first|done|rfl|(simp only [List.length_drop,List.length_take];rfl)) ?_;(with_reducible refine (val_reckoner_of.calls kj67 x102000_3 x0_3 x102000_3 x102001_3 x102002_3 x102003_3 x103000_3 x103001_3 x103002_3 x103003_3 t110 t111 t112 t113 true _ A83.out).mono ?_);rintro e w90 ⟨rfl,hb⟩;refine ⟨_,rfl,?_⟩;have n0_:=z_ (zbb (g:=gb101) (o:=.cells #[.int .i64 x102000_3, .int .i64 x102001_3, .int .i64 x102002_3, .string x102003_3] 23 (0,0)) (by (with_reducible repeat first|apply zbN|apply zb1|apply zbA);exact BK101.out) hb);have n1_:=z_ (zbb (g:=gb102) (o:=.cells #[.int .i64 x103000_3, .int .i64 x103001_3, .int .i64 x103002_3, .string x103003_3] 23 (0,0)) (by (with_reducible repeat first|apply zbN|apply zb1|apply zbA);exact BK102.out) hb);have n2_:=z_ (zbb (g:=gb103) (o:=.cells #[.int .i64 0, .int .i64 0, .int .i64 0, .string (⟨#[]⟩:ByteArray)] 23 (0,0)) (by (with_reducible repeat first|apply zbN|apply zb1|apply zbA);exact BK103.out) hb);have n3_:=z_ (below_step (by repeat first|(with_reducible first|exact HB.out|apply zA|apply zN|apply z1|refine zS ?_ GE101.out|refine zS ?_ GE102.out|refine zS ?_ GE103.out)|exact HB.out) hb);clear BK101;clear BK102;clear BK103;clear HB;have BK101:=n0_;have BK102:=n1_;have BK103:=n2_;have HB:=n3_;clear n0_ n1_ n2_ n3_;(try clear hb);(try clear hb2);(try clear hk);(try clear hi))|((with_reducible refine gate_dst (N:=9) rfl ?_);refine box_event ?hg (N:=9) ?hd (cs:=#[.int .i64 0, .int .i64 0, .int .i64 0, .string (⟨#[]⟩:ByteArray)]) (t:=23) ?hr ?_;(case hd=>rfl);(case hg=>rfl);(case hr=>first|(go_simp;done)|(go_simp;rfl));intro gb115 hg w91 hbox hb;have n0_:=z_ (zbb (g:=gb101) (o:=.cells #[.int .i64 x102000_3, .int .i64 x102001_3, .int .i64 x102002_3, .string x102003_3] 23 (0,0)) (by (with_reducible repeat first|apply zbN|apply zb1|apply zbA);exact BK101.out) hb);have n1_:=z_ (zbb (g:=gb102) (o:=.cells #[.int .i64 x103000_3, .int .i64 x103001_3, .int .i64 x103002_3, .string x103003_3] 23 (0,0)) (by (with_reducible repeat first|apply zbN|apply zb1|apply zbA);exact BK102.out) hb);have n2_:=z_ (zbb (g:=gb103) (o:=.cells #[.int .i64 0, .int .i64 0, .int .i64 0, .string (⟨#[]⟩:ByteArray)] 23 (0,0)) (by (with_reducible repeat first|apply zbN|apply zb1|apply zbA);exact BK103.out) hb);have n3_:=z_ (below_step (by repeat first|(with_reducible first|exact HB.out|apply zA|apply zN|apply z1|refine zS ?_ GE101.out|refine zS ?_ GE102.out|refine zS ?_ GE103.out)|exact HB.out) hb);have n4_:=z_ (hbox);have n5_:=z_ ((by rw [hg];exact (zBs (by repeat first|(with_reducible first|exact HB.out|apply zA|apply zN|apply z1|refine zS ?_ GE101.out|refine zS ?_ GE102.out|refine zS ?_ GE103.out)|exact HB.out)):w.heap.size ≤ gb115));have n6_:=z_ ((by rw [hg];exact (zBs (by repeat first|(with_reducible first|exact HB.out|apply zA|apply zN|apply z1|refine zS ?_ GE101.out|refine zS ?_ GE102.out|refine zS ?_ GE103.out)|exact HB.out)):w.heap.size ≤ gb115));have n7_:=z_ ((by rw [hg];exact Nat.ne_of_lt (blk_lt (g:=gb101) (o:=.cells #[.int .i64 x102000_3, .int .i64 x102001_3, .int .i64 x102002_3, .string x102003_3] 23 (0,0)) (by (with_reducible repeat first|apply zbN|apply zb1|apply zbA);exact BK101.out)):gb101 ≠ gb115));have n8_:=z_ ((by rw [hg];exact Nat.ne_of_gt (blk_lt (g:=gb101) (o:=.cells #[.int .i64 x102000_3, .int .i64 x102001_3, .int .i64 x102002_3, .string x102003_3] 23 (0,0)) (by (with_reducible repeat first|apply zbN|apply zb1|apply zbA);exact BK101.out)):gb115 ≠ gb101));have n9_:=z_ ((by rw [hg];exact Nat.ne_of_lt (blk_lt (g:=gb102) (o:=.cells #[.int .i64 x103000_3, .int .i64 x103001_3, .int .i64 x103002_3, .string x103003_3] 23 (0,0)) (by (with_reducible repeat first|apply zbN|apply zb1|apply zbA);exact BK102.out)):gb102 ≠ gb115));have n10_:=z_ ((by rw [hg];exact Nat.ne_of_gt (blk_lt (g:=gb102) (o:=.cells #[.int .i64 x103000_3, .int .i64 x103001_3, .int .i64 x103002_3, .string x103003_3] 23 (0,0)) (by (with_reducible repeat first|apply zbN|apply zb1|apply zbA);exact BK102.out)):gb115 ≠ gb102));have n11_:=z_ ((by rw [hg];exact Nat.ne_of_lt (blk_lt (g:=gb103) (o:=.cells #[.int .i64 0, .int .i64 0, .int .i64 0, .string (⟨#[]⟩:ByteArray)] 23 (0,0)) (by (with_reducible repeat first|apply zbN|apply zb1|apply zbA);exact BK103.out)):gb103 ≠ gb115));have n12_:=z_ ((by rw [hg];exact Nat.ne_of_gt (blk_lt (g:=gb103) (o:=.cells #[.int .i64 0, .int .i64 0, .int .i64 0, .string (⟨#[]⟩:ByteArray)] 23 (0,0)) (by (with_reducible repeat first|apply zbN|apply zb1|apply zbA);exact BK103.out)):gb115 ≠ gb103));clear BK101;clear BK102;clear BK103;clear HB;have BK101:=n0_;have BK102:=n1_;have BK103:=n2_;have HB:=n3_;have BK115:=n4_;have GW115:=n5_;have GE115:=n6_;have NB101_115:=n7_;have NB115_101:=n8_;have NB102_115:=n9_;have NB115_102:=n10_;have NB103_115:=n11_;have NB115_103:=n12_;clear n0_ n1_ n2_ n3_ n4_ n5_ n6_ n7_ n8_ n9_ n10_ n11_ n12_;clear hb hbox hg;have hnb92:=NB115_101.out;have hnc92:=NB101_115.out;have hnb93:=NB115_102.out;have hnc93:=NB102_115.out;have hnb94:=NB115_103.out;have hnc94:=NB103_115.out;have hcz95_0:w91.cell? ⟨gb115,0,none⟩ = some (.int .i64 0):=(zce BK115.out 0).trans rfl;have hcz95_1:w91.cell? ⟨gb115,1,none⟩ = some (.int .i64 0):=(zce BK115.out 1).trans rfl;have hcz95_2:w91.cell? ⟨gb115,2,none⟩ = some (.int .i64 0):=(zce BK115.out 2).trans rfl;have hcz95_3:w91.cell? ⟨gb115,3,none⟩ = some (.string (⟨#[]⟩:ByteArray)):=(zce BK115.out 3).trans rfl;have hfz95_0:=zfz BK115.out 0;have hfz95_1:=zfz BK115.out 1;have hfz95_2:=zfz BK115.out 2;have hfz95_3:=zfz BK115.out 3;have hcz96_0:w91.cell? ⟨gb103,0,none⟩ = some (.int .i64 0):=(zce BK103.out 0).trans rfl;have hcz96_1:w91.cell? ⟨gb103,1,none⟩ = some (.int .i64 0):=(zce BK103.out 1).trans rfl;have hcz96_2:w91.cell? ⟨gb103,2,none⟩ = some (.int .i64 0):=(zce BK103.out 2).trans rfl;have hcz96_3:w91.cell? ⟨gb103,3,none⟩ = some (.string (⟨#[]⟩:ByteArray)):=(zce BK103.out 3).trans rfl;have hfz96_0:=zfz BK103.out 0;have hfz96_1:=zfz BK103.out 1;have hfz96_2:=zfz BK103.out 2;have hfz96_3:=zfz BK103.out 3))
           refine bodyPost_ret (results_ct rfl _ _ gb103 23 #[.int .i64 t110, .int .i64 t111, .int .i64 t112, .string t113] (0,0) _ rfl (by (with_reducible repeat first|apply zbN|apply zb1|apply zbA);refine zbp (cs:=#[.int .i64 t110, .int .i64 t111, .int .i64 t112, .string (⟨#[]⟩:ByteArray)]) ?_ 3 _ rfl;(with_reducible repeat first|apply zbN|apply zb1|apply zbA);refine zbp (cs:=#[.int .i64 t110, .int .i64 t111, .int .i64 0, .string (⟨#[]⟩:ByteArray)]) ?_ 2 _ rfl;(with_reducible repeat first|apply zbN|apply zb1|apply zbA);refine zbp (cs:=#[.int .i64 t110, .int .i64 0, .int .i64 0, .string (⟨#[]⟩:ByteArray)]) ?_ 1 _ rfl;(with_reducible repeat first|apply zbN|apply zb1|apply zbA);refine zbp (cs:=#[.int .i64 0, .int .i64 0, .int .i64 0, .string (⟨#[]⟩:ByteArray)]) ?_ 0 _ rfl;(with_reducible repeat first|apply zbN|apply zb1|apply zbA);refine zbf ?_ NB103_115.out _;(with_reducible repeat first|apply zbN|apply zb1|apply zbA);refine zbf ?_ NB103_115.out _;(with_reducible repeat first|apply zbN|apply zb1|apply zbA);refine zbf ?_ NB103_115.out _;(with_reducible repeat first|apply zbN|apply zb1|apply zbA);refine zbf ?_ NB103_115.out _;(with_reducible repeat first|apply zbN|apply zb1|apply zbA);exact BK103.out) Try.underlying23 rfl (by kernel_rfl)) rfl ?_
           exact ⟨by first|rfl|(simp [errW_none,errW_some] <;> rfl)|(simp [*,errW_none,errW_some] <;> rfl),by repeat first|(with_reducible first|exact HB.out|apply zA|apply zN|apply z1|refine zS ?_ GE101.out|refine zS ?_ GE102.out|refine zS ?_ GE103.out|refine zS ?_ GE115.out)|exact HB.out⟩
          ·replace c84:=Bool.eq_false_iff.mpr c84
           subst c84
           have H1:(some (0,0,0,(⟨#[]⟩:ByteArray),10)) = some (r1,r2,r3,r4,r5):=by rw [if_neg (show ¬ (false = true) by decide)] at H;exact H
           clear H
           have H:=H1
           clear H1
           simp only [Option.some.injEq,Prod.mk.injEq] at H
           obtain ⟨rfl,rfl,rfl,rfl,rfl⟩:=H
           have hnb97:=NB101_102.out
           have hnc97:=NB102_101.out
           have hnb98:=NB101_103.out
           have hnc98:=NB103_101.out
           have hcz99_0:wc.cell? ⟨gb101,0,none⟩ = some (.int .i64 x102000_3):=(zce BK101.out 0).trans rfl
           have hcz99_1:wc.cell? ⟨gb101,1,none⟩ = some (.int .i64 x102001_3):=(zce BK101.out 1).trans rfl
           have hcz99_2:wc.cell? ⟨gb101,2,none⟩ = some (.int .i64 x102002_3):=(zce BK101.out 2).trans rfl
           have hcz99_3:wc.cell? ⟨gb101,3,none⟩ = some (.string x102003_3):=(zce BK101.out 3).trans rfl
           have hfz99_0:=zfz BK101.out 0
           have hfz99_1:=zfz BK101.out 1
           have hfz99_2:=zfz BK101.out 2
           have hfz99_3:=zfz BK101.out 3
           have hnb100:=NB102_103.out
           have hnc100:=NB103_102.out
           have hcz101_0:wc.cell? ⟨gb102,0,none⟩ = some (.int .i64 x103000_3):=(zce BK102.out 0).trans rfl
           have hcz101_1:wc.cell? ⟨gb102,1,none⟩ = some (.int .i64 x103001_3):=(zce BK102.out 1).trans rfl
           have hcz101_2:wc.cell? ⟨gb102,2,none⟩ = some (.int .i64 x103002_3):=(zce BK102.out 2).trans rfl
           have hcz101_3:wc.cell? ⟨gb102,3,none⟩ = some (.string x103003_3):=(zce BK102.out 3).trans rfl
           have hfz101_0:=zfz BK102.out 0
           have hfz101_1:=zfz BK102.out 1
           have hfz101_2:=zfz BK102.out 2
           have hfz101_3:=zfz BK102.out 3
           go_wp2_with (first|((with_reducible refine gate_dyn (c:=.tmp 61) rfl ?_);refine goesLd_ (some 65) rfl rfl Try.func32 (by kernel_rfl) rfl #[.agg #[.int .i64 x102000_3], .int .i64 x0_3, .agg #[.int .i64 x102000_3, .int .i64 x102001_3, .int .i64 x102002_3, .string x102003_3], .agg #[.int .i64 x103000_3, .int .i64 x103001_3, .int .i64 x103002_3, .string x103003_3]] rfl rfl (by (try simp only [List.map_toArray,List.map_cons,List.map_nil]);first|done|rfl|(simp only [List.length_drop,List.length_take];rfl)) ?_;(with_reducible refine (val_reckoner_of.calls kj67 x102000_3 x0_3 x102000_3 x102001_3 x102002_3 x102003_3 x103000_3 x103001_3 x103002_3 x103003_3 t110 t111 t112 t113 false _ A83.out).mono ?_);rintro e w102 ⟨rfl,hb⟩;refine ⟨_,rfl,?_⟩;have n0_:=z_ (zbb (g:=gb101) (o:=.cells #[.int .i64 x102000_3, .int .i64 x102001_3, .int .i64 x102002_3, .string x102003_3] 23 (0,0)) (by (with_reducible repeat first|apply zbN|apply zb1|apply zbA);exact BK101.out) hb);have n1_:=z_ (zbb (g:=gb102) (o:=.cells #[.int .i64 x103000_3, .int .i64 x103001_3, .int .i64 x103002_3, .string x103003_3] 23 (0,0)) (by (with_reducible repeat first|apply zbN|apply zb1|apply zbA);exact BK102.out) hb);have n2_:=z_ (zbb (g:=gb103) (o:=.cells #[.int .i64 0, .int .i64 0, .int .i64 0, .string (⟨#[]⟩:ByteArray)] 23 (0,0)) (by (with_reducible repeat first|apply zbN|apply zb1|apply zbA);exact BK103.out) hb);have n3_:=z_ (below_step (by repeat first|(with_reducible first|exact HB.out|apply zA|apply zN|apply z1|refine zS ?_ GE101.out|refine zS ?_ GE102.out|refine zS ?_ GE103.out)|exact HB.out) hb);clear BK101;clear BK102;clear BK103;clear HB;have BK101:=n0_;have BK102:=n1_;have BK103:=n2_;have HB:=n3_;clear n0_ n1_ n2_ n3_;(try clear hb);(try clear hb2);(try clear hk);(try clear hi))|((with_reducible refine gate_dst (N:=9) rfl ?_);refine box_event ?hg (N:=9) ?hd (cs:=#[.int .i64 0, .int .i64 0, .int .i64 0, .string (⟨#[]⟩:ByteArray)]) (t:=23) ?hr ?_;(case hd=>rfl);(case hg=>rfl);(case hr=>first|(go_simp;done)|(go_simp;rfl));intro gb115 hg w103 hbox hb;have n0_:=z_ (zbb (g:=gb101) (o:=.cells #[.int .i64 x102000_3, .int .i64 x102001_3, .int .i64 x102002_3, .string x102003_3] 23 (0,0)) (by (with_reducible repeat first|apply zbN|apply zb1|apply zbA);exact BK101.out) hb);have n1_:=z_ (zbb (g:=gb102) (o:=.cells #[.int .i64 x103000_3, .int .i64 x103001_3, .int .i64 x103002_3, .string x103003_3] 23 (0,0)) (by (with_reducible repeat first|apply zbN|apply zb1|apply zbA);exact BK102.out) hb);have n2_:=z_ (zbb (g:=gb103) (o:=.cells #[.int .i64 0, .int .i64 0, .int .i64 0, .string (⟨#[]⟩:ByteArray)] 23 (0,0)) (by (with_reducible repeat first|apply zbN|apply zb1|apply zbA);exact BK103.out) hb);have n3_:=z_ (below_step (by repeat first|(with_reducible first|exact HB.out|apply zA|apply zN|apply z1|refine zS ?_ GE101.out|refine zS ?_ GE102.out|refine zS ?_ GE103.out)|exact HB.out) hb);have n4_:=z_ (hbox);have n5_:=z_ ((by rw [hg];exact (zBs (by repeat first|(with_reducible first|exact HB.out|apply zA|apply zN|apply z1|refine zS ?_ GE101.out|refine zS ?_ GE102.out|refine zS ?_ GE103.out)|exact HB.out)):w.heap.size ≤ gb115));have n6_:=z_ ((by rw [hg];exact (zBs (by repeat first|(with_reducible first|exact HB.out|apply zA|apply zN|apply z1|refine zS ?_ GE101.out|refine zS ?_ GE102.out|refine zS ?_ GE103.out)|exact HB.out)):w.heap.size ≤ gb115));have n7_:=z_ ((by rw [hg];exact Nat.ne_of_lt (blk_lt (g:=gb101) (o:=.cells #[.int .i64 x102000_3, .int .i64 x102001_3, .int .i64 x102002_3, .string x102003_3] 23 (0,0)) (by (with_reducible repeat first|apply zbN|apply zb1|apply zbA);exact BK101.out)):gb101 ≠ gb115));have n8_:=z_ ((by rw [hg];exact Nat.ne_of_gt (blk_lt (g:=gb101) (o:=.cells #[.int .i64 x102000_3, .int .i64 x102001_3, .int .i64 x102002_3, .string x102003_3] 23 (0,0)) (by (with_reducible repeat first|apply zbN|apply zb1|apply zbA);exact BK101.out)):gb115 ≠ gb101));have n9_:=z_ ((by rw [hg];exact Nat.ne_of_lt (blk_lt (g:=gb102) (o:=.cells #[.int .i64 x103000_3, .int .i64 x103001_3, .int .i64 x103002_3, .string x103003_3] 23 (0,0)) (by (with_reducible repeat first|apply zbN|apply zb1|apply zbA);exact BK102.out)):gb102 ≠ gb115));have n10_:=z_ ((by rw [hg];exact Nat.ne_of_gt (blk_lt (g:=gb102) (o:=.cells #[.int .i64 x103000_3, .int .i64 x103001_3, .int .i64 x103002_3, .string x103003_3] 23 (0,0)) (by (with_reducible repeat first|apply zbN|apply zb1|apply zbA);exact BK102.out)):gb115 ≠ gb102));have n11_:=z_ ((by rw [hg];exact Nat.ne_of_lt (blk_lt (g:=gb103) (o:=.cells #[.int .i64 0, .int .i64 0, .int .i64 0, .string (⟨#[]⟩:ByteArray)] 23 (0,0)) (by (with_reducible repeat first|apply zbN|apply zb1|apply zbA);exact BK103.out)):gb103 ≠ gb115));have n12_:=z_ ((by rw [hg];exact Nat.ne_of_gt (blk_lt (g:=gb103) (o:=.cells #[.int .i64 0, .int .i64 0, .int .i64 0, .string (⟨#[]⟩:ByteArray)] 23 (0,0)) (by (with_reducible repeat first|apply zbN|apply zb1|apply zbA);exact BK103.out)):gb115 ≠ gb103));clear BK101;clear BK102;clear BK103;clear HB;have BK101:=n0_;have BK102:=n1_;have BK103:=n2_;have HB:=n3_;have BK115:=n4_;have GW115:=n5_;have GE115:=n6_;have NB101_115:=n7_;have NB115_101:=n8_;have NB102_115:=n9_;have NB115_102:=n10_;have NB103_115:=n11_;have NB115_103:=n12_;clear n0_ n1_ n2_ n3_ n4_ n5_ n6_ n7_ n8_ n9_ n10_ n11_ n12_;clear hb hbox hg;have hnb104:=NB115_101.out;have hnc104:=NB101_115.out;have hnb105:=NB115_102.out;have hnc105:=NB102_115.out;have hnb106:=NB115_103.out;have hnc106:=NB103_115.out;have hcz107_0:w103.cell? ⟨gb115,0,none⟩ = some (.int .i64 0):=(zce BK115.out 0).trans rfl;have hcz107_1:w103.cell? ⟨gb115,1,none⟩ = some (.int .i64 0):=(zce BK115.out 1).trans rfl;have hcz107_2:w103.cell? ⟨gb115,2,none⟩ = some (.int .i64 0):=(zce BK115.out 2).trans rfl;have hcz107_3:w103.cell? ⟨gb115,3,none⟩ = some (.string (⟨#[]⟩:ByteArray)):=(zce BK115.out 3).trans rfl;have hfz107_0:=zfz BK115.out 0;have hfz107_1:=zfz BK115.out 1;have hfz107_2:=zfz BK115.out 2;have hfz107_3:=zfz BK115.out 3;have hcz108_0:w103.cell? ⟨gb103,0,none⟩ = some (.int .i64 0):=(zce BK103.out 0).trans rfl;have hcz108_1:w103.cell? ⟨gb103,1,none⟩ = some (.int .i64 0):=(zce BK103.out 1).trans rfl;have hcz108_2:w103.cell? ⟨gb103,2,none⟩ = some (.int .i64 0):=(zce BK103.out 2).trans rfl;have hcz108_3:w103.cell? ⟨gb103,3,none⟩ = some (.string (⟨#[]⟩:ByteArray)):=(zce BK103.out 3).trans rfl;have hfz108_0:=zfz BK103.out 0;have hfz108_1:=zfz BK103.out 1;have hfz108_2:=zfz BK103.out 2;have hfz108_3:=zfz BK103.out 3))
           refine bodyPost_ret (results_ct rfl _ _ gb103 23 #[.int .i64 0, .int .i64 0, .int .i64 0, .string (⟨#[]⟩:ByteArray)] (0,0) _ rfl (by (with_reducible repeat first|apply zbN|apply zb1|apply zbA);refine zbp (cs:=#[.int .i64 0, .int .i64 0, .int .i64 0, .string (⟨#[]⟩:ByteArray)]) ?_ 3 _ rfl;(with_reducible repeat first|apply zbN|apply zb1|apply zbA);refine zbp (cs:=#[.int .i64 0, .int .i64 0, .int .i64 0, .string (⟨#[]⟩:ByteArray)]) ?_ 2 _ rfl;(with_reducible repeat first|apply zbN|apply zb1|apply zbA);refine zbp (cs:=#[.int .i64 0, .int .i64 0, .int .i64 0, .string (⟨#[]⟩:ByteArray)]) ?_ 1 _ rfl;(with_reducible repeat first|apply zbN|apply zb1|apply zbA);refine zbp (cs:=#[.int .i64 0, .int .i64 0, .int .i64 0, .string (⟨#[]⟩:ByteArray)]) ?_ 0 _ rfl;(with_reducible repeat first|apply zbN|apply zb1|apply zbA);refine zbf ?_ NB103_115.out _;(with_reducible repeat first|apply zbN|apply zb1|apply zbA);refine zbf ?_ NB103_115.out _;(with_reducible repeat first|apply zbN|apply zb1|apply zbA);refine zbf ?_ NB103_115.out _;(with_reducible repeat first|apply zbN|apply zb1|apply zbA);refine zbf ?_ NB103_115.out _;(with_reducible repeat first|apply zbN|apply zb1|apply zbA);exact BK103.out) Try.underlying23 rfl (by kernel_rfl)) rfl ?_
           exact ⟨by first|rfl|(simp [errW_none,errW_some] <;> rfl)|(simp [*,errW_none,errW_some] <;> rfl),by repeat first|(with_reducible first|exact HB.out|apply zA|apply zN|apply z1|refine zS ?_ GE101.out|refine zS ?_ GE102.out|refine zS ?_ GE103.out|refine zS ?_ GE115.out)|exact HB.out⟩
         ·rw [if_neg c82] at H
          have c82b0:(x102000_3 == x103000_3) = false:=beq_eq_false_iff_ne.mpr c82
          have c82b1:(x102000_3 != x103000_3) = true:=bne_iff_ne.mpr c82
          simp only [Option.some.injEq,Prod.mk.injEq] at H
          obtain ⟨rfl,rfl,rfl,rfl,rfl⟩:=H
          have hnb109:=NB101_102.out
          have hnc109:=NB102_101.out
          have hnb110:=NB101_103.out
          have hnc110:=NB103_101.out
          have hcz111_0:wc.cell? ⟨gb101,0,none⟩ = some (.int .i64 x102000_3):=(zce BK101.out 0).trans rfl
          have hcz111_1:wc.cell? ⟨gb101,1,none⟩ = some (.int .i64 x102001_3):=(zce BK101.out 1).trans rfl
          have hcz111_2:wc.cell? ⟨gb101,2,none⟩ = some (.int .i64 x102002_3):=(zce BK101.out 2).trans rfl
          have hcz111_3:wc.cell? ⟨gb101,3,none⟩ = some (.string x102003_3):=(zce BK101.out 3).trans rfl
          have hfz111_0:=zfz BK101.out 0
          have hfz111_1:=zfz BK101.out 1
          have hfz111_2:=zfz BK101.out 2
          have hfz111_3:=zfz BK101.out 3
          have hnb112:=NB102_103.out
          have hnc112:=NB103_102.out
          have hcz113_0:wc.cell? ⟨gb102,0,none⟩ = some (.int .i64 x103000_3):=(zce BK102.out 0).trans rfl
          have hcz113_1:wc.cell? ⟨gb102,1,none⟩ = some (.int .i64 x103001_3):=(zce BK102.out 1).trans rfl
          have hcz113_2:wc.cell? ⟨gb102,2,none⟩ = some (.int .i64 x103002_3):=(zce BK102.out 2).trans rfl
          have hcz113_3:wc.cell? ⟨gb102,3,none⟩ = some (.string x103003_3):=(zce BK102.out 3).trans rfl
          have hfz113_0:=zfz BK102.out 0
          have hfz113_1:=zfz BK102.out 1
          have hfz113_2:=zfz BK102.out 2
          have hfz113_3:=zfz BK102.out 3
          have hcz114_0:wc.cell? ⟨gb103,0,none⟩ = some (.int .i64 0):=(zce BK103.out 0).trans rfl
          have hcz114_1:wc.cell? ⟨gb103,1,none⟩ = some (.int .i64 0):=(zce BK103.out 1).trans rfl
          have hcz114_2:wc.cell? ⟨gb103,2,none⟩ = some (.int .i64 0):=(zce BK103.out 2).trans rfl
          have hcz114_3:wc.cell? ⟨gb103,3,none⟩ = some (.string (⟨#[]⟩:ByteArray)):=(zce BK103.out 3).trans rfl
          have hfz114_0:=zfz BK103.out 0
          have hfz114_1:=zfz BK103.out 1
          have hfz114_2:=zfz BK103.out 2
          have hfz114_3:=zfz BK103.out 3
          go_wp2
          refine bodyPost_ret (results_ct rfl _ _ gb103 23 #[.int .i64 0, .int .i64 0, .int .i64 0, .string (⟨#[]⟩:ByteArray)] (0,0) _ rfl (by (with_reducible repeat first|apply zbN|apply zb1|apply zbA);refine zbp (cs:=#[.int .i64 0, .int .i64 0, .int .i64 0, .string (⟨#[]⟩:ByteArray)]) ?_ 3 _ rfl;(with_reducible repeat first|apply zbN|apply zb1|apply zbA);refine zbp (cs:=#[.int .i64 0, .int .i64 0, .int .i64 0, .string (⟨#[]⟩:ByteArray)]) ?_ 2 _ rfl;(with_reducible repeat first|apply zbN|apply zb1|apply zbA);refine zbp (cs:=#[.int .i64 0, .int .i64 0, .int .i64 0, .string (⟨#[]⟩:ByteArray)]) ?_ 1 _ rfl;(with_reducible repeat first|apply zbN|apply zb1|apply zbA);refine zbp (cs:=#[.int .i64 0, .int .i64 0, .int .i64 0, .string (⟨#[]⟩:ByteArray)]) ?_ 0 _ rfl;(with_reducible repeat first|apply zbN|apply zb1|apply zbA);exact BK103.out) Try.underlying23 rfl (by kernel_rfl)) rfl ?_
          exact ⟨by first|rfl|(simp [errW_none,errW_some] <;> rfl)|(simp [*,errW_none,errW_some] <;> rfl),by repeat first|(with_reducible first|exact HB.out|apply zA|apply zN|apply z1|refine zS ?_ GE101.out|refine zS ?_ GE102.out|refine zS ?_ GE103.out)|exact HB.out⟩
end Go.Proofs.Ytllkhdhanheieaa.R
namespace Go.Proofs.Ytllkhdhanheieaa.R
open Go.RowKit Go.Proofs.YtllkhdhanheieaaW.PrintWords Go.Proofs.YtllkhdhanheieaaW.PrintLast Go.Proofs.YtllkhdhanheieaaW.PrintMore
attribute [local go_sem] max2_int min2_int max_two min_two max_three min_three max_four min_four
attribute [local go_sem high] own_gtr own_leq own_geq own_cell_set Option.map_some fld23_1
set_option linter.unusedVariables false
set_option linter.unusedSimpArgs false
def cmp_isNaN_int.f (a0:Int):Option (Bool):=some (a0 != a0)
set_option maxHeartbeats 8000000 in
set_option maxRecDepth 100000 in
theorem cmp_isNaN_int.calls (a0:Int) (r:Bool) (w:World) (h:cmp_isNaN_int.f a0 = some r) :
  Calls Try.prog 54 #[.int .i64 a0] w fun e w'=>e = .returned (.bool r) ∧ Drawn0 w w':=by
 have H:(some (a0 != a0)) = some r:=h
 clear h
 obtain rfl:=Option.some.inj H
 go_enter Try.func54,Try.ntmps54
 go_wp2
 go_ret
 exact ⟨by first|rfl|(simp;done)|(simp [*];done),by repeat (first|exact Drawn0.refl _|apply Drawn0.step)⟩
end Go.Proofs.Ytllkhdhanheieaa.R
namespace Go.Proofs.Ytllkhdhanheieaa.R
open Go.RowKit Go.Proofs.YtllkhdhanheieaaW.PrintWords Go.Proofs.YtllkhdhanheieaaW.PrintLast Go.Proofs.YtllkhdhanheieaaW.PrintMore
attribute [local go_sem] max2_int min2_int max_two min_two max_three min_three max_four min_four
attribute [local go_sem high] own_gtr own_leq own_geq own_cell_set Option.map_some fld23_1
set_option linter.unusedVariables false
set_option linter.unusedSimpArgs false
def cmp_Compare_int.f (a0:Int) (a1:Int):Option (Int):=(cmp_isNaN_int.f a0).bind fun t101=>((cmp_isNaN_int.f a1).bind fun t102=>(if t101 = true then (if t102 = true then (some 0) else (some (-1))) else (if t102 = true then (some 1) else (if a0 < a1 then (some (-1)) else (if a0 > a1 then (some 1) else (some 0))))))
set_option maxHeartbeats 8000000 in
set_option maxRecDepth 100000 in
theorem cmp_Compare_int.calls (a0:Int) (a1:Int) (r:Int) (w:World) (h:cmp_Compare_int.f a0 a1 = some r) :
  Calls Try.prog 36 #[.int .i64 a0, .int .i64 a1] w fun e w'=>e = .returned (.int .i64 r) ∧ Drawn0 w w':=by
 have H:((cmp_isNaN_int.f a0).bind fun t101=>((cmp_isNaN_int.f a1).bind fun t102=>(if t101 = true then (if t102 = true then (some 0) else (some (-1))) else (if t102 = true then (some 1) else (if a0 < a1 then (some (-1)) else (if a0 > a1 then (some 1) else (some 0))))))) = some r:=h
 clear h
 replace H:=Option.bind_eq_some_iff.mp H
 obtain ⟨t101,A30,H⟩:=H
 replace H:((cmp_isNaN_int.f a1).bind fun t102=>(if t101 = true then (if t102 = true then (some 0) else (some (-1))) else (if t102 = true then (some 1) else (if a0 < a1 then (some (-1)) else (if a0 > a1 then (some 1) else (some 0)))))) = some r:=H
 have A3:=z_ A30
 clear A30
 replace H:=Option.bind_eq_some_iff.mp H
 obtain ⟨t102,A40,H⟩:=H
 replace H:(if t101 = true then (if t102 = true then (some 0) else (some (-1))) else (if t102 = true then (some 1) else (if a0 < a1 then (some (-1)) else (if a0 > a1 then (some 1) else (some 0))))) = some r:=H
 have A4:=z_ A40
 clear A40
 by_cases c5:t101 = true
 ·subst c5
  have H1:(if t102 = true then (some 0) else (some (-1))) = some r:=by rw [if_pos rfl] at H;exact H
  clear H
  have H:=H1
  clear H1
  by_cases c6:t102 = true
  ·subst c6
   have H1:(some 0) = some r:=by rw [if_pos rfl] at H;exact H
   clear H
   have H:=H1
   clear H1
   obtain rfl:=Option.some.inj H
   go_enter Try.func36,Try.ntmps36
   go_wp2_with (first|((with_reducible refine gate_callee (f:=54) rfl ?_);refine goesL_ (some 8) rfl rfl Try.func54 (by kernel_rfl) rfl #[.int .i64 a0] rfl (by (try simp only [List.map_toArray,List.map_cons,List.map_nil]);first|done|rfl|(simp only [List.length_drop,List.length_take];rfl)) ?_;(with_reducible refine (cmp_isNaN_int.calls a0 true _ A3.out).mono ?_);rintro e w' ⟨rfl,⟨nd,rfl⟩⟩;refine ⟨_,rfl,?_⟩)|((with_reducible refine gate_callee (f:=54) rfl ?_);refine goesL_ (some 10) rfl rfl Try.func54 (by kernel_rfl) rfl #[.int .i64 a1] rfl (by (try simp only [List.map_toArray,List.map_cons,List.map_nil]);first|done|rfl|(simp only [List.length_drop,List.length_take];rfl)) ?_;(with_reducible refine (cmp_isNaN_int.calls a1 true _ A4.out).mono ?_);rintro e w' ⟨rfl,⟨nd,rfl⟩⟩;refine ⟨_,rfl,?_⟩))
   go_ret
   exact ⟨by first|rfl|(simp;done)|(simp [*];done),by repeat (first|exact Drawn0.refl _|apply Drawn0.step)⟩
  ·replace c6:=Bool.eq_false_iff.mpr c6
   subst c6
   have H1:(some (-1)) = some r:=by rw [if_neg (show ¬ (false = true) by decide)] at H;exact H
   clear H
   have H:=H1
   clear H1
   obtain rfl:=Option.some.inj H
   go_enter Try.func36,Try.ntmps36
   go_wp2_with (first|((with_reducible refine gate_callee (f:=54) rfl ?_);refine goesL_ (some 8) rfl rfl Try.func54 (by kernel_rfl) rfl #[.int .i64 a0] rfl (by (try simp only [List.map_toArray,List.map_cons,List.map_nil]);first|done|rfl|(simp only [List.length_drop,List.length_take];rfl)) ?_;(with_reducible refine (cmp_isNaN_int.calls a0 true _ A3.out).mono ?_);rintro e w' ⟨rfl,⟨nd,rfl⟩⟩;refine ⟨_,rfl,?_⟩)|((with_reducible refine gate_callee (f:=54) rfl ?_);refine goesL_ (some 10) rfl rfl Try.func54 (by kernel_rfl) rfl #[.int .i64 a1] rfl (by (try simp only [List.map_toArray,List.map_cons,List.map_nil]);first|done|rfl|(simp only [List.length_drop,List.length_take];rfl)) ?_;(with_reducible refine (cmp_isNaN_int.calls a1 false _ A4.out).mono ?_);rintro e w' ⟨rfl,⟨nd,rfl⟩⟩;refine ⟨_,rfl,?_⟩))
   go_ret
   exact ⟨by first|rfl|(simp;done)|(simp [*];done),by repeat (first|exact Drawn0.refl _|apply Drawn0.step)⟩
 ·replace c5:=Bool.eq_false_iff.mpr c5
  subst c5
  have H1:(if t102 = true then (some 1) else (if a0 < a1 then (some (-1)) else (if a0 > a1 then (some 1) else (some 0)))) = some r:=by rw [if_neg (show ¬ (false = true) by decide)] at H;exact H
  clear H
  have H:=H1
  clear H1
  by_cases c7:t102 = true
  ·subst c7
   have H1:(some 1) = some r:=by rw [if_pos rfl] at H;exact H
   clear H
   have H:=H1
   clear H1
   obtain rfl:=Option.some.inj H
   go_enter Try.func36,Try.ntmps36
   go_wp2_with (first|((with_reducible refine gate_callee (f:=54) rfl ?_);refine goesL_ (some 8) rfl rfl Try.func54 (by kernel_rfl) rfl #[.int .i64 a0] rfl (by (try simp only [List.map_toArray,List.map_cons,List.map_nil]);first|done|rfl|(simp only [List.length_drop,List.length_take];rfl)) ?_;(with_reducible refine (cmp_isNaN_int.calls a0 false _ A3.out).mono ?_);rintro e w' ⟨rfl,⟨nd,rfl⟩⟩;refine ⟨_,rfl,?_⟩)|((with_reducible refine gate_callee (f:=54) rfl ?_);refine goesL_ (some 10) rfl rfl Try.func54 (by kernel_rfl) rfl #[.int .i64 a1] rfl (by (try simp only [List.map_toArray,List.map_cons,List.map_nil]);first|done|rfl|(simp only [List.length_drop,List.length_take];rfl)) ?_;(with_reducible refine (cmp_isNaN_int.calls a1 true _ A4.out).mono ?_);rintro e w' ⟨rfl,⟨nd,rfl⟩⟩;refine ⟨_,rfl,?_⟩))
   go_ret
   exact ⟨by first|rfl|(simp;done)|(simp [*];done),by repeat (first|exact Drawn0.refl _|apply Drawn0.step)⟩
  ·replace c7:=Bool.eq_false_iff.mpr c7
   subst c7
   have H1:(if a0 < a1 then (some (-1)) else (if a0 > a1 then (some 1) else (some 0))) = some r:=by rw [if_neg (show ¬ (false = true) by decide)] at H;exact H
   clear H
   have H:=H1
   clear H1
   by_cases c8:a0 < a1
   ·rw [if_pos c8] at H
    have c8b0:decide (a0 < a1) = true:=decide_eq_true c8
    clear c8
    obtain rfl:=Option.some.inj H
    go_enter Try.func36,Try.ntmps36
    go_wp2_with (first|((with_reducible refine gate_callee (f:=54) rfl ?_);refine goesL_ (some 8) rfl rfl Try.func54 (by kernel_rfl) rfl #[.int .i64 a0] rfl (by (try simp only [List.map_toArray,List.map_cons,List.map_nil]);first|done|rfl|(simp only [List.length_drop,List.length_take];rfl)) ?_;(with_reducible refine (cmp_isNaN_int.calls a0 false _ A3.out).mono ?_);rintro e w' ⟨rfl,⟨nd,rfl⟩⟩;refine ⟨_,rfl,?_⟩)|((with_reducible refine gate_callee (f:=54) rfl ?_);refine goesL_ (some 10) rfl rfl Try.func54 (by kernel_rfl) rfl #[.int .i64 a1] rfl (by (try simp only [List.map_toArray,List.map_cons,List.map_nil]);first|done|rfl|(simp only [List.length_drop,List.length_take];rfl)) ?_;(with_reducible refine (cmp_isNaN_int.calls a1 false _ A4.out).mono ?_);rintro e w' ⟨rfl,⟨nd,rfl⟩⟩;refine ⟨_,rfl,?_⟩))
    go_ret
    exact ⟨by first|rfl|(simp;done)|(simp [*];done),by repeat (first|exact Drawn0.refl _|apply Drawn0.step)⟩
   ·rw [if_neg c8] at H
    have c8b0:decide (a0 < a1) = false:=decide_eq_false c8
    clear c8
    by_cases c9:a0 > a1
    ·rw [if_pos c9] at H
     have c9b0:decide (a1 < a0) = true:=decide_eq_true c9
     clear c9
     obtain rfl:=Option.some.inj H
     go_enter Try.func36,Try.ntmps36
     go_wp2_with (first|((with_reducible refine gate_callee (f:=54) rfl ?_);refine goesL_ (some 8) rfl rfl Try.func54 (by kernel_rfl) rfl #[.int .i64 a0] rfl (by (try simp only [List.map_toArray,List.map_cons,List.map_nil]);first|done|rfl|(simp only [List.length_drop,List.length_take];rfl)) ?_;(with_reducible refine (cmp_isNaN_int.calls a0 false _ A3.out).mono ?_);rintro e w' ⟨rfl,⟨nd,rfl⟩⟩;refine ⟨_,rfl,?_⟩)|((with_reducible refine gate_callee (f:=54) rfl ?_);refine goesL_ (some 10) rfl rfl Try.func54 (by kernel_rfl) rfl #[.int .i64 a1] rfl (by (try simp only [List.map_toArray,List.map_cons,List.map_nil]);first|done|rfl|(simp only [List.length_drop,List.length_take];rfl)) ?_;(with_reducible refine (cmp_isNaN_int.calls a1 false _ A4.out).mono ?_);rintro e w' ⟨rfl,⟨nd,rfl⟩⟩;refine ⟨_,rfl,?_⟩))
     go_ret
     exact ⟨by first|rfl|(simp;done)|(simp [*];done),by repeat (first|exact Drawn0.refl _|apply Drawn0.step)⟩
    ·rw [if_neg c9] at H
     have c9b0:decide (a1 < a0) = false:=decide_eq_false c9
     clear c9
     obtain rfl:=Option.some.inj H
     go_enter Try.func36,Try.ntmps36
     go_wp2_with (first|((with_reducible refine gate_callee (f:=54) rfl ?_);refine goesL_ (some 8) rfl rfl Try.func54 (by kernel_rfl) rfl #[.int .i64 a0] rfl (by (try simp only [List.map_toArray,List.map_cons,List.map_nil]);first|done|rfl|(simp only [List.length_drop,List.length_take];rfl)) ?_;(with_reducible refine (cmp_isNaN_int.calls a0 false _ A3.out).mono ?_);rintro e w' ⟨rfl,⟨nd,rfl⟩⟩;refine ⟨_,rfl,?_⟩)|((with_reducible refine gate_callee (f:=54) rfl ?_);refine goesL_ (some 10) rfl rfl Try.func54 (by kernel_rfl) rfl #[.int .i64 a1] rfl (by (try simp only [List.map_toArray,List.map_cons,List.map_nil]);first|done|rfl|(simp only [List.length_drop,List.length_take];rfl)) ?_;(with_reducible refine (cmp_isNaN_int.calls a1 false _ A4.out).mono ?_);rintro e w' ⟨rfl,⟨nd,rfl⟩⟩;refine ⟨_,rfl,?_⟩))
     go_ret
     exact ⟨by first|rfl|(simp;done)|(simp [*];done),by repeat (first|exact Drawn0.refl _|apply Drawn0.step)⟩
end Go.Proofs.Ytllkhdhanheieaa.R
namespace Go.Proofs.Ytllkhdhanheieaa.R
open Go.RowKit Go.Proofs.YtllkhdhanheieaaW.PrintWords Go.Proofs.YtllkhdhanheieaaW.PrintLast Go.Proofs.YtllkhdhanheieaaW.PrintMore
attribute [local go_sem] max2_int min2_int max_two min_two max_three min_three max_four min_four
attribute [local go_sem high] own_gtr own_leq own_geq own_cell_set Option.map_some fld23_1
set_option linter.unusedVariables false
set_option linter.unusedSimpArgs false
def val_order.f (a0_0:Int) (a0_1:Int):Option (Int):=(cmp_Compare_int.f a0_0 a0_1).bind fun t102=>(some t102)
set_option maxHeartbeats 8000000 in
set_option maxRecDepth 100000 in
theorem val_order.calls (a0_0:Int) (a0_1:Int) (r:Int) (w:World) (h:val_order.f a0_0 a0_1 = some r) :
  Calls Try.prog 37 #[.agg #[.int .i64 a0_0, .int .i64 a0_1]] w fun e w'=>e = .returned (.int .i64 r) ∧ Below w.heap.size w w':=by
 have hu61:=Try.underlying61
 have HB:=z_ (Below.refl w.heap.size w)
 have H:((cmp_Compare_int.f a0_0 a0_1).bind fun t102=>(some t102)) = some r:=h
 clear h
 replace H:=Option.bind_eq_some_iff.mp H
 obtain ⟨t102,A20,H⟩:=H
 replace H:(some t102) = some r:=H
 have A2:=z_ A20
 clear A20
 obtain rfl:=Option.some.inj H
 go_enter Try.func37,Try.ntmps37
 go_wp2_with (first|((with_reducible refine gate_dst (N:=1) rfl ?_);refine box_event ?hg (N:=1) ?hd (cs:=#[.int .i64 a0_0, .int .i64 a0_1]) (t:=61) ?hr ?_;(case hd=>rfl);(case hg=>rfl);(case hr=>first|(go_simp;done)|(go_simp;rfl));intro gb101 hg w3 hbox hb;have n0_:=z_ (below_step (by repeat first|(with_reducible first|exact HB.out|apply zA|apply zN|apply z1)|exact HB.out) hb);have n1_:=z_ (hbox);have n2_:=z_ ((by rw [hg];exact (zBs (by repeat first|(with_reducible first|exact HB.out|apply zA|apply zN|apply z1)|exact HB.out)):w.heap.size ≤ gb101));have n3_:=z_ ((by rw [hg];exact (zBs (by repeat first|(with_reducible first|exact HB.out|apply zA|apply zN|apply z1)|exact HB.out)):w.heap.size ≤ gb101));clear HB;have HB:=n0_;have BK101:=n1_;have GW101:=n2_;have GE101:=n3_;clear n0_ n1_ n2_ n3_;clear hb hbox hg;have hcz4_0:w3.cell? ⟨gb101,0,none⟩ = some (.int .i64 a0_0):=(zce BK101.out 0).trans rfl;have hcz4_1:w3.cell? ⟨gb101,1,none⟩ = some (.int .i64 a0_1):=(zce BK101.out 1).trans rfl;have hfz4_0:=zfz BK101.out 0;have hfz4_1:=zfz BK101.out 1)|((with_reducible refine gate_callee (f:=36) rfl ?_);refine goesL_ (some 7) rfl rfl Try.func36 (by kernel_rfl) rfl #[.int .i64 a0_0, .int .i64 a0_1] rfl (by (try simp only [List.map_toArray,List.map_cons,List.map_nil]);first|done|rfl|(simp only [List.length_drop,List.length_take];rfl)) ?_;(with_reducible refine (cmp_Compare_int.calls a0_0 a0_1 t102 _ A2.out).mono ?_);rintro e w' ⟨rfl,⟨nd,rfl⟩⟩;refine ⟨_,rfl,?_⟩))
 go_ret
 exact ⟨by first|rfl|(simp [errW_none,errW_some] <;> rfl)|(simp [*,errW_none,errW_some] <;> rfl),by repeat first|(with_reducible first|exact HB.out|apply zA|apply zN|apply z1|refine zS ?_ GE101.out)|exact HB.out⟩
end Go.Proofs.Ytllkhdhanheieaa.R
namespace Go.Proofs.Ytllkhdhanheieaa.R
open Go.RowKit Go.Proofs.YtllkhdhanheieaaW.PrintWords Go.Proofs.YtllkhdhanheieaaW.PrintLast Go.Proofs.YtllkhdhanheieaaW.PrintMore
attribute [local go_sem] max2_int min2_int max_two min_two max_three min_three max_four min_four
attribute [local go_sem high] own_gtr own_leq own_geq own_cell_set Option.map_some fld23_1
set_option linter.unusedVariables false
set_option linter.unusedSimpArgs false
def val_number.f (a0_0:Int) (a0_1:Int) (a0_2:Int) (a0_3:ByteArray):Option (Int):=some a0_1
set_option maxHeartbeats 8000000 in
set_option maxRecDepth 100000 in
theorem val_number.calls (a0_0:Int) (a0_1:Int) (a0_2:Int) (a0_3:ByteArray) (r:Int) (w:World) (h:val_number.f a0_0 a0_1 a0_2 a0_3 = some r) :
  Calls Try.prog 39 #[.agg #[.int .i64 a0_0, .int .i64 a0_1, .int .i64 a0_2, .string a0_3]] w fun e w'=>e = .returned (.int .i64 r) ∧ Below w.heap.size w w':=by
 have hu23:=Try.underlying23
 have HB:=z_ (Below.refl w.heap.size w)
 have H:(some a0_1) = some r:=h
 clear h
 obtain rfl:=Option.some.inj H
 go_enter Try.func39,Try.ntmps39
 go_wp2_with (first|((with_reducible refine gate_dst (N:=1) rfl ?_);refine box_event ?hg (N:=1) ?hd (cs:=#[.int .i64 a0_0, .int .i64 a0_1, .int .i64 a0_2, .string a0_3]) (t:=23) ?hr ?_;(case hd=>rfl);(case hg=>rfl);(case hr=>first|(go_simp;done)|(go_simp;rfl));intro gb101 hg w2 hbox hb;have n0_:=z_ (below_step (by repeat first|(with_reducible first|exact HB.out|apply zA|apply zN|apply z1)|exact HB.out) hb);have n1_:=z_ (hbox);have n2_:=z_ ((by rw [hg];exact (zBs (by repeat first|(with_reducible first|exact HB.out|apply zA|apply zN|apply z1)|exact HB.out)):w.heap.size ≤ gb101));have n3_:=z_ ((by rw [hg];exact (zBs (by repeat first|(with_reducible first|exact HB.out|apply zA|apply zN|apply z1)|exact HB.out)):w.heap.size ≤ gb101));clear HB;have HB:=n0_;have BK101:=n1_;have GW101:=n2_;have GE101:=n3_;clear n0_ n1_ n2_ n3_;clear hb hbox hg;have hcz3_0:w2.cell? ⟨gb101,0,none⟩ = some (.int .i64 a0_0):=(zce BK101.out 0).trans rfl;have hcz3_1:w2.cell? ⟨gb101,1,none⟩ = some (.int .i64 a0_1):=(zce BK101.out 1).trans rfl;have hcz3_2:w2.cell? ⟨gb101,2,none⟩ = some (.int .i64 a0_2):=(zce BK101.out 2).trans rfl;have hcz3_3:w2.cell? ⟨gb101,3,none⟩ = some (.string a0_3):=(zce BK101.out 3).trans rfl;have hfz3_0:=zfz BK101.out 0;have hfz3_1:=zfz BK101.out 1;have hfz3_2:=zfz BK101.out 2;have hfz3_3:=zfz BK101.out 3))
 go_ret
 exact ⟨by first|rfl|(simp [errW_none,errW_some] <;> rfl)|(simp [*,errW_none,errW_some] <;> rfl),by repeat first|(with_reducible first|exact HB.out|apply zA|apply zN|apply z1|refine zS ?_ GE101.out)|exact HB.out⟩
end Go.Proofs.Ytllkhdhanheieaa.R
