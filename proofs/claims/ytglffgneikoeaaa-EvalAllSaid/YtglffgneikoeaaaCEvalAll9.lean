-- Written by drive.py and pack.py (programs of this proof's own) through the kit's printer; not trusted: Lean checks it.
import Derived.Test.YtglffgneikoeaaaCEvalAll4
import Derived.Test.YtglffgneikoeaaaCEvalAll6
import Derived.Test.YtglffgneikoeaaaCEvalAll7
import Derived.Test.YtglffgneikoeaaaCEvalAll8
namespace Go.Proofs.Ytglffgneikoeaaa.M
open Go.RowKit Go.Proofs.YtglffgneikoeaaaW.PrintWords Go.Proofs.YtglffgneikoeaaaW.PrintLast Go.Proofs.YtglffgneikoeaaaW.PrintMore
attribute [local go_sem] max2_int min2_int max_two min_two max_three min_three max_four min_four
attribute [local go_sem high] own_gtr own_leq own_geq own_cell_set Option.map_some
set_option linter.unusedVariables false
set_option linter.unusedSimpArgs false
def A01.f (k:Nat) (a0:Int) (a1_0:Int) (a1_1:Int) (a1_2:Int) (a1_3:ByteArray) (a2_0:Int) (a2_1:Int) (a2_2:Int) (a2_3:ByteArray):Option (Int × Int × Int × ByteArray × Int):=if a0 = 6 then ((Am0.f a1_1 a2_1).bind fun bt104=>((federationref1_Norm.f k 3 bt104.1 (wrap64 (a1_2 + a2_2)) (⟨#[]⟩:ByteArray)).bind fun bt106=>(if bt104.2 = true then ((Amj.f k bt106.1 bt106.2.1 bt106.2.2.1 bt106.2.2.2).bind fun t111=>(if t111 = true then (some (bt106.1,bt106.2.1,bt106.2.2.1,bt106.2.2.2,0)) else (some (0,0,0,(⟨#[]⟩:ByteArray),10)))) else (some (0,0,0,(⟨#[]⟩:ByteArray),10))))) else ((Aer.f k a1_0 a1_1 a1_2 a1_3).bind fun bt112=>((Aer.f k a2_0 a2_1 a2_2 a2_3).bind fun bt114=>(if a0 = 7 then ((Ad0.f k (wrap64 (bt112.1 + bt114.1)) (wrap64 (bt112.2 + bt114.2))).bind fun bt116=>(some (bt116.1,bt116.2.1,bt116.2.2.1,bt116.2.2.2.1,bt116.2.2.2.2))) else ((Ad0.f k (wrap64 (bt112.1 - bt114.1)) (wrap64 (bt112.2 - bt114.2))).bind fun bt121=>(some (bt121.1,bt121.2.1,bt121.2.2.1,bt121.2.2.2.1,bt121.2.2.2.2))))))
set_option maxHeartbeats 8000000 in
set_option maxRecDepth 100000 in
theorem A01.calls (k:Nat) (a0:Int) (a1_0:Int) (a1_1:Int) (a1_2:Int) (a1_3:ByteArray) (a2_0:Int) (a2_1:Int) (a2_2:Int) (a2_3:ByteArray) (r1:Int) (r2:Int) (r3:Int) (r4:ByteArray) (r5:Int) (w:World) (h:A01.f k a0 a1_0 a1_1 a1_2 a1_3 a2_0 a2_1 a2_2 a2_3 = some (r1,r2,r3,r4,r5)) :
  Calls Try.prog 55 #[.int .i64 a0, .agg #[.int .i64 a1_0, .int .i64 a1_1, .int .i64 a1_2, .string a1_3], .agg #[.int .i64 a2_0, .int .i64 a2_1, .int .i64 a2_2, .string a2_3]] w fun e w'=>e = .returned (.tuple #[.agg #[.int .i64 r1, .int .i64 r2, .int .i64 r3, .string r4], .int .i64 r5]) ∧ Below w.heap.size w w':=by
 have hu28:=Try.underlying28
 have HB:=z_ (Below.refl w.heap.size w)
 have H:(if a0 = 6 then ((Am0.f a1_1 a2_1).bind fun bt104=>((federationref1_Norm.f k 3 bt104.1 (wrap64 (a1_2 + a2_2)) (⟨#[]⟩:ByteArray)).bind fun bt106=>(if bt104.2 = true then ((Amj.f k bt106.1 bt106.2.1 bt106.2.2.1 bt106.2.2.2).bind fun t111=>(if t111 = true then (some (bt106.1,bt106.2.1,bt106.2.2.1,bt106.2.2.2,0)) else (some (0,0,0,(⟨#[]⟩:ByteArray),10)))) else (some (0,0,0,(⟨#[]⟩:ByteArray),10))))) else ((Aer.f k a1_0 a1_1 a1_2 a1_3).bind fun bt112=>((Aer.f k a2_0 a2_1 a2_2 a2_3).bind fun bt114=>(if a0 = 7 then ((Ad0.f k (wrap64 (bt112.1 + bt114.1)) (wrap64 (bt112.2 + bt114.2))).bind fun bt116=>(some (bt116.1,bt116.2.1,bt116.2.2.1,bt116.2.2.2.1,bt116.2.2.2.2))) else ((Ad0.f k (wrap64 (bt112.1 - bt114.1)) (wrap64 (bt112.2 - bt114.2))).bind fun bt121=>(some (bt121.1,bt121.2.1,bt121.2.2.1,bt121.2.2.2.1,bt121.2.2.2.2))))))) = some (r1,r2,r3,r4,r5):=h
 clear h
 by_cases c4:a0 = 6
 ·rw [if_pos c4] at H
  have c4b0:(a0 == 6) = true:=beq_iff_eq.mpr c4
  have c4b1:(a0 != 6) = false:=bne_eq_false_iff_eq.mpr c4
  clear c4
  replace H:=Option.bind_eq_some_iff.mp H
  obtain ⟨⟨t104,t105⟩,A50,H⟩:=H
  replace H:((federationref1_Norm.f k 3 t104 (wrap64 (a1_2 + a2_2)) (⟨#[]⟩:ByteArray)).bind fun bt106=>(if t105 = true then ((Amj.f k bt106.1 bt106.2.1 bt106.2.2.1 bt106.2.2.2).bind fun t111=>(if t111 = true then (some (bt106.1,bt106.2.1,bt106.2.2.1,bt106.2.2.2,0)) else (some (0,0,0,(⟨#[]⟩:ByteArray),10)))) else (some (0,0,0,(⟨#[]⟩:ByteArray),10)))) = some (r1,r2,r3,r4,r5):=H
  have A5:=z_ A50
  clear A50
  replace H:=Option.bind_eq_some_iff.mp H
  obtain ⟨⟨t106,t107,t108,t109⟩,A60,H⟩:=H
  replace H:(if t105 = true then ((Amj.f k t106 t107 t108 t109).bind fun t111=>(if t111 = true then (some (t106,t107,t108,t109,0)) else (some (0,0,0,(⟨#[]⟩:ByteArray),10)))) else (some (0,0,0,(⟨#[]⟩:ByteArray),10))) = some (r1,r2,r3,r4,r5):=H
  have A6:=z_ A60
  clear A60
  by_cases c7:t105 = true
  ·subst c7
   have H1:((Amj.f k t106 t107 t108 t109).bind fun t111=>(if t111 = true then (some (t106,t107,t108,t109,0)) else (some (0,0,0,(⟨#[]⟩:ByteArray),10)))) = some (r1,r2,r3,r4,r5):=by rw [if_pos rfl] at H;exact H
   clear H
   have H:=H1
   clear H1
   replace H:=Option.bind_eq_some_iff.mp H
   obtain ⟨t111,A80,H⟩:=H
   replace H:(if t111 = true then (some (t106,t107,t108,t109,0)) else (some (0,0,0,(⟨#[]⟩:ByteArray),10))) = some (r1,r2,r3,r4,r5):=H
   have A8:=z_ A80
   clear A80
   by_cases c9:t111 = true
   ·subst c9
    have H1:(some (t106,t107,t108,t109,0)) = some (r1,r2,r3,r4,r5):=by rw [if_pos rfl] at H;exact H
    clear H
    have H:=H1
    clear H1
    simp only [Option.some.injEq,Prod.mk.injEq] at H
    obtain ⟨rfl,rfl,rfl,rfl,rfl⟩:=H
    go_enter Try.func55,Try.ntmps55
    go_wp2_with (first|((with_reducible refine gate_dst (N:=4) rfl ?_);refine box_event (by rfl) (N:=4) (by rfl) (cs:=#[.int .i64 a1_0, .int .i64 a1_1, .int .i64 a1_2, .string a1_3]) (t:=28) W3 ?_;intro gb101 hg w10 hbox hb;have BK101:=z_ (hbox);have GW101:=z_ ((W0:w.heap.size ≤ gb101));have GE101:=z_ ((W0:w.heap.size ≤ gb101));replace HB:=z_ (below_step W5 hb);clear hb hbox hg)|((with_reducible refine gate_dst (N:=5) rfl ?_);refine box_event (by rfl) (N:=5) (by rfl) (cs:=#[.int .i64 a2_0, .int .i64 a2_1, .int .i64 a2_2, .string a2_3]) (t:=28) W3 ?_;intro gb102 hg w11 hbox hb;have BK102:=z_ (hbox);have GW102:=z_ ((W6:w.heap.size ≤ gb102));have GE102:=z_ ((W6:w.heap.size ≤ gb102));replace HB:=z_ (below_step zp1 hb);have NB101_102:=z_ ((Aeh:gb101 ≠ gb102));have NB102_101:=z_ ((Aei:gb102 ≠ gb101));replace BK101:=z_ (zk BK101.out hb);clear hb hbox hg)|((with_reducible refine gate_dst (N:=6) rfl ?_);refine box_event (by rfl) (N:=6) (by rfl) (cs:=#[.int .i64 0, .int .i64 0, .int .i64 0, .string (⟨#[]⟩:ByteArray)]) (t:=28) W3 ?_;intro gb103 hg w12 hbox hb;have BK103:=z_ (hbox);have GW103:=z_ ((Aen:w.heap.size ≤ gb103));have GE103:=z_ ((Aen:w.heap.size ≤ gb103));replace HB:=z_ (below_step zp5 hb);have NB101_103:=z_ ((Aeh:gb101 ≠ gb103));have NB103_101:=z_ ((Aei:gb103 ≠ gb101));replace BK101:=z_ (zk BK101.out hb);have NB102_103:=z_ ((Amd:gb102 ≠ gb103));have NB103_102:=z_ ((Aet:gb103 ≠ gb102));replace BK102:=z_ (zk BK102.out hb);clear hb hbox hg;have hnb13:=NB101_102.out;have hnc13:=NB102_101.out;have hnb14:=NB101_103.out;have hnc14:=NB103_101.out;obtain ⟨_,_,_,_,_,_,_,_⟩:=Rr BK101.out;have hnb16:=NB102_103.out;have hnc16:=NB103_102.out;obtain ⟨_,_,_,_,_,_,_,_⟩:=Rr BK102.out)|((with_reducible refine gate_callee (f:=68) rfl ?_);refine goesL_ (some 22) rfl rfl Try.func68 (by kernel_rfl) rfl #[.int .i64 a1_1, .int .i64 a2_1] rfl W4 ?_;(with_reducible refine (Am0.calls a1_1 a2_1 t104 true _ A5.out).mono ?_);rintro e w' ⟨rfl,⟨nd,rfl⟩⟩;refine ⟨_,rfl,?_⟩;(try (rw [drewN_self w12];generalize hq_:World.drewN w12 _ = w12;have n0_:Aside0 (w12.heap[gb101]? = some (.cells #[.int .i64 a1_0, .int .i64 a1_1, .int .i64 a1_2, .string a1_3] 28 (0,0))):=⟨by rw [← hq_];exact zp2⟩;have n1_:Aside0 (w12.heap[gb102]? = some (.cells #[.int .i64 a2_0, .int .i64 a2_1, .int .i64 a2_2, .string a2_3] 28 (0,0))):=⟨by rw [← hq_];exact zp7⟩;have n2_:Aside0 (w12.heap[gb103]? = some (.cells #[.int .i64 0, .int .i64 0, .int .i64 0, .string (⟨#[]⟩:ByteArray)] 28 (0,0))):=⟨by rw [← hq_];exact Aeq⟩;have n3_:Aside0 (Below w.heap.size w w12):=⟨by rw [← hq_];exact zp3⟩;clear BK101 BK102 BK103 HB hq_;have BK101:=n0_;have BK102:=n1_;have BK103:=n2_;have HB:=n3_;clear n0_ n1_ n2_ n3_));(try have hcu18_0:w12.cell? ⟨gb101,0,none⟩ = some (.int .i64 a1_0):=(Oi BK101.out 0).trans rfl);(try have hcu18_1:w12.cell? ⟨gb101,1,none⟩ = some (.int .i64 a1_1):=(Oi BK101.out 1).trans rfl);(try have hcu18_2:w12.cell? ⟨gb101,2,none⟩ = some (.int .i64 a1_2):=(Oi BK101.out 2).trans rfl);(try have hcu18_3:w12.cell? ⟨gb101,3,none⟩ = some (.string a1_3):=(Oi BK101.out 3).trans rfl);(try have hfu18_0:=S3 BK101.out 0);(try have hfu18_1:=S3 BK101.out 1);(try have hfu18_2:=S3 BK101.out 2);(try have hfu18_3:=S3 BK101.out 3);(try have hcu19_0:w12.cell? ⟨gb102,0,none⟩ = some (.int .i64 a2_0):=(Oi BK102.out 0).trans rfl);(try have hcu19_1:w12.cell? ⟨gb102,1,none⟩ = some (.int .i64 a2_1):=(Oi BK102.out 1).trans rfl);(try have hcu19_2:w12.cell? ⟨gb102,2,none⟩ = some (.int .i64 a2_2):=(Oi BK102.out 2).trans rfl);(try have hcu19_3:w12.cell? ⟨gb102,3,none⟩ = some (.string a2_3):=(Oi BK102.out 3).trans rfl);(try have hfu19_0:=S3 BK102.out 0);(try have hfu19_1:=S3 BK102.out 1);(try have hfu19_2:=S3 BK102.out 2);(try have hfu19_3:=S3 BK102.out 3);(try have hcu20_0:w12.cell? ⟨gb103,0,none⟩ = some (.int .i64 0):=(Oi BK103.out 0).trans rfl);(try have hcu20_1:w12.cell? ⟨gb103,1,none⟩ = some (.int .i64 0):=(Oi BK103.out 1).trans rfl);(try have hcu20_2:w12.cell? ⟨gb103,2,none⟩ = some (.int .i64 0):=(Oi BK103.out 2).trans rfl);(try have hcu20_3:w12.cell? ⟨gb103,3,none⟩ = some (.string (⟨#[]⟩:ByteArray)):=(Oi BK103.out 3).trans rfl);(try have hfu20_0:=S3 BK103.out 0);(try have hfu20_1:=S3 BK103.out 1);(try have hfu20_2:=S3 BK103.out 2);(try have hfu20_3:=S3 BK103.out 3))|((with_reducible refine gate_callee (f:=59) rfl ?_);refine goesL_ (some 32) rfl rfl Try.func59 (by kernel_rfl) rfl #[.agg #[.int .i64 3, .int .i64 t104, .int .i64 (wrap64 (a1_2 + a2_2)), .string (⟨#[]⟩:ByteArray)]] rfl W4 ?_;(with_reducible refine (federationref1_Norm.calls k 3 t104 (wrap64 (a1_2 + a2_2)) (⟨#[]⟩:ByteArray) t106 t107 t108 t109 _ A6.out).mono ?_);rintro e w21 ⟨rfl,hb⟩;refine ⟨_,rfl,?_⟩;replace BK101:=z_ (zk BK101.out hb);replace BK102:=z_ (zk BK102.out hb);replace BK103:=z_ (zk BK103.out hb);replace HB:=z_ (below_step zp3 hb);(try clear hb);(try clear hb2);(try clear hk);(try clear hi))|((with_reducible refine gate_dst (N:=10) rfl ?_);refine box_event (by rfl) (N:=10) (by rfl) (cs:=#[.int .i64 0, .int .i64 0, .int .i64 0, .string (⟨#[]⟩:ByteArray)]) (t:=28) W3 ?_;intro gb110 hg w22 hbox hb;have BK110:=z_ (hbox);have GW110:=z_ ((Aes:w.heap.size ≤ gb110));have GE110:=z_ ((Aes:w.heap.size ≤ gb110));replace HB:=z_ (below_step zp3 hb);have NB101_110:=z_ ((Aeh:gb101 ≠ gb110));have NB110_101:=z_ ((Aei:gb110 ≠ gb101));replace BK101:=z_ (zk BK101.out hb);have NB102_110:=z_ ((Amd:gb102 ≠ gb110));have NB110_102:=z_ ((Aet:gb110 ≠ gb102));replace BK102:=z_ (zk BK102.out hb);have NB103_110:=z_ ((A07:gb103 ≠ gb110));have NB110_103:=z_ ((A08:gb110 ≠ gb103));replace BK103:=z_ (zk BK103.out hb);clear hb hbox hg;have hnb23:=NB110_101.out;have hnc23:=NB101_110.out;have hnb24:=NB110_102.out;have hnc24:=NB102_110.out;have hnb25:=NB110_103.out;have hnc25:=NB103_110.out;obtain ⟨_,_,_,_,_,_,_,_⟩:=Rr BK110.out)|(go_at_call 21;(with_reducible refine (Amj.calls k t106 t107 t108 t109 true _ A8.out).mono ?_);rintro e w27 ⟨rfl,hb⟩;have n0_:=z_ (zbb (g:=gb101) (o:=.cells #[.int .i64 a1_0, .int .i64 a1_1, .int .i64 a1_2, .string a1_3] 28 (0,0)) A6u hb);have n1_:=z_ (zbb (g:=gb102) (o:=.cells #[.int .i64 a2_0, .int .i64 a2_1, .int .i64 a2_2, .string a2_3] 28 (0,0)) A6v hb);have n2_:=z_ (zbb (g:=gb103) (o:=.cells #[.int .i64 0, .int .i64 0, .int .i64 0, .string (⟨#[]⟩:ByteArray)] 28 (0,0)) A6z hb);have n3_:=z_ (zbb (g:=gb110) (o:=.cells #[.int .i64 t106, .int .i64 t107, .int .i64 t108, .string t109] 28 (0,0)) A6n hb);have n4_:=z_ (below_step A4s hb);clear BK101;clear BK102;clear BK103;clear BK110;clear HB;have BK101:=n0_;have BK102:=n1_;have BK103:=n2_;have BK110:=n3_;have HB:=n4_;clear n0_ n1_ n2_ n3_ n4_;(try clear hb);(try clear hb2);(try clear hk);(try clear hi);obtain ⟨_,_,_,_,_,_,_,_⟩:=Rr BK110.out;obtain ⟨_,_,_,_,_,_,_,_⟩:=Rr BK103.out))
    refine bodyPost_ret (results_ct rfl _ _ gb103 28 #[.int .i64 t106, .int .i64 t107, .int .i64 t108, .string t109] (0,0) _ rfl A4w Try.underlying28 rfl (by kernel_rfl)) rfl ?_
    exact ⟨by first|rfl|(simp [errW_none,errW_some] <;> rfl)|(simp [*,errW_none,errW_some] <;> rfl),by repeat first|(with_reducible first|exact HB.out|apply zA|apply zN|apply z1|refine zS ?_ GE101.out|refine zS ?_ GE102.out|refine zS ?_ GE103.out|refine zS ?_ GE110.out)|exact HB.out⟩
   ·replace c9:=Bool.eq_false_iff.mpr c9
    subst c9
    have H1:(some (0,0,0,(⟨#[]⟩:ByteArray),10)) = some (r1,r2,r3,r4,r5):=by rw [if_neg (show ¬ (false = true) by decide)] at H;exact H
    clear H
    have H:=H1
    clear H1
    simp only [Option.some.injEq,Prod.mk.injEq] at H
    obtain ⟨rfl,rfl,rfl,rfl,rfl⟩:=H
    go_enter Try.func55,Try.ntmps55
    go_wp2_with (first|((with_reducible refine gate_dst (N:=4) rfl ?_);refine box_event (by rfl) (N:=4) (by rfl) (cs:=#[.int .i64 a1_0, .int .i64 a1_1, .int .i64 a1_2, .string a1_3]) (t:=28) W3 ?_;intro gb101 hg w30 hbox hb;have BK101:=z_ (hbox);have GW101:=z_ ((W0:w.heap.size ≤ gb101));have GE101:=z_ ((W0:w.heap.size ≤ gb101));replace HB:=z_ (below_step W5 hb);clear hb hbox hg)|((with_reducible refine gate_dst (N:=5) rfl ?_);refine box_event (by rfl) (N:=5) (by rfl) (cs:=#[.int .i64 a2_0, .int .i64 a2_1, .int .i64 a2_2, .string a2_3]) (t:=28) W3 ?_;intro gb102 hg w31 hbox hb;have BK102:=z_ (hbox);have GW102:=z_ ((W6:w.heap.size ≤ gb102));have GE102:=z_ ((W6:w.heap.size ≤ gb102));replace HB:=z_ (below_step zp1 hb);have NB101_102:=z_ ((Aeh:gb101 ≠ gb102));have NB102_101:=z_ ((Aei:gb102 ≠ gb101));replace BK101:=z_ (zk BK101.out hb);clear hb hbox hg)|((with_reducible refine gate_dst (N:=6) rfl ?_);refine box_event (by rfl) (N:=6) (by rfl) (cs:=#[.int .i64 0, .int .i64 0, .int .i64 0, .string (⟨#[]⟩:ByteArray)]) (t:=28) W3 ?_;intro gb103 hg w32 hbox hb;have BK103:=z_ (hbox);have GW103:=z_ ((Aen:w.heap.size ≤ gb103));have GE103:=z_ ((Aen:w.heap.size ≤ gb103));replace HB:=z_ (below_step zp5 hb);have NB101_103:=z_ ((Aeh:gb101 ≠ gb103));have NB103_101:=z_ ((Aei:gb103 ≠ gb101));replace BK101:=z_ (zk BK101.out hb);have NB102_103:=z_ ((Amd:gb102 ≠ gb103));have NB103_102:=z_ ((Aet:gb103 ≠ gb102));replace BK102:=z_ (zk BK102.out hb);clear hb hbox hg;have hnb33:=NB101_102.out;have hnc33:=NB102_101.out;have hnb34:=NB101_103.out;have hnc34:=NB103_101.out;obtain ⟨_,_,_,_,_,_,_,_⟩:=Rr BK101.out;have hnb36:=NB102_103.out;have hnc36:=NB103_102.out;obtain ⟨_,_,_,_,_,_,_,_⟩:=Rr BK102.out)|((with_reducible refine gate_callee (f:=68) rfl ?_);refine goesL_ (some 22) rfl rfl Try.func68 (by kernel_rfl) rfl #[.int .i64 a1_1, .int .i64 a2_1] rfl W4 ?_;(with_reducible refine (Am0.calls a1_1 a2_1 t104 true _ A5.out).mono ?_);rintro e w' ⟨rfl,⟨nd,rfl⟩⟩;refine ⟨_,rfl,?_⟩;(try (rw [drewN_self w32];generalize hq_:World.drewN w32 _ = w32;have n0_:Aside0 (w32.heap[gb101]? = some (.cells #[.int .i64 a1_0, .int .i64 a1_1, .int .i64 a1_2, .string a1_3] 28 (0,0))):=⟨by rw [← hq_];exact zp2⟩;have n1_:Aside0 (w32.heap[gb102]? = some (.cells #[.int .i64 a2_0, .int .i64 a2_1, .int .i64 a2_2, .string a2_3] 28 (0,0))):=⟨by rw [← hq_];exact zp7⟩;have n2_:Aside0 (w32.heap[gb103]? = some (.cells #[.int .i64 0, .int .i64 0, .int .i64 0, .string (⟨#[]⟩:ByteArray)] 28 (0,0))):=⟨by rw [← hq_];exact Aeq⟩;have n3_:Aside0 (Below w.heap.size w w32):=⟨by rw [← hq_];exact zp3⟩;clear BK101 BK102 BK103 HB hq_;have BK101:=n0_;have BK102:=n1_;have BK103:=n2_;have HB:=n3_;clear n0_ n1_ n2_ n3_));(try have hcu38_0:w32.cell? ⟨gb101,0,none⟩ = some (.int .i64 a1_0):=(Oi BK101.out 0).trans rfl);(try have hcu38_1:w32.cell? ⟨gb101,1,none⟩ = some (.int .i64 a1_1):=(Oi BK101.out 1).trans rfl);(try have hcu38_2:w32.cell? ⟨gb101,2,none⟩ = some (.int .i64 a1_2):=(Oi BK101.out 2).trans rfl);(try have hcu38_3:w32.cell? ⟨gb101,3,none⟩ = some (.string a1_3):=(Oi BK101.out 3).trans rfl);(try have hfu38_0:=S3 BK101.out 0);(try have hfu38_1:=S3 BK101.out 1);(try have hfu38_2:=S3 BK101.out 2);(try have hfu38_3:=S3 BK101.out 3);(try have hcu39_0:w32.cell? ⟨gb102,0,none⟩ = some (.int .i64 a2_0):=(Oi BK102.out 0).trans rfl);(try have hcu39_1:w32.cell? ⟨gb102,1,none⟩ = some (.int .i64 a2_1):=(Oi BK102.out 1).trans rfl);(try have hcu39_2:w32.cell? ⟨gb102,2,none⟩ = some (.int .i64 a2_2):=(Oi BK102.out 2).trans rfl);(try have hcu39_3:w32.cell? ⟨gb102,3,none⟩ = some (.string a2_3):=(Oi BK102.out 3).trans rfl);(try have hfu39_0:=S3 BK102.out 0);(try have hfu39_1:=S3 BK102.out 1);(try have hfu39_2:=S3 BK102.out 2);(try have hfu39_3:=S3 BK102.out 3);(try have hcu40_0:w32.cell? ⟨gb103,0,none⟩ = some (.int .i64 0):=(Oi BK103.out 0).trans rfl);(try have hcu40_1:w32.cell? ⟨gb103,1,none⟩ = some (.int .i64 0):=(Oi BK103.out 1).trans rfl);(try have hcu40_2:w32.cell? ⟨gb103,2,none⟩ = some (.int .i64 0):=(Oi BK103.out 2).trans rfl);(try have hcu40_3:w32.cell? ⟨gb103,3,none⟩ = some (.string (⟨#[]⟩:ByteArray)):=(Oi BK103.out 3).trans rfl);(try have hfu40_0:=S3 BK103.out 0);(try have hfu40_1:=S3 BK103.out 1);(try have hfu40_2:=S3 BK103.out 2);(try have hfu40_3:=S3 BK103.out 3))|((with_reducible refine gate_callee (f:=59) rfl ?_);refine goesL_ (some 32) rfl rfl Try.func59 (by kernel_rfl) rfl #[.agg #[.int .i64 3, .int .i64 t104, .int .i64 (wrap64 (a1_2 + a2_2)), .string (⟨#[]⟩:ByteArray)]] rfl W4 ?_;(with_reducible refine (federationref1_Norm.calls k 3 t104 (wrap64 (a1_2 + a2_2)) (⟨#[]⟩:ByteArray) t106 t107 t108 t109 _ A6.out).mono ?_);rintro e w41 ⟨rfl,hb⟩;refine ⟨_,rfl,?_⟩;replace BK101:=z_ (zk BK101.out hb);replace BK102:=z_ (zk BK102.out hb);replace BK103:=z_ (zk BK103.out hb);replace HB:=z_ (below_step zp3 hb);(try clear hb);(try clear hb2);(try clear hk);(try clear hi))|((with_reducible refine gate_dst (N:=10) rfl ?_);refine box_event (by rfl) (N:=10) (by rfl) (cs:=#[.int .i64 0, .int .i64 0, .int .i64 0, .string (⟨#[]⟩:ByteArray)]) (t:=28) W3 ?_;intro gb110 hg w42 hbox hb;have BK110:=z_ (hbox);have GW110:=z_ ((Aes:w.heap.size ≤ gb110));have GE110:=z_ ((Aes:w.heap.size ≤ gb110));replace HB:=z_ (below_step zp3 hb);have NB101_110:=z_ ((Aeh:gb101 ≠ gb110));have NB110_101:=z_ ((Aei:gb110 ≠ gb101));replace BK101:=z_ (zk BK101.out hb);have NB102_110:=z_ ((Amd:gb102 ≠ gb110));have NB110_102:=z_ ((Aet:gb110 ≠ gb102));replace BK102:=z_ (zk BK102.out hb);have NB103_110:=z_ ((A07:gb103 ≠ gb110));have NB110_103:=z_ ((A08:gb110 ≠ gb103));replace BK103:=z_ (zk BK103.out hb);clear hb hbox hg;have hnb43:=NB110_101.out;have hnc43:=NB101_110.out;have hnb44:=NB110_102.out;have hnc44:=NB102_110.out;have hnb45:=NB110_103.out;have hnc45:=NB103_110.out;obtain ⟨_,_,_,_,_,_,_,_⟩:=Rr BK110.out)|(go_at_call 21;(with_reducible refine (Amj.calls k t106 t107 t108 t109 false _ A8.out).mono ?_);rintro e w47 ⟨rfl,hb⟩;have n0_:=z_ (zbb (g:=gb101) (o:=.cells #[.int .i64 a1_0, .int .i64 a1_1, .int .i64 a1_2, .string a1_3] 28 (0,0)) A6u hb);have n1_:=z_ (zbb (g:=gb102) (o:=.cells #[.int .i64 a2_0, .int .i64 a2_1, .int .i64 a2_2, .string a2_3] 28 (0,0)) A6v hb);have n2_:=z_ (zbb (g:=gb103) (o:=.cells #[.int .i64 0, .int .i64 0, .int .i64 0, .string (⟨#[]⟩:ByteArray)] 28 (0,0)) A6z hb);have n3_:=z_ (zbb (g:=gb110) (o:=.cells #[.int .i64 t106, .int .i64 t107, .int .i64 t108, .string t109] 28 (0,0)) A6n hb);have n4_:=z_ (below_step A4s hb);clear BK101;clear BK102;clear BK103;clear BK110;clear HB;have BK101:=n0_;have BK102:=n1_;have BK103:=n2_;have BK110:=n3_;have HB:=n4_;clear n0_ n1_ n2_ n3_ n4_;(try clear hb);(try clear hb2);(try clear hk);(try clear hi);obtain ⟨_,_,_,_,_,_,_,_⟩:=Rr BK103.out))
    refine bodyPost_ret (results_ct rfl _ _ gb103 28 #[.int .i64 0, .int .i64 0, .int .i64 0, .string (⟨#[]⟩:ByteArray)] (0,0) _ rfl zp6 Try.underlying28 rfl (by kernel_rfl)) rfl ?_
    exact ⟨by first|rfl|(simp [errW_none,errW_some] <;> rfl)|(simp [*,errW_none,errW_some] <;> rfl),by repeat first|(with_reducible first|exact HB.out|apply zA|apply zN|apply z1|refine zS ?_ GE101.out|refine zS ?_ GE102.out|refine zS ?_ GE103.out|refine zS ?_ GE110.out)|exact HB.out⟩
  ·replace c7:=Bool.eq_false_iff.mpr c7
   subst c7
   have H1:(some (0,0,0,(⟨#[]⟩:ByteArray),10)) = some (r1,r2,r3,r4,r5):=by rw [if_neg (show ¬ (false = true) by decide)] at H;exact H
   clear H
   have H:=H1
   clear H1
   simp only [Option.some.injEq,Prod.mk.injEq] at H
   obtain ⟨rfl,rfl,rfl,rfl,rfl⟩:=H
   go_enter Try.func55,Try.ntmps55
   go_wp2_with (first|((with_reducible refine gate_dst (N:=4) rfl ?_);refine box_event (by rfl) (N:=4) (by rfl) (cs:=#[.int .i64 a1_0, .int .i64 a1_1, .int .i64 a1_2, .string a1_3]) (t:=28) W3 ?_;intro gb101 hg w49 hbox hb;have BK101:=z_ (hbox);have GW101:=z_ ((W0:w.heap.size ≤ gb101));have GE101:=z_ ((W0:w.heap.size ≤ gb101));replace HB:=z_ (below_step W5 hb);clear hb hbox hg)|((with_reducible refine gate_dst (N:=5) rfl ?_);refine box_event (by rfl) (N:=5) (by rfl) (cs:=#[.int .i64 a2_0, .int .i64 a2_1, .int .i64 a2_2, .string a2_3]) (t:=28) W3 ?_;intro gb102 hg w50 hbox hb;have BK102:=z_ (hbox);have GW102:=z_ ((W6:w.heap.size ≤ gb102));have GE102:=z_ ((W6:w.heap.size ≤ gb102));replace HB:=z_ (below_step zp1 hb);have NB101_102:=z_ ((Aeh:gb101 ≠ gb102));have NB102_101:=z_ ((Aei:gb102 ≠ gb101));replace BK101:=z_ (zk BK101.out hb);clear hb hbox hg)|((with_reducible refine gate_dst (N:=6) rfl ?_);refine box_event (by rfl) (N:=6) (by rfl) (cs:=#[.int .i64 0, .int .i64 0, .int .i64 0, .string (⟨#[]⟩:ByteArray)]) (t:=28) W3 ?_;intro gb103 hg w51 hbox hb;have BK103:=z_ (hbox);have GW103:=z_ ((Aen:w.heap.size ≤ gb103));have GE103:=z_ ((Aen:w.heap.size ≤ gb103));replace HB:=z_ (below_step zp5 hb);have NB101_103:=z_ ((Aeh:gb101 ≠ gb103));have NB103_101:=z_ ((Aei:gb103 ≠ gb101));replace BK101:=z_ (zk BK101.out hb);have NB102_103:=z_ ((Amd:gb102 ≠ gb103));have NB103_102:=z_ ((Aet:gb103 ≠ gb102));replace BK102:=z_ (zk BK102.out hb);clear hb hbox hg;have hnb52:=NB101_102.out;have hnc52:=NB102_101.out;have hnb53:=NB101_103.out;have hnc53:=NB103_101.out;obtain ⟨_,_,_,_,_,_,_,_⟩:=Rr BK101.out;have hnb55:=NB102_103.out;have hnc55:=NB103_102.out;obtain ⟨_,_,_,_,_,_,_,_⟩:=Rr BK102.out)|((with_reducible refine gate_callee (f:=68) rfl ?_);refine goesL_ (some 22) rfl rfl Try.func68 (by kernel_rfl) rfl #[.int .i64 a1_1, .int .i64 a2_1] rfl W4 ?_;(with_reducible refine (Am0.calls a1_1 a2_1 t104 false _ A5.out).mono ?_);rintro e w' ⟨rfl,⟨nd,rfl⟩⟩;refine ⟨_,rfl,?_⟩;(try (rw [drewN_self w51];generalize hq_:World.drewN w51 _ = w51;have n0_:Aside0 (w51.heap[gb101]? = some (.cells #[.int .i64 a1_0, .int .i64 a1_1, .int .i64 a1_2, .string a1_3] 28 (0,0))):=⟨by rw [← hq_];exact zp2⟩;have n1_:Aside0 (w51.heap[gb102]? = some (.cells #[.int .i64 a2_0, .int .i64 a2_1, .int .i64 a2_2, .string a2_3] 28 (0,0))):=⟨by rw [← hq_];exact zp7⟩;have n2_:Aside0 (w51.heap[gb103]? = some (.cells #[.int .i64 0, .int .i64 0, .int .i64 0, .string (⟨#[]⟩:ByteArray)] 28 (0,0))):=⟨by rw [← hq_];exact Aeq⟩;have n3_:Aside0 (Below w.heap.size w w51):=⟨by rw [← hq_];exact zp3⟩;clear BK101 BK102 BK103 HB hq_;have BK101:=n0_;have BK102:=n1_;have BK103:=n2_;have HB:=n3_;clear n0_ n1_ n2_ n3_));(try have hcu57_0:w51.cell? ⟨gb101,0,none⟩ = some (.int .i64 a1_0):=(Oi BK101.out 0).trans rfl);(try have hcu57_1:w51.cell? ⟨gb101,1,none⟩ = some (.int .i64 a1_1):=(Oi BK101.out 1).trans rfl);(try have hcu57_2:w51.cell? ⟨gb101,2,none⟩ = some (.int .i64 a1_2):=(Oi BK101.out 2).trans rfl);(try have hcu57_3:w51.cell? ⟨gb101,3,none⟩ = some (.string a1_3):=(Oi BK101.out 3).trans rfl);(try have hfu57_0:=S3 BK101.out 0);(try have hfu57_1:=S3 BK101.out 1);(try have hfu57_2:=S3 BK101.out 2);(try have hfu57_3:=S3 BK101.out 3);(try have hcu58_0:w51.cell? ⟨gb102,0,none⟩ = some (.int .i64 a2_0):=(Oi BK102.out 0).trans rfl);(try have hcu58_1:w51.cell? ⟨gb102,1,none⟩ = some (.int .i64 a2_1):=(Oi BK102.out 1).trans rfl);(try have hcu58_2:w51.cell? ⟨gb102,2,none⟩ = some (.int .i64 a2_2):=(Oi BK102.out 2).trans rfl);(try have hcu58_3:w51.cell? ⟨gb102,3,none⟩ = some (.string a2_3):=(Oi BK102.out 3).trans rfl);(try have hfu58_0:=S3 BK102.out 0);(try have hfu58_1:=S3 BK102.out 1);(try have hfu58_2:=S3 BK102.out 2);(try have hfu58_3:=S3 BK102.out 3);(try have hcu59_0:w51.cell? ⟨gb103,0,none⟩ = some (.int .i64 0):=(Oi BK103.out 0).trans rfl);(try have hcu59_1:w51.cell? ⟨gb103,1,none⟩ = some (.int .i64 0):=(Oi BK103.out 1).trans rfl);(try have hcu59_2:w51.cell? ⟨gb103,2,none⟩ = some (.int .i64 0):=(Oi BK103.out 2).trans rfl);(try have hcu59_3:w51.cell? ⟨gb103,3,none⟩ = some (.string (⟨#[]⟩:ByteArray)):=(Oi BK103.out 3).trans rfl);(try have hfu59_0:=S3 BK103.out 0);(try have hfu59_1:=S3 BK103.out 1);(try have hfu59_2:=S3 BK103.out 2);(try have hfu59_3:=S3 BK103.out 3))|((with_reducible refine gate_callee (f:=59) rfl ?_);refine goesL_ (some 32) rfl rfl Try.func59 (by kernel_rfl) rfl #[.agg #[.int .i64 3, .int .i64 t104, .int .i64 (wrap64 (a1_2 + a2_2)), .string (⟨#[]⟩:ByteArray)]] rfl W4 ?_;(with_reducible refine (federationref1_Norm.calls k 3 t104 (wrap64 (a1_2 + a2_2)) (⟨#[]⟩:ByteArray) t106 t107 t108 t109 _ A6.out).mono ?_);rintro e w60 ⟨rfl,hb⟩;refine ⟨_,rfl,?_⟩;replace BK101:=z_ (zk BK101.out hb);replace BK102:=z_ (zk BK102.out hb);replace BK103:=z_ (zk BK103.out hb);replace HB:=z_ (below_step zp3 hb);(try clear hb);(try clear hb2);(try clear hk);(try clear hi))|((with_reducible refine gate_dst (N:=10) rfl ?_);refine box_event (by rfl) (N:=10) (by rfl) (cs:=#[.int .i64 0, .int .i64 0, .int .i64 0, .string (⟨#[]⟩:ByteArray)]) (t:=28) W3 ?_;intro gb110 hg w61 hbox hb;have BK110:=z_ (hbox);have GW110:=z_ ((Aes:w.heap.size ≤ gb110));have GE110:=z_ ((Aes:w.heap.size ≤ gb110));replace HB:=z_ (below_step zp3 hb);have NB101_110:=z_ ((Aeh:gb101 ≠ gb110));have NB110_101:=z_ ((Aei:gb110 ≠ gb101));replace BK101:=z_ (zk BK101.out hb);have NB102_110:=z_ ((Amd:gb102 ≠ gb110));have NB110_102:=z_ ((Aet:gb110 ≠ gb102));replace BK102:=z_ (zk BK102.out hb);have NB103_110:=z_ ((A07:gb103 ≠ gb110));have NB110_103:=z_ ((A08:gb110 ≠ gb103));replace BK103:=z_ (zk BK103.out hb);clear hb hbox hg;have hnb62:=NB110_101.out;have hnc62:=NB101_110.out;have hnb63:=NB110_102.out;have hnc63:=NB102_110.out;have hnb64:=NB110_103.out;have hnc64:=NB103_110.out;obtain ⟨_,_,_,_,_,_,_,_⟩:=Rr BK110.out;obtain ⟨_,_,_,_,_,_,_,_⟩:=Rr BK103.out))
   refine bodyPost_ret (results_ct rfl _ _ gb103 28 #[.int .i64 0, .int .i64 0, .int .i64 0, .string (⟨#[]⟩:ByteArray)] (0,0) _ rfl (by (with_reducible repeat first|apply Jx|apply A7|apply K0);refine Tt (cs:=#[.int .i64 0, .int .i64 0, .int .i64 0, .string (⟨#[]⟩:ByteArray)]) ?_ 3 _ rfl;(with_reducible repeat first|apply Jx|apply A7|apply K0);refine Tt (cs:=#[.int .i64 0, .int .i64 0, .int .i64 0, .string (⟨#[]⟩:ByteArray)]) ?_ 2 _ rfl;(with_reducible repeat first|apply Jx|apply A7|apply K0);refine Tt (cs:=#[.int .i64 0, .int .i64 0, .int .i64 0, .string (⟨#[]⟩:ByteArray)]) ?_ 1 _ rfl;(with_reducible repeat first|apply Jx|apply A7|apply K0);refine Tt (cs:=#[.int .i64 0, .int .i64 0, .int .i64 0, .string (⟨#[]⟩:ByteArray)]) ?_ 0 _ rfl;(with_reducible repeat first|apply Jx|apply A7|apply K0);refine S0 ?_ NB103_110.out _;(with_reducible repeat first|apply Jx|apply A7|apply K0);refine S0 ?_ NB103_110.out _;(with_reducible repeat first|apply Jx|apply A7|apply K0);refine S0 ?_ NB103_110.out _;(with_reducible repeat first|apply Jx|apply A7|apply K0);refine S0 ?_ NB103_110.out _;(with_reducible repeat first|apply Jx|apply A7|apply K0);exact BK103.out) Try.underlying28 rfl (by kernel_rfl)) rfl ?_
   exact ⟨by first|rfl|(simp [errW_none,errW_some] <;> rfl)|(simp [*,errW_none,errW_some] <;> rfl),by repeat first|(with_reducible first|exact HB.out|apply zA|apply zN|apply z1|refine zS ?_ GE101.out|refine zS ?_ GE102.out|refine zS ?_ GE103.out|refine zS ?_ GE110.out)|exact HB.out⟩
 ·rw [if_neg c4] at H
  have c4b0:(a0 == 6) = false:=beq_eq_false_iff_ne.mpr c4
  have c4b1:(a0 != 6) = true:=bne_iff_ne.mpr c4
  replace H:=Option.bind_eq_some_iff.mp H
  obtain ⟨⟨t112,t113⟩,A670,H⟩:=H
  replace H:((Aer.f k a2_0 a2_1 a2_2 a2_3).bind fun bt114=>(if a0 = 7 then ((Ad0.f k (wrap64 (t112 + bt114.1)) (wrap64 (t113 + bt114.2))).bind fun bt116=>(some (bt116.1,bt116.2.1,bt116.2.2.1,bt116.2.2.2.1,bt116.2.2.2.2))) else ((Ad0.f k (wrap64 (t112 - bt114.1)) (wrap64 (t113 - bt114.2))).bind fun bt121=>(some (bt121.1,bt121.2.1,bt121.2.2.1,bt121.2.2.2.1,bt121.2.2.2.2))))) = some (r1,r2,r3,r4,r5):=H
  have A67:=z_ A670
  clear A670
  replace H:=Option.bind_eq_some_iff.mp H
  obtain ⟨⟨t114,t115⟩,A680,H⟩:=H
  replace H:(if a0 = 7 then ((Ad0.f k (wrap64 (t112 + t114)) (wrap64 (t113 + t115))).bind fun bt116=>(some (bt116.1,bt116.2.1,bt116.2.2.1,bt116.2.2.2.1,bt116.2.2.2.2))) else ((Ad0.f k (wrap64 (t112 - t114)) (wrap64 (t113 - t115))).bind fun bt121=>(some (bt121.1,bt121.2.1,bt121.2.2.1,bt121.2.2.2.1,bt121.2.2.2.2)))) = some (r1,r2,r3,r4,r5):=H
  have A68:=z_ A680
  clear A680
  by_cases c69:a0 = 7
  ·rw [if_pos c69] at H
   have c69b0:(a0 == 7) = true:=beq_iff_eq.mpr c69
   have c69b1:(a0 != 7) = false:=bne_eq_false_iff_eq.mpr c69
   clear c69
   replace H:=Option.bind_eq_some_iff.mp H
   obtain ⟨⟨t116,t117,t118,t119,t120⟩,A700,H⟩:=H
   replace H:(some (t116,t117,t118,t119,t120)) = some (r1,r2,r3,r4,r5):=H
   have A70:=z_ A700
   clear A700
   simp only [Option.some.injEq,Prod.mk.injEq] at H
   obtain ⟨rfl,rfl,rfl,rfl,rfl⟩:=H
   go_enter Try.func55,Try.ntmps55
   go_wp2_with (first|((with_reducible refine gate_dst (N:=4) rfl ?_);refine box_event (by rfl) (N:=4) (by rfl) (cs:=#[.int .i64 a1_0, .int .i64 a1_1, .int .i64 a1_2, .string a1_3]) (t:=28) W3 ?_;intro gb101 hg w71 hbox hb;have BK101:=z_ (hbox);have GW101:=z_ ((W0:w.heap.size ≤ gb101));have GE101:=z_ ((W0:w.heap.size ≤ gb101));replace HB:=z_ (below_step W5 hb);clear hb hbox hg)|((with_reducible refine gate_dst (N:=5) rfl ?_);refine box_event (by rfl) (N:=5) (by rfl) (cs:=#[.int .i64 a2_0, .int .i64 a2_1, .int .i64 a2_2, .string a2_3]) (t:=28) W3 ?_;intro gb102 hg w72 hbox hb;have BK102:=z_ (hbox);have GW102:=z_ ((W6:w.heap.size ≤ gb102));have GE102:=z_ ((W6:w.heap.size ≤ gb102));replace HB:=z_ (below_step zp1 hb);have NB101_102:=z_ ((Aeh:gb101 ≠ gb102));have NB102_101:=z_ ((Aei:gb102 ≠ gb101));replace BK101:=z_ (zk BK101.out hb);clear hb hbox hg)|((with_reducible refine gate_dst (N:=6) rfl ?_);refine box_event (by rfl) (N:=6) (by rfl) (cs:=#[.int .i64 0, .int .i64 0, .int .i64 0, .string (⟨#[]⟩:ByteArray)]) (t:=28) W3 ?_;intro gb103 hg w73 hbox hb;have BK103:=z_ (hbox);have GW103:=z_ ((Aen:w.heap.size ≤ gb103));have GE103:=z_ ((Aen:w.heap.size ≤ gb103));replace HB:=z_ (below_step zp5 hb);have NB101_103:=z_ ((Aeh:gb101 ≠ gb103));have NB103_101:=z_ ((Aei:gb103 ≠ gb101));replace BK101:=z_ (zk BK101.out hb);have NB102_103:=z_ ((Amd:gb102 ≠ gb103));have NB103_102:=z_ ((Aet:gb103 ≠ gb102));replace BK102:=z_ (zk BK102.out hb);clear hb hbox hg;have hnb74:=NB101_102.out;have hnc74:=NB102_101.out;have hnb75:=NB101_103.out;have hnc75:=NB103_101.out;obtain ⟨_,_,_,_,_,_,_,_⟩:=Rr BK101.out)|((with_reducible refine gate_callee (f:=69) rfl ?_);refine goesL_ (some 44) rfl rfl Try.func69 (by kernel_rfl) rfl #[.agg #[.int .i64 a1_0, .int .i64 a1_1, .int .i64 a1_2, .string a1_3]] rfl W4 ?_;(with_reducible refine (Aer.calls k a1_0 a1_1 a1_2 a1_3 t112 t113 _ A67.out).mono ?_);rintro e w77 ⟨rfl,hb⟩;refine ⟨_,rfl,?_⟩;replace BK101:=z_ (zk BK101.out hb);replace BK102:=z_ (zk BK102.out hb);replace BK103:=z_ (zk BK103.out hb);replace HB:=z_ (below_step zp3 hb);(try clear hb);(try clear hb2);(try clear hk);(try clear hi);have hnb78:=NB102_103.out;have hnc78:=NB103_102.out;obtain ⟨_,_,_,_,_,_,_,_⟩:=Rr BK102.out)|((with_reducible refine gate_callee (f:=69) rfl ?_);refine goesL_ (some 49) rfl rfl Try.func69 (by kernel_rfl) rfl #[.agg #[.int .i64 a2_0, .int .i64 a2_1, .int .i64 a2_2, .string a2_3]] rfl W4 ?_;(with_reducible refine (Aer.calls k a2_0 a2_1 a2_2 a2_3 t114 t115 _ A68.out).mono ?_);rintro e w80 ⟨rfl,hb⟩;refine ⟨_,rfl,?_⟩;replace BK101:=z_ (zk BK101.out hb);replace BK102:=z_ (zk BK102.out hb);replace BK103:=z_ (zk BK103.out hb);replace HB:=z_ (below_step zp3 hb);(try clear hb);(try clear hb2);(try clear hk);(try clear hi))|((with_reducible refine gate_callee (f:=70) rfl ?_);refine goesL_ (some 60) rfl rfl Try.func70 (by kernel_rfl) rfl #[.int .i64 (wrap64 (t112 + t114)), .int .i64 (wrap64 (t113 + t115))] rfl W4 ?_;(with_reducible refine (Ad0.calls k (wrap64 (t112 + t114)) (wrap64 (t113 + t115)) t116 t117 t118 t119 t120 _ A70.out).mono ?_);rintro e w81 ⟨rfl,hb⟩;refine ⟨_,rfl,?_⟩;replace BK101:=z_ (zk BK101.out hb);replace BK102:=z_ (zk BK102.out hb);replace BK103:=z_ (zk BK103.out hb);replace HB:=z_ (below_step zp3 hb);(try clear hb);(try clear hb2);(try clear hk);(try clear hi);obtain ⟨_,_,_,_,_,_,_,_⟩:=Rr BK103.out))
   refine bodyPost_ret (results_ct rfl _ _ gb103 28 #[.int .i64 t116, .int .i64 t117, .int .i64 t118, .string t119] (0,0) _ rfl (by (with_reducible repeat first|apply Jx|apply A7|apply K0);refine Tt (cs:=#[.int .i64 t116, .int .i64 t117, .int .i64 t118, .string (⟨#[]⟩:ByteArray)]) ?_ 3 _ rfl;(with_reducible repeat first|apply Jx|apply A7|apply K0);refine Tt (cs:=#[.int .i64 t116, .int .i64 t117, .int .i64 0, .string (⟨#[]⟩:ByteArray)]) ?_ 2 _ rfl;(with_reducible repeat first|apply Jx|apply A7|apply K0);refine Tt (cs:=#[.int .i64 t116, .int .i64 0, .int .i64 0, .string (⟨#[]⟩:ByteArray)]) ?_ 1 _ rfl;(with_reducible repeat first|apply Jx|apply A7|apply K0);refine Tt (cs:=#[.int .i64 0, .int .i64 0, .int .i64 0, .string (⟨#[]⟩:ByteArray)]) ?_ 0 _ rfl;(with_reducible repeat first|apply Jx|apply A7|apply K0);exact BK103.out) Try.underlying28 rfl (by kernel_rfl)) rfl ?_
   exact ⟨by first|rfl|(simp [errW_none,errW_some] <;> rfl)|(simp [*,errW_none,errW_some] <;> rfl),by repeat first|(with_reducible first|exact HB.out|apply zA|apply zN|apply z1|refine zS ?_ GE101.out|refine zS ?_ GE102.out|refine zS ?_ GE103.out)|exact HB.out⟩
  ·rw [if_neg c69] at H
   have c69b0:(a0 == 7) = false:=beq_eq_false_iff_ne.mpr c69
   have c69b1:(a0 != 7) = true:=bne_iff_ne.mpr c69
   replace H:=Option.bind_eq_some_iff.mp H
   obtain ⟨⟨t121,t122,t123,t124,t125⟩,A830,H⟩:=H
   replace H:(some (t121,t122,t123,t124,t125)) = some (r1,r2,r3,r4,r5):=H
   have A83:=z_ A830
   clear A830
   simp only [Option.some.injEq,Prod.mk.injEq] at H
   obtain ⟨rfl,rfl,rfl,rfl,rfl⟩:=H
   go_enter Try.func55,Try.ntmps55
   go_wp2_with (first|((with_reducible refine gate_dst (N:=4) rfl ?_);refine box_event (by rfl) (N:=4) (by rfl) (cs:=#[.int .i64 a1_0, .int .i64 a1_1, .int .i64 a1_2, .string a1_3]) (t:=28) W3 ?_;intro gb101 hg w84 hbox hb;have BK101:=z_ (hbox);have GW101:=z_ ((W0:w.heap.size ≤ gb101));have GE101:=z_ ((W0:w.heap.size ≤ gb101));replace HB:=z_ (below_step W5 hb);clear hb hbox hg)|((with_reducible refine gate_dst (N:=5) rfl ?_);refine box_event (by rfl) (N:=5) (by rfl) (cs:=#[.int .i64 a2_0, .int .i64 a2_1, .int .i64 a2_2, .string a2_3]) (t:=28) W3 ?_;intro gb102 hg w85 hbox hb;have BK102:=z_ (hbox);have GW102:=z_ ((W6:w.heap.size ≤ gb102));have GE102:=z_ ((W6:w.heap.size ≤ gb102));replace HB:=z_ (below_step zp1 hb);have NB101_102:=z_ ((Aeh:gb101 ≠ gb102));have NB102_101:=z_ ((Aei:gb102 ≠ gb101));replace BK101:=z_ (zk BK101.out hb);clear hb hbox hg)|((with_reducible refine gate_dst (N:=6) rfl ?_);refine box_event (by rfl) (N:=6) (by rfl) (cs:=#[.int .i64 0, .int .i64 0, .int .i64 0, .string (⟨#[]⟩:ByteArray)]) (t:=28) W3 ?_;intro gb103 hg w86 hbox hb;have BK103:=z_ (hbox);have GW103:=z_ ((Aen:w.heap.size ≤ gb103));have GE103:=z_ ((Aen:w.heap.size ≤ gb103));replace HB:=z_ (below_step zp5 hb);have NB101_103:=z_ ((Aeh:gb101 ≠ gb103));have NB103_101:=z_ ((Aei:gb103 ≠ gb101));replace BK101:=z_ (zk BK101.out hb);have NB102_103:=z_ ((Amd:gb102 ≠ gb103));have NB103_102:=z_ ((Aet:gb103 ≠ gb102));replace BK102:=z_ (zk BK102.out hb);clear hb hbox hg;have hnb87:=NB101_102.out;have hnc87:=NB102_101.out;have hnb88:=NB101_103.out;have hnc88:=NB103_101.out;obtain ⟨_,_,_,_,_,_,_,_⟩:=Rr BK101.out)|((with_reducible refine gate_callee (f:=69) rfl ?_);refine goesL_ (some 44) rfl rfl Try.func69 (by kernel_rfl) rfl #[.agg #[.int .i64 a1_0, .int .i64 a1_1, .int .i64 a1_2, .string a1_3]] rfl W4 ?_;(with_reducible refine (Aer.calls k a1_0 a1_1 a1_2 a1_3 t112 t113 _ A67.out).mono ?_);rintro e w90 ⟨rfl,hb⟩;refine ⟨_,rfl,?_⟩;replace BK101:=z_ (zk BK101.out hb);replace BK102:=z_ (zk BK102.out hb);replace BK103:=z_ (zk BK103.out hb);replace HB:=z_ (below_step zp3 hb);(try clear hb);(try clear hb2);(try clear hk);(try clear hi);have hnb91:=NB102_103.out;have hnc91:=NB103_102.out;obtain ⟨_,_,_,_,_,_,_,_⟩:=Rr BK102.out)|((with_reducible refine gate_callee (f:=69) rfl ?_);refine goesL_ (some 49) rfl rfl Try.func69 (by kernel_rfl) rfl #[.agg #[.int .i64 a2_0, .int .i64 a2_1, .int .i64 a2_2, .string a2_3]] rfl W4 ?_;(with_reducible refine (Aer.calls k a2_0 a2_1 a2_2 a2_3 t114 t115 _ A68.out).mono ?_);rintro e w93 ⟨rfl,hb⟩;refine ⟨_,rfl,?_⟩;replace BK101:=z_ (zk BK101.out hb);replace BK102:=z_ (zk BK102.out hb);replace BK103:=z_ (zk BK103.out hb);replace HB:=z_ (below_step zp3 hb);(try clear hb);(try clear hb2);(try clear hk);(try clear hi))|((with_reducible refine gate_callee (f:=70) rfl ?_);refine goesL_ (some 69) rfl rfl Try.func70 (by kernel_rfl) rfl #[.int .i64 (wrap64 (t112 - t114)), .int .i64 (wrap64 (t113 - t115))] rfl W4 ?_;(with_reducible refine (Ad0.calls k (wrap64 (t112 - t114)) (wrap64 (t113 - t115)) t121 t122 t123 t124 t125 _ A83.out).mono ?_);rintro e w94 ⟨rfl,hb⟩;refine ⟨_,rfl,?_⟩;replace BK101:=z_ (zk BK101.out hb);replace BK102:=z_ (zk BK102.out hb);replace BK103:=z_ (zk BK103.out hb);replace HB:=z_ (below_step zp3 hb);(try clear hb);(try clear hb2);(try clear hk);(try clear hi);obtain ⟨_,_,_,_,_,_,_,_⟩:=Rr BK103.out))
   refine bodyPost_ret (results_ct rfl _ _ gb103 28 #[.int .i64 t121, .int .i64 t122, .int .i64 t123, .string t124] (0,0) _ rfl (by (with_reducible repeat first|apply Jx|apply A7|apply K0);refine Tt (cs:=#[.int .i64 t121, .int .i64 t122, .int .i64 t123, .string (⟨#[]⟩:ByteArray)]) ?_ 3 _ rfl;(with_reducible repeat first|apply Jx|apply A7|apply K0);refine Tt (cs:=#[.int .i64 t121, .int .i64 t122, .int .i64 0, .string (⟨#[]⟩:ByteArray)]) ?_ 2 _ rfl;(with_reducible repeat first|apply Jx|apply A7|apply K0);refine Tt (cs:=#[.int .i64 t121, .int .i64 0, .int .i64 0, .string (⟨#[]⟩:ByteArray)]) ?_ 1 _ rfl;(with_reducible repeat first|apply Jx|apply A7|apply K0);refine Tt (cs:=#[.int .i64 0, .int .i64 0, .int .i64 0, .string (⟨#[]⟩:ByteArray)]) ?_ 0 _ rfl;(with_reducible repeat first|apply Jx|apply A7|apply K0);exact BK103.out) Try.underlying28 rfl (by kernel_rfl)) rfl ?_
   exact ⟨by first|rfl|(simp [errW_none,errW_some] <;> rfl)|(simp [*,errW_none,errW_some] <;> rfl),by repeat first|(with_reducible first|exact HB.out|apply zA|apply zN|apply z1|refine zS ?_ GE101.out|refine zS ?_ GE102.out|refine zS ?_ GE103.out)|exact HB.out⟩
end Go.Proofs.Ytglffgneikoeaaa.M
namespace Go.Proofs.Ytglffgneikoeaaa.M
open Go.RowKit Go.Proofs.YtglffgneikoeaaaW.PrintWords Go.Proofs.YtglffgneikoeaaaW.PrintLast Go.Proofs.YtglffgneikoeaaaW.PrintMore
attribute [local go_sem] max2_int min2_int max_two min_two max_three min_three max_four min_four
attribute [local go_sem high] own_gtr own_leq own_geq own_cell_set Option.map_some
set_option linter.unusedVariables false
set_option linter.unusedSimpArgs false
mutual
def Ad1.j0:Nat → Int → Int → Int → Int → ByteArray → Int → Int → Int → ByteArray → Option (Int × Int × Int × ByteArray × Int)
 | 0,_,_,_,_,_,_,_,_,_=>none
 | k + 1,x0,x102000,x102001,x102002,x102003,x103000,x103001,x103002,x103003=>if x0 = 6 then ((Aej.f x102000 x102001 x102002 x102003).bind fun t104=>(if t104 = true then ((Aej.f x103000 x103001 x103002 x103003).bind fun t105=>(Ad1.j1 k x0 (!t105) x102000 x102001 x102002 x102003 x103000 x103001 x103002 x103003)) else (Ad1.j1 k x0 true x102000 x102001 x102002 x102003 x103000 x103001 x103002 x103003))) else (if x0 = 7 then ((Aej.f x102000 x102001 x102002 x102003).bind fun t106=>(if t106 = true then ((Aej.f x103000 x103001 x103002 x103003).bind fun t107=>(Ad1.j1 k x0 (!t107) x102000 x102001 x102002 x102003 x103000 x103001 x103002 x103003)) else (Ad1.j1 k x0 true x102000 x102001 x102002 x102003 x103000 x103001 x103002 x103003))) else (if x0 = 8 then ((Aej.f x102000 x102001 x102002 x102003).bind fun t108=>(if t108 = true then ((Aej.f x103000 x103001 x103002 x103003).bind fun t109=>(Ad1.j1 k x0 (!t109) x102000 x102001 x102002 x102003 x103000 x103001 x103002 x103003)) else (Ad1.j1 k x0 true x102000 x102001 x102002 x102003 x103000 x103001 x103002 x103003))) else (Ad1.j1 k x0 true x102000 x102001 x102002 x102003 x103000 x103001 x103002 x103003)))
def Ad1.j1:Nat → Int → Bool → Int → Int → Int → ByteArray → Int → Int → Int → ByteArray → Option (Int × Int × Int × ByteArray × Int)
 | 0,_,_,_,_,_,_,_,_,_,_=>none
 | k + 1,x0,x22,x102000,x102001,x102002,x102003,x103000,x103001,x103002,x103003=>if x22 = true then (some (0,0,0,(⟨#[]⟩:ByteArray),5)) else (if x102000 = 0 then (Ad1.j2 k x0 true x102000 x102001 x102002 x102003 x103000 x103001 x103002 x103003) else (Ad1.j2 k x0 (x103000 == 0) x102000 x102001 x102002 x102003 x103000 x103001 x103002 x103003))
def Ad1.j2:Nat → Int → Bool → Int → Int → Int → ByteArray → Int → Int → Int → ByteArray → Option (Int × Int × Int × ByteArray × Int)
 | 0,_,_,_,_,_,_,_,_,_,_=>none
 | k + 1,x0,x44,x102000,x102001,x102002,x102003,x103000,x103001,x103002,x103003=>if x44 = true then (some (0,0,0,(⟨#[]⟩:ByteArray),0)) else (if x102000 = x103000 then (if x102000 = 2 then ((A2a.f x0 x102001 x103001).bind fun bt110=>(some (bt110.1,bt110.2.1,bt110.2.2.1,bt110.2.2.2.1,bt110.2.2.2.2))) else ((A01.f k x0 x102000 x102001 x102002 x102003 x103000 x103001 x103002 x103003).bind fun bt115=>(some (bt115.1,bt115.2.1,bt115.2.2.1,bt115.2.2.2.1,bt115.2.2.2.2)))) else (some (0,0,0,(⟨#[]⟩:ByteArray),5)))
end
def Ad1.f (k:Nat) (a0:Int) (a1_0:Int) (a1_1:Int) (a1_2:Int) (a1_3:ByteArray) (a2_0:Int) (a2_1:Int) (a2_2:Int) (a2_3:ByteArray):Option (Int × Int × Int × ByteArray × Int):=if a0 = 4 then (if a1_0 = 2 then (Ad1.j0 k 8 a1_0 0 0 (⟨#[]⟩:ByteArray) a1_0 a1_1 a1_2 a1_3) else (if a1_0 = 3 then (Ad1.j0 k 8 a1_0 0 0 (⟨#[]⟩:ByteArray) a1_0 a1_1 a1_2 a1_3) else (Ad1.j0 k 8 a1_0 a1_1 a1_2 a1_3 a1_0 a1_1 a1_2 a1_3))) else (Ad1.j0 k a0 a1_0 a1_1 a1_2 a1_3 a2_0 a2_1 a2_2 a2_3)
set_option maxHeartbeats 8000000 in
set_option maxRecDepth 100000 in
theorem Ad1.calls (k:Nat) (a0:Int) (a1_0:Int) (a1_1:Int) (a1_2:Int) (a1_3:ByteArray) (a2_0:Int) (a2_1:Int) (a2_2:Int) (a2_3:ByteArray) (r1:Int) (r2:Int) (r3:Int) (r4:ByteArray) (r5:Int) (w:World) (h:Ad1.f k a0 a1_0 a1_1 a1_2 a1_3 a2_0 a2_1 a2_2 a2_3 = some (r1,r2,r3,r4,r5)) :
  Calls Try.prog 30 #[.int .i64 a0, .agg #[.int .i64 a1_0, .int .i64 a1_1, .int .i64 a1_2, .string a1_3], .agg #[.int .i64 a2_0, .int .i64 a2_1, .int .i64 a2_2, .string a2_3]] w fun e w'=>e = .returned (.tuple #[.agg #[.int .i64 r1, .int .i64 r2, .int .i64 r3, .string r4], .int .i64 r5]) ∧ Below w.heap.size w w':=by
 have hu28:=Try.underlying28
 have HB:=z_ (Below.refl w.heap.size w)
 have H:(if a0 = 4 then (if a1_0 = 2 then (Ad1.j0 k 8 a1_0 0 0 (⟨#[]⟩:ByteArray) a1_0 a1_1 a1_2 a1_3) else (if a1_0 = 3 then (Ad1.j0 k 8 a1_0 0 0 (⟨#[]⟩:ByteArray) a1_0 a1_1 a1_2 a1_3) else (Ad1.j0 k 8 a1_0 a1_1 a1_2 a1_3 a1_0 a1_1 a1_2 a1_3))) else (Ad1.j0 k a0 a1_0 a1_1 a1_2 a1_3 a2_0 a2_1 a2_2 a2_3)) = some (r1,r2,r3,r4,r5):=h
 clear h
 have HC4:=z_ H
 clear H
 go_enter Try.func30,Try.ntmps30
 go_upto_if 9 with (first|((with_reducible refine gate_dst (N:=4) rfl ?_);refine box_event (by rfl) (N:=4) (by rfl) (cs:=#[.int .i64 a1_0, .int .i64 a1_1, .int .i64 a1_2, .string a1_3]) (t:=28) W3 ?_;intro gb101 hg w5 hbox hb;have BK101:=z_ (hbox);have GW101:=z_ ((W0:w.heap.size ≤ gb101));have GE101:=z_ ((W0:w.heap.size ≤ gb101));replace HB:=z_ (below_step W5 hb);clear hb hbox hg)|((with_reducible refine gate_dst (N:=5) rfl ?_);refine box_event (by rfl) (N:=5) (by rfl) (cs:=#[.int .i64 a2_0, .int .i64 a2_1, .int .i64 a2_2, .string a2_3]) (t:=28) W3 ?_;intro gb102 hg w6 hbox hb;have BK102:=z_ (hbox);have GW102:=z_ ((W6:w.heap.size ≤ gb102));have GE102:=z_ ((W6:w.heap.size ≤ gb102));replace HB:=z_ (below_step zp1 hb);have NB101_102:=z_ ((Aeh:gb101 ≠ gb102));have NB102_101:=z_ ((Aei:gb102 ≠ gb101));replace BK101:=z_ (zk BK101.out hb);clear hb hbox hg)|((with_reducible refine gate_dst (N:=6) rfl ?_);refine box_event (by rfl) (N:=6) (by rfl) (cs:=#[.int .i64 0, .int .i64 0, .int .i64 0, .string (⟨#[]⟩:ByteArray)]) (t:=28) W3 ?_;intro gb103 hg w7 hbox hb;have BK103:=z_ (hbox);have GW103:=z_ ((Aen:w.heap.size ≤ gb103));have GE103:=z_ ((Aen:w.heap.size ≤ gb103));replace HB:=z_ (below_step zp5 hb);have NB101_103:=z_ ((Aeh:gb101 ≠ gb103));have NB103_101:=z_ ((Aei:gb103 ≠ gb101));replace BK101:=z_ (zk BK101.out hb);have NB102_103:=z_ ((Amd:gb102 ≠ gb103));have NB103_102:=z_ ((Aet:gb103 ≠ gb102));replace BK102:=z_ (zk BK102.out hb);clear hb hbox hg))
 (try simp only [Act.put,List.setIfInBounds_toArray,List.set_cons_zero,List.set_cons_succ])
 go_cut [0] (fun v0 wc=>∃ (kq:Nat) (x0_3:Int) (x102000_3:Int) (x102001_3:Int) (x102002_3:Int) (x102003_3:ByteArray) (x103000_3:Int) (x103001_3:Int) (x103002_3:Int) (x103003_3:ByteArray),v0 = .int .i64 x0_3 ∧ Aside0 (Ad1.j0 kq x0_3 x102000_3 x102001_3 x102002_3 x102003_3 x103000_3 x103001_3 x103002_3 x103003_3 = some (r1,r2,r3,r4,r5)) ∧ Aside0 (kq ≤ k) ∧ Aside0 (wc.heap[gb101]? = some (.cells #[.int .i64 x102000_3, .int .i64 x102001_3, .int .i64 x102002_3, .string x102003_3] 28 (0,0))) ∧ Aside0 (wc.heap[gb102]? = some (.cells #[.int .i64 x103000_3, .int .i64 x103001_3, .int .i64 x103002_3, .string x103003_3] 28 (0,0))) ∧ Aside0 (wc.heap[gb103]? = some (.cells #[.int .i64 0, .int .i64 0, .int .i64 0, .string (⟨#[]⟩:ByteArray)] 28 (0,0))) ∧ Aside0 (Below w.heap.size w wc))
 case first =>
  have H:=HC4.out
  clear HC4
  by_cases c8:a0 = 4
  ·rw [if_pos c8] at H
   have c8b0:(a0 == 4) = true:=beq_iff_eq.mpr c8
   have c8b1:(a0 != 4) = false:=bne_eq_false_iff_eq.mpr c8
   clear c8
   (first|rw [c8b0]|(simp only [i64_w,i32_w];rw [c8b0])|skip)
   by_cases c9:a1_0 = 2
   ·rw [if_pos c9] at H
    have c9b0:(a1_0 == 2) = true:=beq_iff_eq.mpr c9
    have c9b1:(a1_0 != 2) = false:=bne_eq_false_iff_eq.mpr c9
    clear c9
    have H':=z_ H
    clear H
    have hnb10:=NB101_102.out
    have hnc10:=NB102_101.out
    have hnb11:=NB101_103.out
    have hnc11:=NB103_101.out
    obtain ⟨_,_,_,_,_,_,_,_⟩:=Rr BK101.out
    have hnb13:=NB102_103.out
    have hnc13:=NB103_102.out
    obtain ⟨_,_,_,_,_,_,_,_⟩:=Rr BK102.out
    go_wp2
    go_meet
    case rel=>exact ⟨_,(8),(a1_0),(0),(0),((⟨#[]⟩:ByteArray)),(a1_0),(a1_1),(a1_2),(a1_3),Adz,H',⟨by first|omega|exact Nat.le_refl _⟩,⟨by (with_reducible repeat first|apply Jx|apply A7|apply K0);refine Tt (cs:=#[.int .i64 a1_0, .int .i64 0, .int .i64 0, .string a1_3]) ?_ 3 _ rfl;(with_reducible repeat first|apply Jx|apply A7|apply K0);refine Tt (cs:=#[.int .i64 a1_0, .int .i64 0, .int .i64 a1_2, .string a1_3]) ?_ 2 _ rfl;(with_reducible repeat first|apply Jx|apply A7|apply K0);refine Tt (cs:=#[.int .i64 a1_0, .int .i64 a1_1, .int .i64 a1_2, .string a1_3]) ?_ 1 _ rfl;(with_reducible repeat first|apply Jx|apply A7|apply K0);refine Tt (cs:=#[.int .i64 a1_0, .int .i64 a1_1, .int .i64 a1_2, .string a1_3]) ?_ 0 _ rfl;(with_reducible repeat first|apply Jx|apply A7|apply K0);refine S0 ?_ NB101_102.out _;(with_reducible repeat first|apply Jx|apply A7|apply K0);refine S0 ?_ NB101_102.out _;(with_reducible repeat first|apply Jx|apply A7|apply K0);refine S0 ?_ NB101_102.out _;(with_reducible repeat first|apply Jx|apply A7|apply K0);refine S0 ?_ NB101_102.out _;(with_reducible repeat first|apply Jx|apply A7|apply K0);exact BK101.out⟩,⟨by (with_reducible repeat first|apply Jx|apply A7|apply K0);refine S0 ?_ NB102_101.out _;(with_reducible repeat first|apply Jx|apply A7|apply K0);refine S0 ?_ NB102_101.out _;(with_reducible repeat first|apply Jx|apply A7|apply K0);refine S0 ?_ NB102_101.out _;(with_reducible repeat first|apply Jx|apply A7|apply K0);refine S0 ?_ NB102_101.out _;(with_reducible repeat first|apply Jx|apply A7|apply K0);refine Tt (cs:=#[.int .i64 a1_0, .int .i64 a1_1, .int .i64 a1_2, .string a2_3]) ?_ 3 _ rfl;(with_reducible repeat first|apply Jx|apply A7|apply K0);refine Tt (cs:=#[.int .i64 a1_0, .int .i64 a1_1, .int .i64 a2_2, .string a2_3]) ?_ 2 _ rfl;(with_reducible repeat first|apply Jx|apply A7|apply K0);refine Tt (cs:=#[.int .i64 a1_0, .int .i64 a2_1, .int .i64 a2_2, .string a2_3]) ?_ 1 _ rfl;(with_reducible repeat first|apply Jx|apply A7|apply K0);refine Tt (cs:=#[.int .i64 a2_0, .int .i64 a2_1, .int .i64 a2_2, .string a2_3]) ?_ 0 _ rfl;(with_reducible repeat first|apply Jx|apply A7|apply K0);exact BK102.out⟩,⟨by (with_reducible repeat first|apply Jx|apply A7|apply K0);refine S0 ?_ NB103_101.out _;(with_reducible repeat first|apply Jx|apply A7|apply K0);refine S0 ?_ NB103_101.out _;(with_reducible repeat first|apply Jx|apply A7|apply K0);refine S0 ?_ NB103_101.out _;(with_reducible repeat first|apply Jx|apply A7|apply K0);refine S0 ?_ NB103_101.out _;(with_reducible repeat first|apply Jx|apply A7|apply K0);refine S0 ?_ NB103_102.out _;(with_reducible repeat first|apply Jx|apply A7|apply K0);refine S0 ?_ NB103_102.out _;(with_reducible repeat first|apply Jx|apply A7|apply K0);refine S0 ?_ NB103_102.out _;(with_reducible repeat first|apply Jx|apply A7|apply K0);refine S0 ?_ NB103_102.out _;(with_reducible repeat first|apply Jx|apply A7|apply K0);exact BK103.out⟩,⟨by repeat first|(with_reducible first|exact HB.out|apply zA|apply zN|apply z1|refine zS ?_ GE101.out|refine zS ?_ GE102.out|refine zS ?_ GE103.out)|exact HB.out⟩⟩
   ·rw [if_neg c9] at H
    have c9b0:(a1_0 == 2) = false:=beq_eq_false_iff_ne.mpr c9
    have c9b1:(a1_0 != 2) = true:=bne_iff_ne.mpr c9
    by_cases c15:a1_0 = 3
    ·rw [if_pos c15] at H
     have c15b0:(a1_0 == 3) = true:=beq_iff_eq.mpr c15
     have c15b1:(a1_0 != 3) = false:=bne_eq_false_iff_eq.mpr c15
     clear c15
     have H':=z_ H
     clear H
     have hnb16:=NB101_102.out
     have hnc16:=NB102_101.out
     have hnb17:=NB101_103.out
     have hnc17:=NB103_101.out
     obtain ⟨_,_,_,_,_,_,_,_⟩:=Rr BK101.out
     have hnb19:=NB102_103.out
     have hnc19:=NB103_102.out
     obtain ⟨_,_,_,_,_,_,_,_⟩:=Rr BK102.out
     go_wp2
     go_meet
     case rel=>exact ⟨_,(8),(a1_0),(0),(0),((⟨#[]⟩:ByteArray)),(a1_0),(a1_1),(a1_2),(a1_3),Adz,H',⟨by first|omega|exact Nat.le_refl _⟩,⟨by (with_reducible repeat first|apply Jx|apply A7|apply K0);refine Tt (cs:=#[.int .i64 a1_0, .int .i64 0, .int .i64 0, .string a1_3]) ?_ 3 _ rfl;(with_reducible repeat first|apply Jx|apply A7|apply K0);refine Tt (cs:=#[.int .i64 a1_0, .int .i64 0, .int .i64 a1_2, .string a1_3]) ?_ 2 _ rfl;(with_reducible repeat first|apply Jx|apply A7|apply K0);refine Tt (cs:=#[.int .i64 a1_0, .int .i64 a1_1, .int .i64 a1_2, .string a1_3]) ?_ 1 _ rfl;(with_reducible repeat first|apply Jx|apply A7|apply K0);refine Tt (cs:=#[.int .i64 a1_0, .int .i64 a1_1, .int .i64 a1_2, .string a1_3]) ?_ 0 _ rfl;(with_reducible repeat first|apply Jx|apply A7|apply K0);refine S0 ?_ NB101_102.out _;(with_reducible repeat first|apply Jx|apply A7|apply K0);refine S0 ?_ NB101_102.out _;(with_reducible repeat first|apply Jx|apply A7|apply K0);refine S0 ?_ NB101_102.out _;(with_reducible repeat first|apply Jx|apply A7|apply K0);refine S0 ?_ NB101_102.out _;(with_reducible repeat first|apply Jx|apply A7|apply K0);exact BK101.out⟩,⟨by (with_reducible repeat first|apply Jx|apply A7|apply K0);refine S0 ?_ NB102_101.out _;(with_reducible repeat first|apply Jx|apply A7|apply K0);refine S0 ?_ NB102_101.out _;(with_reducible repeat first|apply Jx|apply A7|apply K0);refine S0 ?_ NB102_101.out _;(with_reducible repeat first|apply Jx|apply A7|apply K0);refine S0 ?_ NB102_101.out _;(with_reducible repeat first|apply Jx|apply A7|apply K0);refine Tt (cs:=#[.int .i64 a1_0, .int .i64 a1_1, .int .i64 a1_2, .string a2_3]) ?_ 3 _ rfl;(with_reducible repeat first|apply Jx|apply A7|apply K0);refine Tt (cs:=#[.int .i64 a1_0, .int .i64 a1_1, .int .i64 a2_2, .string a2_3]) ?_ 2 _ rfl;(with_reducible repeat first|apply Jx|apply A7|apply K0);refine Tt (cs:=#[.int .i64 a1_0, .int .i64 a2_1, .int .i64 a2_2, .string a2_3]) ?_ 1 _ rfl;(with_reducible repeat first|apply Jx|apply A7|apply K0);refine Tt (cs:=#[.int .i64 a2_0, .int .i64 a2_1, .int .i64 a2_2, .string a2_3]) ?_ 0 _ rfl;(with_reducible repeat first|apply Jx|apply A7|apply K0);exact BK102.out⟩,⟨by (with_reducible repeat first|apply Jx|apply A7|apply K0);refine S0 ?_ NB103_101.out _;(with_reducible repeat first|apply Jx|apply A7|apply K0);refine S0 ?_ NB103_101.out _;(with_reducible repeat first|apply Jx|apply A7|apply K0);refine S0 ?_ NB103_101.out _;(with_reducible repeat first|apply Jx|apply A7|apply K0);refine S0 ?_ NB103_101.out _;(with_reducible repeat first|apply Jx|apply A7|apply K0);refine S0 ?_ NB103_102.out _;(with_reducible repeat first|apply Jx|apply A7|apply K0);refine S0 ?_ NB103_102.out _;(with_reducible repeat first|apply Jx|apply A7|apply K0);refine S0 ?_ NB103_102.out _;(with_reducible repeat first|apply Jx|apply A7|apply K0);refine S0 ?_ NB103_102.out _;(with_reducible repeat first|apply Jx|apply A7|apply K0);exact BK103.out⟩,⟨by repeat first|(with_reducible first|exact HB.out|apply zA|apply zN|apply z1|refine zS ?_ GE101.out|refine zS ?_ GE102.out|refine zS ?_ GE103.out)|exact HB.out⟩⟩
    ·rw [if_neg c15] at H
     have c15b0:(a1_0 == 3) = false:=beq_eq_false_iff_ne.mpr c15
     have c15b1:(a1_0 != 3) = true:=bne_iff_ne.mpr c15
     have H':=z_ H
     clear H
     have hnb21:=NB101_102.out
     have hnc21:=NB102_101.out
     have hnb22:=NB101_103.out
     have hnc22:=NB103_101.out
     obtain ⟨_,_,_,_,_,_,_,_⟩:=Rr BK101.out
     have hnb24:=NB102_103.out
     have hnc24:=NB103_102.out
     obtain ⟨_,_,_,_,_,_,_,_⟩:=Rr BK102.out
     go_wp2
     go_meet
     case rel=>exact ⟨_,(8),(a1_0),(a1_1),(a1_2),(a1_3),(a1_0),(a1_1),(a1_2),(a1_3),Adz,H',⟨by first|omega|exact Nat.le_refl _⟩,⟨by (with_reducible repeat first|apply Jx|apply A7|apply K0);refine S0 ?_ NB101_102.out _;(with_reducible repeat first|apply Jx|apply A7|apply K0);refine S0 ?_ NB101_102.out _;(with_reducible repeat first|apply Jx|apply A7|apply K0);refine S0 ?_ NB101_102.out _;(with_reducible repeat first|apply Jx|apply A7|apply K0);refine S0 ?_ NB101_102.out _;(with_reducible repeat first|apply Jx|apply A7|apply K0);exact BK101.out⟩,⟨by (with_reducible repeat first|apply Jx|apply A7|apply K0);refine Tt (cs:=#[.int .i64 a1_0, .int .i64 a1_1, .int .i64 a1_2, .string a2_3]) ?_ 3 _ rfl;(with_reducible repeat first|apply Jx|apply A7|apply K0);refine Tt (cs:=#[.int .i64 a1_0, .int .i64 a1_1, .int .i64 a2_2, .string a2_3]) ?_ 2 _ rfl;(with_reducible repeat first|apply Jx|apply A7|apply K0);refine Tt (cs:=#[.int .i64 a1_0, .int .i64 a2_1, .int .i64 a2_2, .string a2_3]) ?_ 1 _ rfl;(with_reducible repeat first|apply Jx|apply A7|apply K0);refine Tt (cs:=#[.int .i64 a2_0, .int .i64 a2_1, .int .i64 a2_2, .string a2_3]) ?_ 0 _ rfl;(with_reducible repeat first|apply Jx|apply A7|apply K0);exact BK102.out⟩,⟨by (with_reducible repeat first|apply Jx|apply A7|apply K0);refine S0 ?_ NB103_102.out _;(with_reducible repeat first|apply Jx|apply A7|apply K0);refine S0 ?_ NB103_102.out _;(with_reducible repeat first|apply Jx|apply A7|apply K0);refine S0 ?_ NB103_102.out _;(with_reducible repeat first|apply Jx|apply A7|apply K0);refine S0 ?_ NB103_102.out _;(with_reducible repeat first|apply Jx|apply A7|apply K0);exact BK103.out⟩,⟨by repeat first|(with_reducible first|exact HB.out|apply zA|apply zN|apply z1|refine zS ?_ GE101.out|refine zS ?_ GE102.out|refine zS ?_ GE103.out)|exact HB.out⟩⟩
  ·rw [if_neg c8] at H
   have c8b0:(a0 == 4) = false:=beq_eq_false_iff_ne.mpr c8
   have c8b1:(a0 != 4) = true:=bne_iff_ne.mpr c8
   (first|rw [c8b0]|(simp only [i64_w,i32_w];rw [c8b0])|skip)
   have H':=z_ H
   clear H
   go_wp2
   go_meet
   case rel=>exact ⟨_,(a0),(a1_0),(a1_1),(a1_2),(a1_3),(a2_0),(a2_1),(a2_2),(a2_3),Adz,H',⟨by first|omega|exact Nat.le_refl _⟩,⟨by (with_reducible repeat first|apply Jx|apply A7|apply K0);exact BK101.out⟩,⟨by (with_reducible repeat first|apply Jx|apply A7|apply K0);exact BK102.out⟩,⟨by (with_reducible repeat first|apply Jx|apply A7|apply K0);exact BK103.out⟩,⟨by repeat first|(with_reducible first|exact HB.out|apply zA|apply zN|apply z1|refine zS ?_ GE101.out|refine zS ?_ GE102.out|refine zS ?_ GE103.out)|exact HB.out⟩⟩
 case rest =>
  clear HC4
  try clear c1
  try clear c2
  try clear p2
  try clear c3
  try clear c8
  try clear c8b0
  try clear c8b1
  try clear c9
  try clear c9b0
  try clear c9b1
  try clear c10
  try clear c11
  try clear c13
  try clear c15
  try clear c15b0
  try clear c15b1
  try clear c16
  try clear c17
  try clear c19
  try clear c21
  try clear c22
  try clear c24
  try clear hcz12_0
  try clear hcz12_1
  try clear hcz12_2
  try clear hcz12_3
  try clear hcz14_0
  try clear hcz14_1
  try clear hcz14_2
  try clear hcz14_3
  try clear hcz18_0
  try clear hcz18_1
  try clear hcz18_2
  try clear hcz18_3
  try clear hcz20_0
  try clear hcz20_1
  try clear hcz20_2
  try clear hcz20_3
  try clear hcz23_0
  try clear hcz23_1
  try clear hcz23_2
  try clear hcz23_3
  try clear hcz25_0
  try clear hcz25_1
  try clear hcz25_2
  try clear hcz25_3
  try clear hfz12_0
  try clear hfz12_1
  try clear hfz12_2
  try clear hfz12_3
  try clear hfz14_0
  try clear hfz14_1
  try clear hfz14_2
  try clear hfz14_3
  try clear hfz18_0
  try clear hfz18_1
  try clear hfz18_2
  try clear hfz18_3
  try clear hfz20_0
  try clear hfz20_1
  try clear hfz20_2
  try clear hfz20_3
  try clear hfz23_0
  try clear hfz23_1
  try clear hfz23_2
  try clear hfz23_3
  try clear hfz25_0
  try clear hfz25_1
  try clear hfz25_2
  try clear hfz25_3
  obtain ⟨kq,x0_3,x102000_3,x102001_3,x102002_3,x102003_3,x103000_3,x103001_3,x103002_3,x103003_3,rfl,HA,HJ3,BK101,BK102,BK103,HB⟩:=hcut
  cases kq with
  | zero=>exact absurd HA.out (by simp [Ad1.j0])
  | succ kj3 =>
   have H:=HA.out
   clear HA
   simp only [Ad1.j0] at H
   have HC26:=z_ H
   clear H
   go_upto_region 6 with (fail)
   go_cut [22] (fun v22 wc=>∃ (kq:Nat) (x22_25:Bool),v22 = .bool x22_25 ∧ Aside0 (Ad1.j1 kq x0_3 x22_25 x102000_3 x102001_3 x102002_3 x102003_3 x103000_3 x103001_3 x103002_3 x103003_3 = some (r1,r2,r3,r4,r5)) ∧ Aside0 (kq ≤ kj3) ∧ Aside0 (wc.heap[gb101]? = some (.cells #[.int .i64 x102000_3, .int .i64 x102001_3, .int .i64 x102002_3, .string x102003_3] 28 (0,0))) ∧ Aside0 (wc.heap[gb102]? = some (.cells #[.int .i64 x103000_3, .int .i64 x103001_3, .int .i64 x103002_3, .string x103003_3] 28 (0,0))) ∧ Aside0 (wc.heap[gb103]? = some (.cells #[.int .i64 0, .int .i64 0, .int .i64 0, .string (⟨#[]⟩:ByteArray)] 28 (0,0))) ∧ Aside0 (Below w.heap.size w wc))
   case first =>
    have H:=HC26.out
    clear HC26
    by_cases c27:x0_3 = 6
    ·rw [if_pos c27] at H
     have c27b0:(x0_3 == 6) = true:=beq_iff_eq.mpr c27
     have c27b1:(x0_3 != 6) = false:=bne_eq_false_iff_eq.mpr c27
     clear c27
     (first|rw [c27b0]|(simp only [i64_w,i32_w];rw [c27b0])|skip)
     replace H:=Option.bind_eq_some_iff.mp H
     obtain ⟨t104,A280,H⟩:=H
     replace H:(if t104 = true then ((Aej.f x103000_3 x103001_3 x103002_3 x103003_3).bind fun t105=>(Ad1.j1 kj3 x0_3 (!t105) x102000_3 x102001_3 x102002_3 x102003_3 x103000_3 x103001_3 x103002_3 x103003_3)) else (Ad1.j1 kj3 x0_3 true x102000_3 x102001_3 x102002_3 x102003_3 x103000_3 x103001_3 x103002_3 x103003_3)) = some (r1,r2,r3,r4,r5):=H
     have A28:=z_ A280
     clear A280
     by_cases c29:t104 = true
     ·subst c29
      have H1:((Aej.f x103000_3 x103001_3 x103002_3 x103003_3).bind fun t105=>(Ad1.j1 kj3 x0_3 (!t105) x102000_3 x102001_3 x102002_3 x102003_3 x103000_3 x103001_3 x103002_3 x103003_3)) = some (r1,r2,r3,r4,r5):=by rw [if_pos rfl] at H;exact H
      clear H
      have H:=H1
      clear H1
      replace H:=Option.bind_eq_some_iff.mp H
      obtain ⟨t105,A300,H⟩:=H
      replace H:(Ad1.j1 kj3 x0_3 (!t105) x102000_3 x102001_3 x102002_3 x102003_3 x103000_3 x103001_3 x103002_3 x103003_3) = some (r1,r2,r3,r4,r5):=H
      have A30:=z_ A300
      clear A300
      have H':=z_ H
      clear H
      have hnb31:=NB101_102.out
      have hnc31:=NB102_101.out
      have hnb32:=NB101_103.out
      have hnc32:=NB103_101.out
      obtain ⟨_,_,_,_,_,_,_,_⟩:=Rr BK101.out
      go_wp2_with (first|(go_at_call 53;(with_reducible refine (Aej.calls x102000_3 x102001_3 x102002_3 x102003_3 true _ A28.out).mono ?_);rintro e w34 ⟨rfl,hb⟩;have n0_:=z_ (zk BK101.out hb);have n1_:=z_ (zk BK102.out hb);have n2_:=z_ (zk BK103.out hb);have n3_:=z_ (below_step zp3 hb);clear BK101;clear BK102;clear BK103;clear HB;have BK101:=n0_;have BK102:=n1_;have BK103:=n2_;have HB:=n3_;clear n0_ n1_ n2_ n3_;(try clear hb);(try clear hb2);(try clear hk);(try clear hi);have hnb35:=NB102_103.out;have hnc35:=NB103_102.out;obtain ⟨_,_,_,_,_,_,_,_⟩:=Rr BK102.out)|(go_at_call 53;(with_reducible refine (Aej.calls x103000_3 x103001_3 x103002_3 x103003_3 t105 _ A30.out).mono ?_);rintro e w37 ⟨rfl,hb⟩;have n0_:=z_ (zk BK101.out hb);have n1_:=z_ (zk BK102.out hb);have n2_:=z_ (zk BK103.out hb);have n3_:=z_ (below_step zp3 hb);clear BK101;clear BK102;clear BK103;clear HB;have BK101:=n0_;have BK102:=n1_;have BK103:=n2_;have HB:=n3_;clear n0_ n1_ n2_ n3_;(try clear hb);(try clear hb2);(try clear hk);(try clear hi)))
      go_meet
      case rel=>exact ⟨_,(!t105),Adz,H',⟨by have:=HJ3.out;first|omega|exact Nat.le_refl _⟩,⟨by (with_reducible repeat first|apply Jx|apply A7|apply K0);exact BK101.out⟩,⟨by (with_reducible repeat first|apply Jx|apply A7|apply K0);exact BK102.out⟩,⟨by (with_reducible repeat first|apply Jx|apply A7|apply K0);exact BK103.out⟩,⟨by repeat first|(with_reducible first|exact HB.out|apply zA|apply zN|apply z1|refine zS ?_ GE101.out|refine zS ?_ GE102.out|refine zS ?_ GE103.out)|exact HB.out⟩⟩
     ·replace c29:=Bool.eq_false_iff.mpr c29
      subst c29
      have H1:(Ad1.j1 kj3 x0_3 true x102000_3 x102001_3 x102002_3 x102003_3 x103000_3 x103001_3 x103002_3 x103003_3) = some (r1,r2,r3,r4,r5):=by rw [if_neg (show ¬ (false = true) by decide)] at H;exact H
      clear H
      have H:=H1
      clear H1
      have H':=z_ H
      clear H
      have hnb38:=NB101_102.out
      have hnc38:=NB102_101.out
      have hnb39:=NB101_103.out
      have hnc39:=NB103_101.out
      obtain ⟨_,_,_,_,_,_,_,_⟩:=Rr BK101.out
      go_wp2_with (first|(go_at_call 53;(with_reducible refine (Aej.calls x102000_3 x102001_3 x102002_3 x102003_3 false _ A28.out).mono ?_);rintro e w41 ⟨rfl,hb⟩;have n0_:=z_ (zk BK101.out hb);have n1_:=z_ (zk BK102.out hb);have n2_:=z_ (zk BK103.out hb);have n3_:=z_ (below_step zp3 hb);clear BK101;clear BK102;clear BK103;clear HB;have BK101:=n0_;have BK102:=n1_;have BK103:=n2_;have HB:=n3_;clear n0_ n1_ n2_ n3_;(try clear hb);(try clear hb2);(try clear hk);(try clear hi)))
      go_meet
      case rel=>exact ⟨_,(true),Adz,H',⟨by have:=HJ3.out;first|omega|exact Nat.le_refl _⟩,⟨by (with_reducible repeat first|apply Jx|apply A7|apply K0);exact BK101.out⟩,⟨by (with_reducible repeat first|apply Jx|apply A7|apply K0);exact BK102.out⟩,⟨by (with_reducible repeat first|apply Jx|apply A7|apply K0);exact BK103.out⟩,⟨by repeat first|(with_reducible first|exact HB.out|apply zA|apply zN|apply z1|refine zS ?_ GE101.out|refine zS ?_ GE102.out|refine zS ?_ GE103.out)|exact HB.out⟩⟩
    ·rw [if_neg c27] at H
     have c27b0:(x0_3 == 6) = false:=beq_eq_false_iff_ne.mpr c27
     have c27b1:(x0_3 != 6) = true:=bne_iff_ne.mpr c27
     (first|rw [c27b0]|(simp only [i64_w,i32_w];rw [c27b0])|skip)
     by_cases c42:x0_3 = 7
     ·rw [if_pos c42] at H
      have c42b0:(x0_3 == 7) = true:=beq_iff_eq.mpr c42
      have c42b1:(x0_3 != 7) = false:=bne_eq_false_iff_eq.mpr c42
      clear c42
      replace H:=Option.bind_eq_some_iff.mp H
      obtain ⟨t106,A430,H⟩:=H
      replace H:(if t106 = true then ((Aej.f x103000_3 x103001_3 x103002_3 x103003_3).bind fun t107=>(Ad1.j1 kj3 x0_3 (!t107) x102000_3 x102001_3 x102002_3 x102003_3 x103000_3 x103001_3 x103002_3 x103003_3)) else (Ad1.j1 kj3 x0_3 true x102000_3 x102001_3 x102002_3 x102003_3 x103000_3 x103001_3 x103002_3 x103003_3)) = some (r1,r2,r3,r4,r5):=H
      have A43:=z_ A430
      clear A430
      by_cases c44:t106 = true
      ·subst c44
       have H1:((Aej.f x103000_3 x103001_3 x103002_3 x103003_3).bind fun t107=>(Ad1.j1 kj3 x0_3 (!t107) x102000_3 x102001_3 x102002_3 x102003_3 x103000_3 x103001_3 x103002_3 x103003_3)) = some (r1,r2,r3,r4,r5):=by rw [if_pos rfl] at H;exact H
       clear H
       have H:=H1
       clear H1
       replace H:=Option.bind_eq_some_iff.mp H
       obtain ⟨t107,A450,H⟩:=H
       replace H:(Ad1.j1 kj3 x0_3 (!t107) x102000_3 x102001_3 x102002_3 x102003_3 x103000_3 x103001_3 x103002_3 x103003_3) = some (r1,r2,r3,r4,r5):=H
       have A45:=z_ A450
       clear A450
       have H':=z_ H
       clear H
       have hnb46:=NB101_102.out
       have hnc46:=NB102_101.out
       have hnb47:=NB101_103.out
       have hnc47:=NB103_101.out
       obtain ⟨_,_,_,_,_,_,_,_⟩:=Rr BK101.out
       go_wp2_with (first|(go_at_call 53;(with_reducible refine (Aej.calls x102000_3 x102001_3 x102002_3 x102003_3 true _ A43.out).mono ?_);rintro e w49 ⟨rfl,hb⟩;have n0_:=z_ (zk BK101.out hb);have n1_:=z_ (zk BK102.out hb);have n2_:=z_ (zk BK103.out hb);have n3_:=z_ (below_step zp3 hb);clear BK101;clear BK102;clear BK103;clear HB;have BK101:=n0_;have BK102:=n1_;have BK103:=n2_;have HB:=n3_;clear n0_ n1_ n2_ n3_;(try clear hb);(try clear hb2);(try clear hk);(try clear hi);have hnb50:=NB102_103.out;have hnc50:=NB103_102.out;obtain ⟨_,_,_,_,_,_,_,_⟩:=Rr BK102.out)|(go_at_call 53;(with_reducible refine (Aej.calls x103000_3 x103001_3 x103002_3 x103003_3 t107 _ A45.out).mono ?_);rintro e w52 ⟨rfl,hb⟩;have n0_:=z_ (zk BK101.out hb);have n1_:=z_ (zk BK102.out hb);have n2_:=z_ (zk BK103.out hb);have n3_:=z_ (below_step zp3 hb);clear BK101;clear BK102;clear BK103;clear HB;have BK101:=n0_;have BK102:=n1_;have BK103:=n2_;have HB:=n3_;clear n0_ n1_ n2_ n3_;(try clear hb);(try clear hb2);(try clear hk);(try clear hi)))
       go_meet
       case rel=>exact ⟨_,(!t107),Adz,H',⟨by have:=HJ3.out;first|omega|exact Nat.le_refl _⟩,⟨by (with_reducible repeat first|apply Jx|apply A7|apply K0);exact BK101.out⟩,⟨by (with_reducible repeat first|apply Jx|apply A7|apply K0);exact BK102.out⟩,⟨by (with_reducible repeat first|apply Jx|apply A7|apply K0);exact BK103.out⟩,⟨by repeat first|(with_reducible first|exact HB.out|apply zA|apply zN|apply z1|refine zS ?_ GE101.out|refine zS ?_ GE102.out|refine zS ?_ GE103.out)|exact HB.out⟩⟩
      ·replace c44:=Bool.eq_false_iff.mpr c44
       subst c44
       have H1:(Ad1.j1 kj3 x0_3 true x102000_3 x102001_3 x102002_3 x102003_3 x103000_3 x103001_3 x103002_3 x103003_3) = some (r1,r2,r3,r4,r5):=by rw [if_neg (show ¬ (false = true) by decide)] at H;exact H
       clear H
       have H:=H1
       clear H1
       have H':=z_ H
       clear H
       have hnb53:=NB101_102.out
       have hnc53:=NB102_101.out
       have hnb54:=NB101_103.out
       have hnc54:=NB103_101.out
       obtain ⟨_,_,_,_,_,_,_,_⟩:=Rr BK101.out
       go_wp2_with (first|(go_at_call 53;(with_reducible refine (Aej.calls x102000_3 x102001_3 x102002_3 x102003_3 false _ A43.out).mono ?_);rintro e w56 ⟨rfl,hb⟩;have n0_:=z_ (zk BK101.out hb);have n1_:=z_ (zk BK102.out hb);have n2_:=z_ (zk BK103.out hb);have n3_:=z_ (below_step zp3 hb);clear BK101;clear BK102;clear BK103;clear HB;have BK101:=n0_;have BK102:=n1_;have BK103:=n2_;have HB:=n3_;clear n0_ n1_ n2_ n3_;(try clear hb);(try clear hb2);(try clear hk);(try clear hi)))
       go_meet
       case rel=>exact ⟨_,(true),Adz,H',⟨by have:=HJ3.out;first|omega|exact Nat.le_refl _⟩,⟨by (with_reducible repeat first|apply Jx|apply A7|apply K0);exact BK101.out⟩,⟨by (with_reducible repeat first|apply Jx|apply A7|apply K0);exact BK102.out⟩,⟨by (with_reducible repeat first|apply Jx|apply A7|apply K0);exact BK103.out⟩,⟨by repeat first|(with_reducible first|exact HB.out|apply zA|apply zN|apply z1|refine zS ?_ GE101.out|refine zS ?_ GE102.out|refine zS ?_ GE103.out)|exact HB.out⟩⟩
     ·rw [if_neg c42] at H
      have c42b0:(x0_3 == 7) = false:=beq_eq_false_iff_ne.mpr c42
      have c42b1:(x0_3 != 7) = true:=bne_iff_ne.mpr c42
      by_cases c57:x0_3 = 8
      ·rw [if_pos c57] at H
       have c57b0:(x0_3 == 8) = true:=beq_iff_eq.mpr c57
       have c57b1:(x0_3 != 8) = false:=bne_eq_false_iff_eq.mpr c57
       clear c57
       replace H:=Option.bind_eq_some_iff.mp H
       obtain ⟨t108,A580,H⟩:=H
       replace H:(if t108 = true then ((Aej.f x103000_3 x103001_3 x103002_3 x103003_3).bind fun t109=>(Ad1.j1 kj3 x0_3 (!t109) x102000_3 x102001_3 x102002_3 x102003_3 x103000_3 x103001_3 x103002_3 x103003_3)) else (Ad1.j1 kj3 x0_3 true x102000_3 x102001_3 x102002_3 x102003_3 x103000_3 x103001_3 x103002_3 x103003_3)) = some (r1,r2,r3,r4,r5):=H
       have A58:=z_ A580
       clear A580
       by_cases c59:t108 = true
       ·subst c59
        have H1:((Aej.f x103000_3 x103001_3 x103002_3 x103003_3).bind fun t109=>(Ad1.j1 kj3 x0_3 (!t109) x102000_3 x102001_3 x102002_3 x102003_3 x103000_3 x103001_3 x103002_3 x103003_3)) = some (r1,r2,r3,r4,r5):=by rw [if_pos rfl] at H;exact H
        clear H
        have H:=H1
        clear H1
        replace H:=Option.bind_eq_some_iff.mp H
        obtain ⟨t109,A600,H⟩:=H
        replace H:(Ad1.j1 kj3 x0_3 (!t109) x102000_3 x102001_3 x102002_3 x102003_3 x103000_3 x103001_3 x103002_3 x103003_3) = some (r1,r2,r3,r4,r5):=H
        have A60:=z_ A600
        clear A600
        have H':=z_ H
        clear H
        have hnb61:=NB101_102.out
        have hnc61:=NB102_101.out
        have hnb62:=NB101_103.out
        have hnc62:=NB103_101.out
        obtain ⟨_,_,_,_,_,_,_,_⟩:=Rr BK101.out
        go_wp2_with (first|(go_at_call 53;(with_reducible refine (Aej.calls x102000_3 x102001_3 x102002_3 x102003_3 true _ A58.out).mono ?_);rintro e w64 ⟨rfl,hb⟩;have n0_:=z_ (zk BK101.out hb);have n1_:=z_ (zk BK102.out hb);have n2_:=z_ (zk BK103.out hb);have n3_:=z_ (below_step zp3 hb);clear BK101;clear BK102;clear BK103;clear HB;have BK101:=n0_;have BK102:=n1_;have BK103:=n2_;have HB:=n3_;clear n0_ n1_ n2_ n3_;(try clear hb);(try clear hb2);(try clear hk);(try clear hi);have hnb65:=NB102_103.out;have hnc65:=NB103_102.out;obtain ⟨_,_,_,_,_,_,_,_⟩:=Rr BK102.out)|(go_at_call 53;(with_reducible refine (Aej.calls x103000_3 x103001_3 x103002_3 x103003_3 t109 _ A60.out).mono ?_);rintro e w67 ⟨rfl,hb⟩;have n0_:=z_ (zk BK101.out hb);have n1_:=z_ (zk BK102.out hb);have n2_:=z_ (zk BK103.out hb);have n3_:=z_ (below_step zp3 hb);clear BK101;clear BK102;clear BK103;clear HB;have BK101:=n0_;have BK102:=n1_;have BK103:=n2_;have HB:=n3_;clear n0_ n1_ n2_ n3_;(try clear hb);(try clear hb2);(try clear hk);(try clear hi)))
        go_meet
        case rel=>exact ⟨_,(!t109),Adz,H',⟨by have:=HJ3.out;first|omega|exact Nat.le_refl _⟩,⟨by (with_reducible repeat first|apply Jx|apply A7|apply K0);exact BK101.out⟩,⟨by (with_reducible repeat first|apply Jx|apply A7|apply K0);exact BK102.out⟩,⟨by (with_reducible repeat first|apply Jx|apply A7|apply K0);exact BK103.out⟩,⟨by repeat first|(with_reducible first|exact HB.out|apply zA|apply zN|apply z1|refine zS ?_ GE101.out|refine zS ?_ GE102.out|refine zS ?_ GE103.out)|exact HB.out⟩⟩
       ·replace c59:=Bool.eq_false_iff.mpr c59
        subst c59
        have H1:(Ad1.j1 kj3 x0_3 true x102000_3 x102001_3 x102002_3 x102003_3 x103000_3 x103001_3 x103002_3 x103003_3) = some (r1,r2,r3,r4,r5):=by rw [if_neg (show ¬ (false = true) by decide)] at H;exact H
        clear H
        have H:=H1
        clear H1
        have H':=z_ H
        clear H
        have hnb68:=NB101_102.out
        have hnc68:=NB102_101.out
        have hnb69:=NB101_103.out
        have hnc69:=NB103_101.out
        obtain ⟨_,_,_,_,_,_,_,_⟩:=Rr BK101.out
        go_wp2_with (first|(go_at_call 53;(with_reducible refine (Aej.calls x102000_3 x102001_3 x102002_3 x102003_3 false _ A58.out).mono ?_);rintro e w71 ⟨rfl,hb⟩;have n0_:=z_ (zk BK101.out hb);have n1_:=z_ (zk BK102.out hb);have n2_:=z_ (zk BK103.out hb);have n3_:=z_ (below_step zp3 hb);clear BK101;clear BK102;clear BK103;clear HB;have BK101:=n0_;have BK102:=n1_;have BK103:=n2_;have HB:=n3_;clear n0_ n1_ n2_ n3_;(try clear hb);(try clear hb2);(try clear hk);(try clear hi)))
        go_meet
        case rel=>exact ⟨_,(true),Adz,H',⟨by have:=HJ3.out;first|omega|exact Nat.le_refl _⟩,⟨by (with_reducible repeat first|apply Jx|apply A7|apply K0);exact BK101.out⟩,⟨by (with_reducible repeat first|apply Jx|apply A7|apply K0);exact BK102.out⟩,⟨by (with_reducible repeat first|apply Jx|apply A7|apply K0);exact BK103.out⟩,⟨by repeat first|(with_reducible first|exact HB.out|apply zA|apply zN|apply z1|refine zS ?_ GE101.out|refine zS ?_ GE102.out|refine zS ?_ GE103.out)|exact HB.out⟩⟩
      ·rw [if_neg c57] at H
       have c57b0:(x0_3 == 8) = false:=beq_eq_false_iff_ne.mpr c57
       have c57b1:(x0_3 != 8) = true:=bne_iff_ne.mpr c57
       have H':=z_ H
       clear H
       go_wp2
       go_meet
       case rel=>exact ⟨_,(true),Adz,H',⟨by have:=HJ3.out;first|omega|exact Nat.le_refl _⟩,⟨by (with_reducible repeat first|apply Jx|apply A7|apply K0);exact BK101.out⟩,⟨by (with_reducible repeat first|apply Jx|apply A7|apply K0);exact BK102.out⟩,⟨by (with_reducible repeat first|apply Jx|apply A7|apply K0);exact BK103.out⟩,⟨by repeat first|(with_reducible first|exact HB.out|apply zA|apply zN|apply z1|refine zS ?_ GE101.out|refine zS ?_ GE102.out|refine zS ?_ GE103.out)|exact HB.out⟩⟩
   case rest =>
    clear HC26
    try clear c1
    try clear c2
    try clear p2
    try clear c3
    try clear c4
    try clear c5
    try clear c6
    try clear c8
    try clear c8b0
    try clear c8b1
    try clear c9
    try clear c9b0
    try clear c9b1
    try clear c10
    try clear c11
    try clear c13
    try clear c15
    try clear c15b0
    try clear c15b1
    try clear c16
    try clear c17
    try clear c19
    try clear c21
    try clear c22
    try clear c24
    try clear c27
    try clear c27b0
    try clear c27b1
    try clear c29
    try clear c30
    try clear c31
    try clear c32
    try clear c35
    try clear c38
    try clear c39
    try clear c42
    try clear c42b0
    try clear c42b1
    try clear c44
    try clear c46
    try clear c47
    try clear c50
    try clear c53
    try clear c54
    try clear c57
    try clear c57b0
    try clear c57b1
    try clear c59
    try clear c61
    try clear c62
    try clear c65
    try clear c68
    try clear c69
    try clear hcz12_0
    try clear hcz12_1
    try clear hcz12_2
    try clear hcz12_3
    try clear hcz14_0
    try clear hcz14_1
    try clear hcz14_2
    try clear hcz14_3
    try clear hcz18_0
    try clear hcz18_1
    try clear hcz18_2
    try clear hcz18_3
    try clear hcz20_0
    try clear hcz20_1
    try clear hcz20_2
    try clear hcz20_3
    try clear hcz23_0
    try clear hcz23_1
    try clear hcz23_2
    try clear hcz23_3
    try clear hcz25_0
    try clear hcz25_1
    try clear hcz25_2
    try clear hcz25_3
    try clear hcz33_0
    try clear hcz33_1
    try clear hcz33_2
    try clear hcz33_3
    try clear hcz36_0
    try clear hcz36_1
    try clear hcz36_2
    try clear hcz36_3
    try clear hcz40_0
    try clear hcz40_1
    try clear hcz40_2
    try clear hcz40_3
    try clear hcz48_0
    try clear hcz48_1
    try clear hcz48_2
    try clear hcz48_3
    try clear hcz51_0
    try clear hcz51_1
    try clear hcz51_2
    try clear hcz51_3
    try clear hcz55_0
    try clear hcz55_1
    try clear hcz55_2
    try clear hcz55_3
    try clear hcz63_0
    try clear hcz63_1
    try clear hcz63_2
    try clear hcz63_3
    try clear hcz66_0
    try clear hcz66_1
    try clear hcz66_2
    try clear hcz66_3
    try clear hcz70_0
    try clear hcz70_1
    try clear hcz70_2
    try clear hcz70_3
    try clear hfz12_0
    try clear hfz12_1
    try clear hfz12_2
    try clear hfz12_3
    try clear hfz14_0
    try clear hfz14_1
    try clear hfz14_2
    try clear hfz14_3
    try clear hfz18_0
    try clear hfz18_1
    try clear hfz18_2
    try clear hfz18_3
    try clear hfz20_0
    try clear hfz20_1
    try clear hfz20_2
    try clear hfz20_3
    try clear hfz23_0
    try clear hfz23_1
    try clear hfz23_2
    try clear hfz23_3
    try clear hfz25_0
    try clear hfz25_1
    try clear hfz25_2
    try clear hfz25_3
    try clear hfz33_0
    try clear hfz33_1
    try clear hfz33_2
    try clear hfz33_3
    try clear hfz36_0
    try clear hfz36_1
    try clear hfz36_2
    try clear hfz36_3
    try clear hfz40_0
    try clear hfz40_1
    try clear hfz40_2
    try clear hfz40_3
    try clear hfz48_0
    try clear hfz48_1
    try clear hfz48_2
    try clear hfz48_3
    try clear hfz51_0
    try clear hfz51_1
    try clear hfz51_2
    try clear hfz51_3
    try clear hfz55_0
    try clear hfz55_1
    try clear hfz55_2
    try clear hfz55_3
    try clear hfz63_0
    try clear hfz63_1
    try clear hfz63_2
    try clear hfz63_3
    try clear hfz66_0
    try clear hfz66_1
    try clear hfz66_2
    try clear hfz66_3
    try clear hfz70_0
    try clear hfz70_1
    try clear hfz70_2
    try clear hfz70_3
    try clear p2
    obtain ⟨kq,x22_25,rfl,HA,HJ25,BK101,BK102,BK103,HB⟩:=hcut
    cases kq with
    | zero=>exact absurd HA.out (by simp [Ad1.j1])
    | succ kj25 =>
     have H:=HA.out
     clear HA
     simp only [Ad1.j1] at H
     by_cases c72:x22_25 = true
     ·subst c72
      have H1:(some (0,0,0,(⟨#[]⟩:ByteArray),5)) = some (r1,r2,r3,r4,r5):=by rw [if_pos rfl] at H;exact H
      clear H
      have H:=H1
      clear H1
      simp only [Option.some.injEq,Prod.mk.injEq] at H
      obtain ⟨rfl,rfl,rfl,rfl,rfl⟩:=H
      have hnb73:=NB103_101.out
      have hnc73:=NB101_103.out
      have hnb74:=NB103_102.out
      have hnc74:=NB102_103.out
      obtain ⟨_,_,_,_,_,_,_,_⟩:=Rr BK103.out
      go_wp2
      refine bodyPost_ret (results_ct rfl _ _ gb103 28 #[.int .i64 0, .int .i64 0, .int .i64 0, .string (⟨#[]⟩:ByteArray)] (0,0) _ rfl zp6 Try.underlying28 rfl (by kernel_rfl)) rfl ?_
      exact ⟨by first|rfl|(simp [errW_none,errW_some] <;> rfl)|(simp [*,errW_none,errW_some] <;> rfl),by repeat first|(with_reducible first|exact HB.out|apply zA|apply zN|apply z1|refine zS ?_ GE101.out|refine zS ?_ GE102.out|refine zS ?_ GE103.out)|exact HB.out⟩
     ·replace c72:=Bool.eq_false_iff.mpr c72
      subst c72
      have H1:(if x102000_3 = 0 then (Ad1.j2 kj25 x0_3 true x102000_3 x102001_3 x102002_3 x102003_3 x103000_3 x103001_3 x103002_3 x103003_3) else (Ad1.j2 kj25 x0_3 (x103000_3 == 0) x102000_3 x102001_3 x102002_3 x102003_3 x103000_3 x103001_3 x103002_3 x103003_3)) = some (r1,r2,r3,r4,r5):=by rw [if_neg (show ¬ (false = true) by decide)] at H;exact H
      clear H
      have H:=H1
      clear H1
      have HC76:=z_ H
      clear H
      go_upto_region 8 with (fail)
      go_cut [44] (fun v44 wc=>∃ (kq:Nat) (x44_75:Bool),v44 = .bool x44_75 ∧ Aside0 (Ad1.j2 kq x0_3 x44_75 x102000_3 x102001_3 x102002_3 x102003_3 x103000_3 x103001_3 x103002_3 x103003_3 = some (r1,r2,r3,r4,r5)) ∧ Aside0 (kq ≤ kj25) ∧ Aside0 (wc.heap[gb101]? = some (.cells #[.int .i64 x102000_3, .int .i64 x102001_3, .int .i64 x102002_3, .string x102003_3] 28 (0,0))) ∧ Aside0 (wc.heap[gb102]? = some (.cells #[.int .i64 x103000_3, .int .i64 x103001_3, .int .i64 x103002_3, .string x103003_3] 28 (0,0))) ∧ Aside0 (wc.heap[gb103]? = some (.cells #[.int .i64 0, .int .i64 0, .int .i64 0, .string (⟨#[]⟩:ByteArray)] 28 (0,0))) ∧ Aside0 (Below w.heap.size w wc))
      case first =>
       have H:=HC76.out
       clear HC76
       by_cases c77:x102000_3 = 0
       ·rw [if_pos c77] at H
        have c77b0:(x102000_3 == 0) = true:=beq_iff_eq.mpr c77
        have c77b1:(x102000_3 != 0) = false:=bne_eq_false_iff_eq.mpr c77
        clear c77
        (first|rw [c77b0]|(simp only [i64_w,i32_w];rw [c77b0])|skip)
        have H':=z_ H
        clear H
        have hnb78:=NB101_102.out
        have hnc78:=NB102_101.out
        have hnb79:=NB101_103.out
        have hnc79:=NB103_101.out
        obtain ⟨_,_,_,_,_,_,_,_⟩:=Rr BK101.out
        go_wp2
        go_meet
        case rel=>exact ⟨_,(true),Adz,H',⟨by have:=HJ3.out;have:=HJ25.out;first|omega|exact Nat.le_refl _⟩,⟨by (with_reducible repeat first|apply Jx|apply A7|apply K0);exact BK101.out⟩,⟨by (with_reducible repeat first|apply Jx|apply A7|apply K0);exact BK102.out⟩,⟨by (with_reducible repeat first|apply Jx|apply A7|apply K0);exact BK103.out⟩,⟨by repeat first|(with_reducible first|exact HB.out|apply zA|apply zN|apply z1|refine zS ?_ GE101.out|refine zS ?_ GE102.out|refine zS ?_ GE103.out)|exact HB.out⟩⟩
       ·rw [if_neg c77] at H
        have c77b0:(x102000_3 == 0) = false:=beq_eq_false_iff_ne.mpr c77
        have c77b1:(x102000_3 != 0) = true:=bne_iff_ne.mpr c77
        (first|rw [c77b0]|(simp only [i64_w,i32_w];rw [c77b0])|skip)
        have H':=z_ H
        clear H
        have hnb81:=NB101_102.out
        have hnc81:=NB102_101.out
        have hnb82:=NB101_103.out
        have hnc82:=NB103_101.out
        obtain ⟨_,_,_,_,_,_,_,_⟩:=Rr BK101.out
        have hnb84:=NB102_103.out
        have hnc84:=NB103_102.out
        obtain ⟨_,_,_,_,_,_,_,_⟩:=Rr BK102.out
        go_wp2
        go_meet
        case rel=>exact ⟨_,((x103000_3 == 0)),Adz,H',⟨by have:=HJ3.out;have:=HJ25.out;first|omega|exact Nat.le_refl _⟩,⟨by (with_reducible repeat first|apply Jx|apply A7|apply K0);exact BK101.out⟩,⟨by (with_reducible repeat first|apply Jx|apply A7|apply K0);exact BK102.out⟩,⟨by (with_reducible repeat first|apply Jx|apply A7|apply K0);exact BK103.out⟩,⟨by repeat first|(with_reducible first|exact HB.out|apply zA|apply zN|apply z1|refine zS ?_ GE101.out|refine zS ?_ GE102.out|refine zS ?_ GE103.out)|exact HB.out⟩⟩
      case rest =>
       clear HC76
       try clear c1
       try clear c2
       try clear p2
       try clear c3
       try clear c4
       try clear c5
       try clear c6
       try clear c7
       try clear c8
       try clear c8b0
       try clear c8b1
       try clear c9
       try clear c9b0
       try clear c9b1
       try clear c10
       try clear c11
       try clear c13
       try clear c15
       try clear c15b0
       try clear c15b1
       try clear c16
       try clear c17
       try clear c19
       try clear c21
       try clear c22
       try clear c24
       try clear c27
       try clear c27b0
       try clear c27b1
       try clear c29
       try clear c30
       try clear c31
       try clear c32
       try clear c35
       try clear c38
       try clear c39
       try clear c42
       try clear c42b0
       try clear c42b1
       try clear c44
       try clear c46
       try clear c47
       try clear c50
       try clear c53
       try clear c54
       try clear c57
       try clear c57b0
       try clear c57b1
       try clear c59
       try clear c61
       try clear c62
       try clear c65
       try clear c68
       try clear c69
       try clear c72
       try clear c73
       try clear c74
       try clear c77
       try clear c77b0
       try clear c77b1
       try clear c78
       try clear c79
       try clear c81
       try clear c82
       try clear c84
       try clear hcz12_0
       try clear hcz12_1
       try clear hcz12_2
       try clear hcz12_3
       try clear hcz14_0
       try clear hcz14_1
       try clear hcz14_2
       try clear hcz14_3
       try clear hcz18_0
       try clear hcz18_1
       try clear hcz18_2
       try clear hcz18_3
       try clear hcz20_0
       try clear hcz20_1
       try clear hcz20_2
       try clear hcz20_3
       try clear hcz23_0
       try clear hcz23_1
       try clear hcz23_2
       try clear hcz23_3
       try clear hcz25_0
       try clear hcz25_1
       try clear hcz25_2
       try clear hcz25_3
       try clear hcz33_0
       try clear hcz33_1
       try clear hcz33_2
       try clear hcz33_3
       try clear hcz36_0
       try clear hcz36_1
       try clear hcz36_2
       try clear hcz36_3
       try clear hcz40_0
       try clear hcz40_1
       try clear hcz40_2
       try clear hcz40_3
       try clear hcz48_0
       try clear hcz48_1
       try clear hcz48_2
       try clear hcz48_3
       try clear hcz51_0
       try clear hcz51_1
       try clear hcz51_2
       try clear hcz51_3
       try clear hcz55_0
       try clear hcz55_1
       try clear hcz55_2
       try clear hcz55_3
       try clear hcz63_0
       try clear hcz63_1
       try clear hcz63_2
       try clear hcz63_3
       try clear hcz66_0
       try clear hcz66_1
       try clear hcz66_2
       try clear hcz66_3
       try clear hcz70_0
       try clear hcz70_1
       try clear hcz70_2
       try clear hcz70_3
       try clear hcz75_0
       try clear hcz75_1
       try clear hcz75_2
       try clear hcz75_3
       try clear hcz80_0
       try clear hcz80_1
       try clear hcz80_2
       try clear hcz80_3
       try clear hcz83_0
       try clear hcz83_1
       try clear hcz83_2
       try clear hcz83_3
       try clear hcz85_0
       try clear hcz85_1
       try clear hcz85_2
       try clear hcz85_3
       try clear hfz12_0
       try clear hfz12_1
       try clear hfz12_2
       try clear hfz12_3
       try clear hfz14_0
       try clear hfz14_1
       try clear hfz14_2
       try clear hfz14_3
       try clear hfz18_0
       try clear hfz18_1
       try clear hfz18_2
       try clear hfz18_3
       try clear hfz20_0
       try clear hfz20_1
       try clear hfz20_2
       try clear hfz20_3
       try clear hfz23_0
       try clear hfz23_1
       try clear hfz23_2
       try clear hfz23_3
       try clear hfz25_0
       try clear hfz25_1
       try clear hfz25_2
       try clear hfz25_3
       try clear hfz33_0
       try clear hfz33_1
       try clear hfz33_2
       try clear hfz33_3
       try clear hfz36_0
       try clear hfz36_1
       try clear hfz36_2
       try clear hfz36_3
       try clear hfz40_0
       try clear hfz40_1
       try clear hfz40_2
       try clear hfz40_3
       try clear hfz48_0
       try clear hfz48_1
       try clear hfz48_2
       try clear hfz48_3
       try clear hfz51_0
       try clear hfz51_1
       try clear hfz51_2
       try clear hfz51_3
       try clear hfz55_0
       try clear hfz55_1
       try clear hfz55_2
       try clear hfz55_3
       try clear hfz63_0
       try clear hfz63_1
       try clear hfz63_2
       try clear hfz63_3
       try clear hfz66_0
       try clear hfz66_1
       try clear hfz66_2
       try clear hfz66_3
       try clear hfz70_0
       try clear hfz70_1
       try clear hfz70_2
       try clear hfz70_3
       try clear hfz75_0
       try clear hfz75_1
       try clear hfz75_2
       try clear hfz75_3
       try clear hfz80_0
       try clear hfz80_1
       try clear hfz80_2
       try clear hfz80_3
       try clear hfz83_0
       try clear hfz83_1
       try clear hfz83_2
       try clear hfz83_3
       try clear hfz85_0
       try clear hfz85_1
       try clear hfz85_2
       try clear hfz85_3
       try clear p2
       obtain ⟨kq,x44_75,rfl,HA,HJ75,BK101,BK102,BK103,HB⟩:=hcut
       cases kq with
       | zero=>exact absurd HA.out (by simp [Ad1.j2])
       | succ kj75 =>
        have H:=HA.out
        clear HA
        simp only [Ad1.j2] at H
        by_cases c86:x44_75 = true
        ·subst c86
         have H1:(some (0,0,0,(⟨#[]⟩:ByteArray),0)) = some (r1,r2,r3,r4,r5):=by rw [if_pos rfl] at H;exact H
         clear H
         have H:=H1
         clear H1
         simp only [Option.some.injEq,Prod.mk.injEq] at H
         obtain ⟨rfl,rfl,rfl,rfl,rfl⟩:=H
         have hnb87:=NB103_101.out
         have hnc87:=NB101_103.out
         have hnb88:=NB103_102.out
         have hnc88:=NB102_103.out
         obtain ⟨_,_,_,_,_,_,_,_⟩:=Rr BK103.out
         go_wp2
         refine bodyPost_ret (results_ct rfl _ _ gb103 28 #[.int .i64 0, .int .i64 0, .int .i64 0, .string (⟨#[]⟩:ByteArray)] (0,0) _ rfl zp6 Try.underlying28 rfl (by kernel_rfl)) rfl ?_
         exact ⟨by first|rfl|(simp [errW_none,errW_some] <;> rfl)|(simp [*,errW_none,errW_some] <;> rfl),by repeat first|(with_reducible first|exact HB.out|apply zA|apply zN|apply z1|refine zS ?_ GE101.out|refine zS ?_ GE102.out|refine zS ?_ GE103.out)|exact HB.out⟩
        ·replace c86:=Bool.eq_false_iff.mpr c86
         subst c86
         have H1:(if x102000_3 = x103000_3 then (if x102000_3 = 2 then ((A2a.f x0_3 x102001_3 x103001_3).bind fun bt110=>(some (bt110.1,bt110.2.1,bt110.2.2.1,bt110.2.2.2.1,bt110.2.2.2.2))) else ((A01.f kj75 x0_3 x102000_3 x102001_3 x102002_3 x102003_3 x103000_3 x103001_3 x103002_3 x103003_3).bind fun bt115=>(some (bt115.1,bt115.2.1,bt115.2.2.1,bt115.2.2.2.1,bt115.2.2.2.2)))) else (some (0,0,0,(⟨#[]⟩:ByteArray),5))) = some (r1,r2,r3,r4,r5):=by rw [if_neg (show ¬ (false = true) by decide)] at H;exact H
         clear H
         have H:=H1
         clear H1
         by_cases c90:x102000_3 = x103000_3
         ·rw [if_pos c90] at H
          have c90b0:(x102000_3 == x103000_3) = true:=beq_iff_eq.mpr c90
          have c90b1:(x102000_3 != x103000_3) = false:=bne_eq_false_iff_eq.mpr c90
          clear c90
          by_cases c91:x102000_3 = 2
          ·rw [if_pos c91] at H
           have c91b0:(x102000_3 == 2) = true:=beq_iff_eq.mpr c91
           have c91b1:(x102000_3 != 2) = false:=bne_eq_false_iff_eq.mpr c91
           clear c91
           replace H:=Option.bind_eq_some_iff.mp H
           obtain ⟨⟨t110,t111,t112,t113,t114⟩,A920,H⟩:=H
           replace H:(some (t110,t111,t112,t113,t114)) = some (r1,r2,r3,r4,r5):=H
           have A92:=z_ A920
           clear A920
           simp only [Option.some.injEq,Prod.mk.injEq] at H
           obtain ⟨rfl,rfl,rfl,rfl,rfl⟩:=H
           have hnb93:=NB101_102.out
           have hnc93:=NB102_101.out
           have hnb94:=NB101_103.out
           have hnc94:=NB103_101.out
           obtain ⟨_,_,_,_,_,_,_,_⟩:=Rr BK101.out
           have hnb96:=NB102_103.out
           have hnc96:=NB103_102.out
           obtain ⟨_,_,_,_,_,_,_,_⟩:=Rr BK102.out
           go_wp2_with (first|((with_reducible refine gate_callee (f:=54) rfl ?_);refine goesL_ (some 70) rfl rfl Try.func54 (by kernel_rfl) rfl #[.int .i64 x0_3, .int .i64 x102001_3, .int .i64 x103001_3] rfl W4 ?_;(with_reducible refine (A2a.calls x0_3 x102001_3 x103001_3 t110 t111 t112 t113 t114 _ A92.out).mono ?_);rintro e w98 ⟨rfl,hb⟩;refine ⟨_,rfl,?_⟩;replace BK101:=z_ (zk BK101.out hb);replace BK102:=z_ (zk BK102.out hb);replace BK103:=z_ (zk BK103.out hb);replace HB:=z_ (below_step zp3 hb);(try clear hb);(try clear hb2);(try clear hk);(try clear hi);obtain ⟨_,_,_,_,_,_,_,_⟩:=Rr BK103.out))
           refine bodyPost_ret (results_ct rfl _ _ gb103 28 #[.int .i64 t110, .int .i64 t111, .int .i64 t112, .string t113] (0,0) _ rfl (by (with_reducible repeat first|apply Jx|apply A7|apply K0);refine Tt (cs:=#[.int .i64 t110, .int .i64 t111, .int .i64 t112, .string (⟨#[]⟩:ByteArray)]) ?_ 3 _ rfl;(with_reducible repeat first|apply Jx|apply A7|apply K0);refine Tt (cs:=#[.int .i64 t110, .int .i64 t111, .int .i64 0, .string (⟨#[]⟩:ByteArray)]) ?_ 2 _ rfl;(with_reducible repeat first|apply Jx|apply A7|apply K0);refine Tt (cs:=#[.int .i64 t110, .int .i64 0, .int .i64 0, .string (⟨#[]⟩:ByteArray)]) ?_ 1 _ rfl;(with_reducible repeat first|apply Jx|apply A7|apply K0);refine Tt (cs:=#[.int .i64 0, .int .i64 0, .int .i64 0, .string (⟨#[]⟩:ByteArray)]) ?_ 0 _ rfl;(with_reducible repeat first|apply Jx|apply A7|apply K0);exact BK103.out) Try.underlying28 rfl (by kernel_rfl)) rfl ?_
           exact ⟨by first|rfl|(simp [errW_none,errW_some] <;> rfl)|(simp [*,errW_none,errW_some] <;> rfl),by repeat first|(with_reducible first|exact HB.out|apply zA|apply zN|apply z1|refine zS ?_ GE101.out|refine zS ?_ GE102.out|refine zS ?_ GE103.out)|exact HB.out⟩
          ·rw [if_neg c91] at H
           have c91b0:(x102000_3 == 2) = false:=beq_eq_false_iff_ne.mpr c91
           have c91b1:(x102000_3 != 2) = true:=bne_iff_ne.mpr c91
           replace H:=Option.bind_eq_some_iff.mp H
           obtain ⟨⟨t115,t116,t117,t118,t119⟩,A1000,H⟩:=H
           replace H:(some (t115,t116,t117,t118,t119)) = some (r1,r2,r3,r4,r5):=H
           have A100:=z_ A1000
           clear A1000
           simp only [Option.some.injEq,Prod.mk.injEq] at H
           obtain ⟨rfl,rfl,rfl,rfl,rfl⟩:=H
           have hnb101:=NB101_102.out
           have hnc101:=NB102_101.out
           have hnb102:=NB101_103.out
           have hnc102:=NB103_101.out
           obtain ⟨_,_,_,_,_,_,_,_⟩:=Rr BK101.out
           have hnb104:=NB102_103.out
           have hnc104:=NB103_102.out
           obtain ⟨_,_,_,_,_,_,_,_⟩:=Rr BK102.out
           go_wp2_with (first|((with_reducible refine gate_callee (f:=55) rfl ?_);refine goesL_ (some 76) rfl rfl Try.func55 (by kernel_rfl) rfl #[.int .i64 x0_3, .agg #[.int .i64 x102000_3, .int .i64 x102001_3, .int .i64 x102002_3, .string x102003_3], .agg #[.int .i64 x103000_3, .int .i64 x103001_3, .int .i64 x103002_3, .string x103003_3]] rfl W4 ?_;(with_reducible refine (A01.calls kj75 x0_3 x102000_3 x102001_3 x102002_3 x102003_3 x103000_3 x103001_3 x103002_3 x103003_3 t115 t116 t117 t118 t119 _ A100.out).mono ?_);rintro e w106 ⟨rfl,hb⟩;refine ⟨_,rfl,?_⟩;replace BK101:=z_ (zk BK101.out hb);replace BK102:=z_ (zk BK102.out hb);replace BK103:=z_ (zk BK103.out hb);replace HB:=z_ (below_step zp3 hb);(try clear hb);(try clear hb2);(try clear hk);(try clear hi);obtain ⟨_,_,_,_,_,_,_,_⟩:=Rr BK103.out))
           refine bodyPost_ret (results_ct rfl _ _ gb103 28 #[.int .i64 t115, .int .i64 t116, .int .i64 t117, .string t118] (0,0) _ rfl (by (with_reducible repeat first|apply Jx|apply A7|apply K0);refine Tt (cs:=#[.int .i64 t115, .int .i64 t116, .int .i64 t117, .string (⟨#[]⟩:ByteArray)]) ?_ 3 _ rfl;(with_reducible repeat first|apply Jx|apply A7|apply K0);refine Tt (cs:=#[.int .i64 t115, .int .i64 t116, .int .i64 0, .string (⟨#[]⟩:ByteArray)]) ?_ 2 _ rfl;(with_reducible repeat first|apply Jx|apply A7|apply K0);refine Tt (cs:=#[.int .i64 t115, .int .i64 0, .int .i64 0, .string (⟨#[]⟩:ByteArray)]) ?_ 1 _ rfl;(with_reducible repeat first|apply Jx|apply A7|apply K0);refine Tt (cs:=#[.int .i64 0, .int .i64 0, .int .i64 0, .string (⟨#[]⟩:ByteArray)]) ?_ 0 _ rfl;(with_reducible repeat first|apply Jx|apply A7|apply K0);exact BK103.out) Try.underlying28 rfl (by kernel_rfl)) rfl ?_
           exact ⟨by first|rfl|(simp [errW_none,errW_some] <;> rfl)|(simp [*,errW_none,errW_some] <;> rfl),by repeat first|(with_reducible first|exact HB.out|apply zA|apply zN|apply z1|refine zS ?_ GE101.out|refine zS ?_ GE102.out|refine zS ?_ GE103.out)|exact HB.out⟩
         ·rw [if_neg c90] at H
          have c90b0:(x102000_3 == x103000_3) = false:=beq_eq_false_iff_ne.mpr c90
          have c90b1:(x102000_3 != x103000_3) = true:=bne_iff_ne.mpr c90
          simp only [Option.some.injEq,Prod.mk.injEq] at H
          obtain ⟨rfl,rfl,rfl,rfl,rfl⟩:=H
          have hnb108:=NB101_102.out
          have hnc108:=NB102_101.out
          have hnb109:=NB101_103.out
          have hnc109:=NB103_101.out
          obtain ⟨_,_,_,_,_,_,_,_⟩:=Rr BK101.out
          have hnb111:=NB102_103.out
          have hnc111:=NB103_102.out
          obtain ⟨_,_,_,_,_,_,_,_⟩:=Rr BK102.out
          obtain ⟨_,_,_,_,_,_,_,_⟩:=Rr BK103.out
          go_wp2
          refine bodyPost_ret (results_ct rfl _ _ gb103 28 #[.int .i64 0, .int .i64 0, .int .i64 0, .string (⟨#[]⟩:ByteArray)] (0,0) _ rfl zp6 Try.underlying28 rfl (by kernel_rfl)) rfl ?_
          exact ⟨by first|rfl|(simp [errW_none,errW_some] <;> rfl)|(simp [*,errW_none,errW_some] <;> rfl),by repeat first|(with_reducible first|exact HB.out|apply zA|apply zN|apply z1|refine zS ?_ GE101.out|refine zS ?_ GE102.out|refine zS ?_ GE103.out)|exact HB.out⟩
end Go.Proofs.Ytglffgneikoeaaa.M
namespace Go.Proofs.Ytglffgneikoeaaa.M
open Go.RowKit Go.Proofs.YtglffgneikoeaaaW.PrintWords Go.Proofs.YtglffgneikoeaaaW.PrintLast Go.Proofs.YtglffgneikoeaaaW.PrintMore
attribute [local go_sem] max2_int min2_int max_two min_two max_three min_three max_four min_four
attribute [local go_sem high] own_gtr own_leq own_geq own_cell_set Option.map_some
set_option linter.unusedVariables false
set_option linter.unusedSimpArgs false
def Aek.f (a0_0:Int) (a0_1:Int) (a0_2:Int) (a0_3:ByteArray):Option (Bool):=if a0_0 = 0 then (some true) else (if a0_0 = 2 then (some true) else (some (a0_0 == 3)))
set_option maxHeartbeats 8000000 in
set_option maxRecDepth 100000 in
theorem Aek.calls (a0_0:Int) (a0_1:Int) (a0_2:Int) (a0_3:ByteArray) (r:Bool) (w:World) (h:Aek.f a0_0 a0_1 a0_2 a0_3 = some r) :
  Calls Try.prog 73 #[.agg #[.int .i64 a0_0, .int .i64 a0_1, .int .i64 a0_2, .string a0_3]] w fun e w'=>e = .returned (.bool r) ∧ Below w.heap.size w w':=by
 have hu28:=Try.underlying28
 have HB:=z_ (Below.refl w.heap.size w)
 have H:(if a0_0 = 0 then (some true) else (if a0_0 = 2 then (some true) else (some (a0_0 == 3)))) = some r:=h
 clear h
 by_cases c2:a0_0 = 0
 ·rw [if_pos c2] at H
  have c2b0:(a0_0 == 0) = true:=beq_iff_eq.mpr c2
  have c2b1:(a0_0 != 0) = false:=bne_eq_false_iff_eq.mpr c2
  clear c2
  obtain rfl:=Option.some.inj H
  go_enter Try.func73,Try.ntmps73
  go_wp2_with (first|((with_reducible refine gate_dst (N:=1) rfl ?_);refine box_event (by rfl) (N:=1) (by rfl) (cs:=#[.int .i64 a0_0, .int .i64 a0_1, .int .i64 a0_2, .string a0_3]) (t:=28) W3 ?_;intro gb101 hg w3 hbox hb;have BK101:=z_ (hbox);have GW101:=z_ ((W0:w.heap.size ≤ gb101));have GE101:=z_ ((W0:w.heap.size ≤ gb101));replace HB:=z_ (below_step W5 hb);clear hb hbox hg;obtain ⟨_,_,_,_,_,_,_,_⟩:=Rr BK101.out))
  go_ret
  exact ⟨by first|rfl|(simp [errW_none,errW_some] <;> rfl)|(simp [*,errW_none,errW_some] <;> rfl),by repeat first|(with_reducible first|exact HB.out|apply zA|apply zN|apply z1|refine zS ?_ GE101.out)|exact HB.out⟩
 ·rw [if_neg c2] at H
  have c2b0:(a0_0 == 0) = false:=beq_eq_false_iff_ne.mpr c2
  have c2b1:(a0_0 != 0) = true:=bne_iff_ne.mpr c2
  by_cases c5:a0_0 = 2
  ·rw [if_pos c5] at H
   have c5b0:(a0_0 == 2) = true:=beq_iff_eq.mpr c5
   have c5b1:(a0_0 != 2) = false:=bne_eq_false_iff_eq.mpr c5
   clear c5
   obtain rfl:=Option.some.inj H
   go_enter Try.func73,Try.ntmps73
   go_wp2_with (first|((with_reducible refine gate_dst (N:=1) rfl ?_);refine box_event (by rfl) (N:=1) (by rfl) (cs:=#[.int .i64 a0_0, .int .i64 a0_1, .int .i64 a0_2, .string a0_3]) (t:=28) W3 ?_;intro gb101 hg w6 hbox hb;have BK101:=z_ (hbox);have GW101:=z_ ((W0:w.heap.size ≤ gb101));have GE101:=z_ ((W0:w.heap.size ≤ gb101));replace HB:=z_ (below_step W5 hb);clear hb hbox hg;obtain ⟨_,_,_,_,_,_,_,_⟩:=Rr BK101.out))
   go_ret
   exact ⟨by first|rfl|(simp [errW_none,errW_some] <;> rfl)|(simp [*,errW_none,errW_some] <;> rfl),by repeat first|(with_reducible first|exact HB.out|apply zA|apply zN|apply z1|refine zS ?_ GE101.out)|exact HB.out⟩
  ·rw [if_neg c5] at H
   have c5b0:(a0_0 == 2) = false:=beq_eq_false_iff_ne.mpr c5
   have c5b1:(a0_0 != 2) = true:=bne_iff_ne.mpr c5
   obtain rfl:=Option.some.inj H
   go_enter Try.func73,Try.ntmps73
   go_wp2_with (first|((with_reducible refine gate_dst (N:=1) rfl ?_);refine box_event (by rfl) (N:=1) (by rfl) (cs:=#[.int .i64 a0_0, .int .i64 a0_1, .int .i64 a0_2, .string a0_3]) (t:=28) W3 ?_;intro gb101 hg w8 hbox hb;have BK101:=z_ (hbox);have GW101:=z_ ((W0:w.heap.size ≤ gb101));have GE101:=z_ ((W0:w.heap.size ≤ gb101));replace HB:=z_ (below_step W5 hb);clear hb hbox hg;obtain ⟨_,_,_,_,_,_,_,_⟩:=Rr BK101.out))
   go_ret
   exact ⟨by first|rfl|(simp [errW_none,errW_some] <;> rfl)|(simp [*,errW_none,errW_some] <;> rfl),by repeat first|(with_reducible first|exact HB.out|apply zA|apply zN|apply z1|refine zS ?_ GE101.out)|exact HB.out⟩
end Go.Proofs.Ytglffgneikoeaaa.M
namespace Go.Proofs.Ytglffgneikoeaaa.M
open Go.RowKit Go.Proofs.YtglffgneikoeaaaW.PrintWords Go.Proofs.YtglffgneikoeaaaW.PrintLast Go.Proofs.YtglffgneikoeaaaW.PrintMore
attribute [local go_sem] max2_int min2_int max_two min_two max_three min_three max_four min_four
attribute [local go_sem high] own_gtr own_leq own_geq own_cell_set Option.map_some
set_option linter.unusedVariables false
set_option linter.unusedSimpArgs false
def A2n.f (a0:Int) (a1_0:Int) (a1_1:Int) (a1_2:Int) (a1_3:ByteArray) (a2_0:Int) (a2_1:Int) (a2_2:Int) (a2_3:ByteArray):Option (Int × Int × Int × ByteArray × Bool):=(Amp.f a0 a1_1 a2_1).bind fun bt104=>(some (2,bt104.1,0,(⟨#[]⟩:ByteArray),bt104.2))
set_option maxHeartbeats 8000000 in
set_option maxRecDepth 100000 in
theorem A2n.calls (a0:Int) (a1_0:Int) (a1_1:Int) (a1_2:Int) (a1_3:ByteArray) (a2_0:Int) (a2_1:Int) (a2_2:Int) (a2_3:ByteArray) (r1:Int) (r2:Int) (r3:Int) (r4:ByteArray) (r5:Bool) (w:World) (h:A2n.f a0 a1_0 a1_1 a1_2 a1_3 a2_0 a2_1 a2_2 a2_3 = some (r1,r2,r3,r4,r5)) :
  Calls Try.prog 80 #[.int .i64 a0, .agg #[.int .i64 a1_0, .int .i64 a1_1, .int .i64 a1_2, .string a1_3], .agg #[.int .i64 a2_0, .int .i64 a2_1, .int .i64 a2_2, .string a2_3]] w fun e w'=>e = .returned (.tuple #[.agg #[.int .i64 r1, .int .i64 r2, .int .i64 r3, .string r4], .bool r5]) ∧ Below w.heap.size w w':=by
 have hu28:=Try.underlying28
 have HB:=z_ (Below.refl w.heap.size w)
 have H:((Amp.f a0 a1_1 a2_1).bind fun bt104=>(some (2,bt104.1,0,(⟨#[]⟩:ByteArray),bt104.2))) = some (r1,r2,r3,r4,r5):=h
 clear h
 replace H:=Option.bind_eq_some_iff.mp H
 obtain ⟨⟨t104,t105⟩,A40,H⟩:=H
 replace H:(some (2,t104,0,(⟨#[]⟩:ByteArray),t105)) = some (r1,r2,r3,r4,r5):=H
 have A4:=z_ A40
 clear A40
 simp only [Option.some.injEq,Prod.mk.injEq] at H
 obtain ⟨rfl,rfl,rfl,rfl,rfl⟩:=H
 go_enter Try.func80,Try.ntmps80
 go_wp2_with (first|((with_reducible refine gate_dst (N:=4) rfl ?_);refine box_event (by rfl) (N:=4) (by rfl) (cs:=#[.int .i64 a1_0, .int .i64 a1_1, .int .i64 a1_2, .string a1_3]) (t:=28) W3 ?_;intro gb101 hg w5 hbox hb;have BK101:=z_ (hbox);have GW101:=z_ ((W0:w.heap.size ≤ gb101));have GE101:=z_ ((W0:w.heap.size ≤ gb101));replace HB:=z_ (below_step W5 hb);clear hb hbox hg)|((with_reducible refine gate_dst (N:=5) rfl ?_);refine box_event (by rfl) (N:=5) (by rfl) (cs:=#[.int .i64 a2_0, .int .i64 a2_1, .int .i64 a2_2, .string a2_3]) (t:=28) W3 ?_;intro gb102 hg w6 hbox hb;have BK102:=z_ (hbox);have GW102:=z_ ((W6:w.heap.size ≤ gb102));have GE102:=z_ ((W6:w.heap.size ≤ gb102));replace HB:=z_ (below_step zp1 hb);have NB101_102:=z_ ((Aeh:gb101 ≠ gb102));have NB102_101:=z_ ((Aei:gb102 ≠ gb101));replace BK101:=z_ (zk BK101.out hb);clear hb hbox hg)|((with_reducible refine gate_dst (N:=6) rfl ?_);refine box_event (by rfl) (N:=6) (by rfl) (cs:=#[.int .i64 0, .int .i64 0, .int .i64 0, .string (⟨#[]⟩:ByteArray)]) (t:=28) W3 ?_;intro gb103 hg w7 hbox hb;have BK103:=z_ (hbox);have GW103:=z_ ((Aen:w.heap.size ≤ gb103));have GE103:=z_ ((Aen:w.heap.size ≤ gb103));replace HB:=z_ (below_step zp5 hb);have NB101_103:=z_ ((Aeh:gb101 ≠ gb103));have NB103_101:=z_ ((Aei:gb103 ≠ gb101));replace BK101:=z_ (zk BK101.out hb);have NB102_103:=z_ ((Amd:gb102 ≠ gb103));have NB103_102:=z_ ((Aet:gb103 ≠ gb102));replace BK102:=z_ (zk BK102.out hb);clear hb hbox hg;have hnb8:=NB101_102.out;have hnc8:=NB102_101.out;have hnb9:=NB101_103.out;have hnc9:=NB103_101.out;obtain ⟨_,_,_,_,_,_,_,_⟩:=Rr BK101.out;have hnb11:=NB102_103.out;have hnc11:=NB103_102.out;obtain ⟨_,_,_,_,_,_,_,_⟩:=Rr BK102.out)|((with_reducible refine gate_callee (f:=92) rfl ?_);refine goesL_ (some 16) rfl rfl Try.func92 (by kernel_rfl) rfl #[.int .i64 a0, .int .i64 a1_1, .int .i64 a2_1] rfl W4 ?_;(with_reducible refine (Amp.calls a0 a1_1 a2_1 t104 t105 _ A4.out).mono ?_);rintro e w' ⟨rfl,⟨nd,rfl⟩⟩;refine ⟨_,rfl,?_⟩;(try (rw [drewN_self w7];generalize hq_:World.drewN w7 _ = w7;have n0_:Aside0 (w7.heap[gb101]? = some (.cells #[.int .i64 a1_0, .int .i64 a1_1, .int .i64 a1_2, .string a1_3] 28 (0,0))):=⟨by rw [← hq_];exact zp2⟩;have n1_:Aside0 (w7.heap[gb102]? = some (.cells #[.int .i64 a2_0, .int .i64 a2_1, .int .i64 a2_2, .string a2_3] 28 (0,0))):=⟨by rw [← hq_];exact zp7⟩;have n2_:Aside0 (w7.heap[gb103]? = some (.cells #[.int .i64 0, .int .i64 0, .int .i64 0, .string (⟨#[]⟩:ByteArray)] 28 (0,0))):=⟨by rw [← hq_];exact Aeq⟩;have n3_:Aside0 (Below w.heap.size w w7):=⟨by rw [← hq_];exact zp3⟩;clear BK101 BK102 BK103 HB hq_;have BK101:=n0_;have BK102:=n1_;have BK103:=n2_;have HB:=n3_;clear n0_ n1_ n2_ n3_));(try have hcu13_0:w7.cell? ⟨gb101,0,none⟩ = some (.int .i64 a1_0):=(Oi BK101.out 0).trans rfl);(try have hcu13_1:w7.cell? ⟨gb101,1,none⟩ = some (.int .i64 a1_1):=(Oi BK101.out 1).trans rfl);(try have hcu13_2:w7.cell? ⟨gb101,2,none⟩ = some (.int .i64 a1_2):=(Oi BK101.out 2).trans rfl);(try have hcu13_3:w7.cell? ⟨gb101,3,none⟩ = some (.string a1_3):=(Oi BK101.out 3).trans rfl);(try have hfu13_0:=S3 BK101.out 0);(try have hfu13_1:=S3 BK101.out 1);(try have hfu13_2:=S3 BK101.out 2);(try have hfu13_3:=S3 BK101.out 3);(try have hcu14_0:w7.cell? ⟨gb102,0,none⟩ = some (.int .i64 a2_0):=(Oi BK102.out 0).trans rfl);(try have hcu14_1:w7.cell? ⟨gb102,1,none⟩ = some (.int .i64 a2_1):=(Oi BK102.out 1).trans rfl);(try have hcu14_2:w7.cell? ⟨gb102,2,none⟩ = some (.int .i64 a2_2):=(Oi BK102.out 2).trans rfl);(try have hcu14_3:w7.cell? ⟨gb102,3,none⟩ = some (.string a2_3):=(Oi BK102.out 3).trans rfl);(try have hfu14_0:=S3 BK102.out 0);(try have hfu14_1:=S3 BK102.out 1);(try have hfu14_2:=S3 BK102.out 2);(try have hfu14_3:=S3 BK102.out 3);(try have hcu15_0:w7.cell? ⟨gb103,0,none⟩ = some (.int .i64 0):=(Oi BK103.out 0).trans rfl);(try have hcu15_1:w7.cell? ⟨gb103,1,none⟩ = some (.int .i64 0):=(Oi BK103.out 1).trans rfl);(try have hcu15_2:w7.cell? ⟨gb103,2,none⟩ = some (.int .i64 0):=(Oi BK103.out 2).trans rfl);(try have hcu15_3:w7.cell? ⟨gb103,3,none⟩ = some (.string (⟨#[]⟩:ByteArray)):=(Oi BK103.out 3).trans rfl);(try have hfu15_0:=S3 BK103.out 0);(try have hfu15_1:=S3 BK103.out 1);(try have hfu15_2:=S3 BK103.out 2);(try have hfu15_3:=S3 BK103.out 3);obtain ⟨_,_,_,_,_,_,_,_⟩:=Rr BK103.out))
 refine bodyPost_ret (results_ct rfl _ _ gb103 28 #[.int .i64 2, .int .i64 t104, .int .i64 0, .string (⟨#[]⟩:ByteArray)] (0,0) _ rfl (by (with_reducible repeat first|apply Jx|apply A7|apply K0);refine Tt (cs:=#[.int .i64 2, .int .i64 t104, .int .i64 0, .string (⟨#[]⟩:ByteArray)]) ?_ 3 _ rfl;(with_reducible repeat first|apply Jx|apply A7|apply K0);refine Tt (cs:=#[.int .i64 2, .int .i64 t104, .int .i64 0, .string (⟨#[]⟩:ByteArray)]) ?_ 2 _ rfl;(with_reducible repeat first|apply Jx|apply A7|apply K0);refine Tt (cs:=#[.int .i64 2, .int .i64 0, .int .i64 0, .string (⟨#[]⟩:ByteArray)]) ?_ 1 _ rfl;(with_reducible repeat first|apply Jx|apply A7|apply K0);refine Tt (cs:=#[.int .i64 0, .int .i64 0, .int .i64 0, .string (⟨#[]⟩:ByteArray)]) ?_ 0 _ rfl;(with_reducible repeat first|apply Jx|apply A7|apply K0);exact BK103.out) Try.underlying28 rfl (by kernel_rfl)) rfl ?_
 exact ⟨by first|rfl|(simp [errW_none,errW_some] <;> rfl)|(simp [*,errW_none,errW_some] <;> rfl),by repeat first|(with_reducible first|exact HB.out|apply zA|apply zN|apply z1|refine zS ?_ GE101.out|refine zS ?_ GE102.out|refine zS ?_ GE103.out)|exact HB.out⟩
end Go.Proofs.Ytglffgneikoeaaa.M
